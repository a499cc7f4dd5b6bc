/- Part 8 of the texts of this proof, one behind the other; each begins with its own sentence. No condition beyond those that its theorems state. -/
import Derived.Test.YtlkckkagoommaaaCo7
import Derived.Deep.DrawnRows
/- value.plain, Right, schema.Fits, expr.Eval for rows whose texts are of any length. For every row. -/
namespace Go.Proofs.Ytlkckkagoommaaa
open Go.RowKit
attribute [local go_sem ↓] Go.wp_at_zero Go.wp_at_succ

theorem right_size {v : VD} (h : v.right = true) : v.text.size ≤ 64 := by
  obtain ⟨k, n, t⟩ := v
  have h0 : ∀ {s : ByteArray}, s.toList.isEmpty = true → s.size ≤ 64 := fun {s} hs => by
    rw [isEmpty_S] at hs
    rw [of_decide_eq_true hs]
    exact Nat.zero_le _
  rcases right_kinds h with hk | hk | hk
  · have hk : k = 0 := hk
    subst hk
    rw [right0, Bool.and_eq_true] at h
    exact h0 h.2
  · have hk : k = 1 := hk
    subst hk
    rw [right1] at h
    exact h0 h
  · have hk : k = 2 := hk
    subst hk
    rw [right2, Bool.and_eq_true] at h
    have h2 := h.2
    unfold plainV at h2
    rw [Bool.and_eq_true, decide_eq_true_eq, size_toList] at h2
    exact h2.2
theorem row_right {cs : List CD} {row : List VD} (hf : fitR cs row = true) : ∀ v ∈ row, v.right = true := fun v hv => by
  obtain ⟨k, hk, rfl⟩ := List.mem_iff_getElem.1 hv
  have h := fitR_at hf k (by have := fitR_len hf; omega) hk
  unfold fitC at h
  rw [Bool.and_eq_true] at h
  exact h.1
theorem row_size {cs : List CD} {row : List VD} (hf : fitR cs row = true) : ∀ v ∈ row, v.text.size ≤ 140737000000000 := fun v hv => by
  have := right_size (row_right hf v hv)
  omega
set_option maxRecDepth 20000 in
set_option maxHeartbeats 800000 in
theorem plain_big (t : List UInt8) (hs : t.length ≤ 9223372036854775807) (w : World) :
    Calls Try.prog 39 #[.string (S t)] w fun e w' => e = .returned (.bool (plainV t)) ∧ Touch [] w w' := by
  go_enter Try.func39, Try.ntmps39
  have hconv := run_bytes_of t w
  have hsz := S_size t
  have hr := rd_bytes w t
  have ht := touch_bytes w t
  obtain ⟨W, hW⟩ : ∃ W, W = Lib.bytesWorld w 5 (S t) := ⟨_, rfl⟩
  rw [← hW] at hconv hr ht
  clear hW
  go_wp2_with fail
  clear hconv
  go_loop [8] (fun i => ∃ k : Nat, k ≤ t.length ∧ i = .int .i64 k ∧ Hid ((t.take k).all okB = true)) (fun i => t.length - (intOf i).toNat)
  case atStart => exact ⟨0, by omega, rfl, Lib.hid rfl⟩
  case round =>
    obtain ⟨k, hk, rfl, hall⟩ := hrel
    by_cases hlt : k < t.length
    · obtain ⟨ad, e1, hcell⟩ := hr.at_ k hlt
      obtain rfl : ⟨w.heap.size, 0, none⟩ = ad := by injection e1
      obtain ⟨x, hx⟩ : ∃ x, x = t[k] := ⟨_, rfl⟩
      have hadd : (⟨w.heap.size, 0, none⟩ : Addr).add k = ⟨w.heap.size, k, none⟩ := by unfold Addr.add; split <;> simp_all
      rw [← hx, hadd] at hcell
      have hxl := x.toNat_lt
      have hbad : okB x = false → plainV t = false := fun h => by
        unfold plainV
        have : t.all okB = false := by
          rw [List.all_eq_false]
          exact ⟨t[k], List.getElem_mem hlt, by rw [← hx, h]; simp⟩
        rw [this]; rfl
      have hgood : okB x = true → (t.take (k + 1)).all okB = true := fun h => by
        rw [List.take_succ_eq_append_getElem hlt, List.all_append, hall.out, ← hx]
        simp [h]
      have Hb := Lib.hid hbad
      have Hg := Lib.hid hgood
      clear hbad hgood hx hall e1 hadd
      by_cases h1 : x.toNat < 32
      · have hz : ((x.toNat : Int) < 32) = True := eq_true (by omega)
        go_wp2
        go_ret
        exact ⟨by rw [Hb.out (by simp [okB]; omega)]; rfl, ht⟩
      have hz : ((x.toNat : Int) < 32) = False := eq_false (by omega)
      by_cases h2 : 126 < x.toNat
      · have hy : (126 < (x.toNat : Int)) = True := eq_true (by omega)
        go_wp2
        go_ret
        exact ⟨by rw [Hb.out (by simp [okB]; omega)]; rfl, ht⟩
      · have hy : (126 < (x.toNat : Int)) = False := eq_false (by omega)
        go_wp2
        go_round
        case rel => exact ⟨k + 1, by omega, by go_num, Lib.hid (Hg.out (by simp [okB]; omega))⟩
        case measure => simp [intOf]; omega
    · obtain rfl : k = t.length := by omega
      have hfin : plainV t = decide ((t.length : Int) ≤ 64) := by
        have h := hall.out
        rw [List.take_length] at h
        unfold plainV
        rw [h, Bool.true_and]
        exact decide_eq_decide.2 (by omega)
      have Hf := Lib.hid hfin
      clear hfin hall
      go_wp2
      go_ret
      exact ⟨by rw [Hf.out]; rfl, ht⟩
set_option maxRecDepth 20000 in
set_option maxHeartbeats 800000 in
theorem right_big (v : VD) (hs : v.text.size ≤ 9223372036854775807) (w : World) :
    Calls Try.prog 16 #[v.val] w fun e w' => e = .returned (.bool v.right) ∧ Touch [] w w' := by
  obtain ⟨k, n, s⟩ := v
  dsimp only [VD.val] at *
  go_enter Try.func16, Try.ntmps16
  have t0 := (Touch.refl [] w).alloc (.cells #[.int .i64 k, .int .i64 n, .string s] 30)
  have hp := plain_big s.data.toList (by rw [size_toList]; exact hs) (w.alloc (.cells #[.int .i64 2, .int .i64 0, .string s] 30))
  rw [S_of] at hp
  have Hp := Lib.hid hp
  clear hp
  by_cases h0 : k = 0
  · subst h0
    by_cases hn : n = 0
    · subst hn
      go_wp2_with fail
      go_ret
      exact ⟨rfl, t0⟩
    · have hne : (n == 0) = false := by simpa using hn
      have hr : VD.right ⟨0, n, s⟩ = false := by simp [VD.right, hn]
      have Hr := Lib.hid hr
      clear hr
      go_wp2_with fail
      go_ret
      exact ⟨by rw [Hr.out]; rfl, t0⟩
  by_cases h1 : k = 1
  · subst h1
    go_wp2_with fail
    go_ret
    exact ⟨rfl, t0⟩
  by_cases h2 : k = 2
  · subst h2
    by_cases hn : n = 0
    · subst hn
      go_wp2_with fail
      refine Hp.out.mono ?_
      rintro e w1 ⟨rfl, t1⟩
      go_wp2_with fail
      go_ret
      exact ⟨rfl, t0.trans0 t1⟩
    · have hne : (n == 0) = false := by simpa using hn
      have hr : VD.right ⟨2, n, s⟩ = false := by simp [VD.right, hn]
      have Hr := Lib.hid hr
      clear hr
      go_wp2_with fail
      go_ret
      exact ⟨by rw [Hr.out]; rfl, t0⟩
  · have hr : VD.right ⟨k, n, s⟩ = false := by simp [VD.right, h0, h1, h2]
    have Hr := Lib.hid hr
    clear hr
    go_wp2_with fail
    go_ret
    exact ⟨by rw [Hr.out]; rfl, t0⟩
set_option maxRecDepth 20000 in
set_option maxHeartbeats 6400000 in
theorem fits_big (A : Option Addr) (cap n : Nat) (cs : List CD) (hn : cs.length = n) (hok : ∀ c ∈ cs, c.Ok) (B : Option Addr) (bcap m : Nat) (vs : List VD) (hm : vs.length = m) (hvk : ∀ v ∈ vs, v.Ok 9223372036854775807)
    (w : World) (h : ColsAt w A cs) (hv : ValsAt w B vs) (hl : n ≤ 140737000000000) (hl2 : m ≤ 9223372036854775807) :
    Calls Try.prog 15 #[.slice A n cap, .slice B m bcap] w fun e w' => e = .returned (.bool (decide (checkV cs = 0) && fitR cs vs)) ∧ Touch [] w w' := by
  subst hn hm
  have hchk := check_any A cap cs.length cs rfl hok w h (by omega)
  by_cases hc0 : checkV cs = 0
  · rw [hc0] at hchk
    have Hchk := Lib.hid hchk; have Hc0 := Lib.hid (show (decide (checkV cs = 0) && fitR cs vs) = fitR cs vs by rw [hc0]; rfl)
    clear hchk hc0
    by_cases hlen : vs.length = cs.length
    · have Hlen := Lib.hid hlen
      have hl3 : vs.length ≤ 140737000000000 := by omega
      go_enter Try.func15, Try.ntmps15
      go_wp2_with (go_at_call 38; refine Hchk.out.mono ?_; rintro e w1 ⟨rfl, t1⟩)
      clear Hchk
      go_loopw [19] (fun i wr => ∃ k : Nat, k ≤ vs.length ∧ i = .int .i64 k ∧ Hid (((List.zipWith fitC cs vs).take k).all id = true) ∧ Touch [] w wr) (fun i _ => vs.length - (intOf i).toNat)
      case atStart => exact ⟨0, by omega, rfl, Lib.hid rfl, t1⟩
      case round =>
        clear t1
        obtain ⟨k, hk, rfl, Hall, ht⟩ := hrel
        clear hlen
        by_cases hlt : k < vs.length
        · have hlt2 : k < cs.length := by have := Hlen.out; omega
          obtain ⟨ad, b, off, rfl, hadd, c0, c1⟩ := (h.touch0 ht).at_ k hlt2
          obtain ⟨bd, b2, off2, rfl, hadd2, d0, d1, d2⟩ := (hv.touch0 ht).at_ k hlt
          have hno := fit_no hlt2 hlt
          have hyes := fit_yes hlt2 hlt Hall.out
          have hvok := hvk _ (List.getElem_mem hlt)
          obtain ⟨c, hce⟩ : ∃ c, c = cs[k] := ⟨_, rfl⟩
          obtain ⟨v, hve⟩ : ∃ v, v = vs[k] := ⟨_, rfl⟩
          rw [← hce] at c0 c1 hno hyes
          rw [← hve] at d0 d1 d2 hno hyes hvok
          have Hno := Lib.hid hno; have Hyes := Lib.hid hyes
          obtain ⟨_, _, hvt⟩ := hvok
          obtain ⟨kd, nm, tx⟩ := v
          simp only at d0 d1 d2 hvt
          clear hce hve hno hyes Hall c0
          have hb := heap_alloc_new wr (.cells #[.int .i64 kd, .int .i64 nm, .string tx] 30)
          have tb := (Touch.refl [] wr).alloc (.cells #[.int .i64 kd, .int .i64 nm, .string tx] 30)
          obtain ⟨W, hW⟩ : ∃ W, W = wr.alloc (.cells #[.int .i64 kd, .int .i64 nm, .string tx] 30) := ⟨_, rfl⟩
          rw [← hW] at hb tb
          have g0 := TW.cell (cell_blk hb (i := 0) rfl)
          have g1 := TW.cell (cell_blk hb (i := 1) rfl)
          have g2 := TW.cell (cell_blk hb (i := 2) rfl)
          have g3 := TW.cell (tb.cell c1 (by simp))
          have hright := fun w' => right_big ⟨kd, nm, tx⟩ hvt w'
          simp only [VD.val] at hright
          have hkI0 : (0 : Int) ≤ (k : Int) := by omega
          have hkI : (k : Int) < (cs.length : Int) := by omega
          have HW := Lib.hid hW
          clear hW hb
          rcases hvr : VD.right ⟨kd, nm, tx⟩ with _ | _
          · have Hf := Lib.hid (Hno.out (by unfold fitC; rw [hvr]; rfl))
            rw [hvr] at hright
            have Hright := Lib.hid hright; clear hright hvr
            go_wp2
            rw [← HW.out]
            refine wp_region_tw W (Touch.refl _ _) (by kernel_rfl) (by kernel_rfl) ?_
            repeat (go_big_quiet_step (((go_at_call 16; exact Calls.tw _ (Hright.out _)))))
            refine wpQuiet_nil ?_
            rintro _ ⟨x2, rfl⟩
            go_wp2
            go_ret
            exact ⟨ret_bool (by rw [Hc0.out, Hf.out]), (ht.trans0 tb).trans0 x2.t⟩
          · have Hr := Lib.hid hvr
            rw [hvr] at hright
            have Hright := Lib.hid hright; clear hright hvr
            by_cases hk0 : kd = 0
            · subst hk0
              have Ha := Lib.hid (Hyes.out (by unfold fitC; rw [Hr.out]; rfl))
              go_wp2
              rw [← HW.out]
              refine wp_region_tw W (Touch.refl _ _) (by kernel_rfl) (by kernel_rfl) ?_
              repeat (go_big_quiet_step (((go_at_call 16; exact Calls.tw _ (Hright.out _)))))
              refine wpQuiet_nil ?_
              rintro _ ⟨x2, rfl⟩
              go_wp2
              go_roundw
              case rel => exact ⟨k + 1, by omega, by go_num, Ha, (ht.trans0 tb).trans0 x2.t⟩
              case measure => simp [intOf]; omega
            · have q0 : (kd == 0) = false := by rw [beq_eq_false_iff_ne]; exact hk0
              have q0' : (kd != 0) = true := by rw [bne, q0]; rfl
              by_cases hkt : kd = c.typ
              · have Ha := Lib.hid (Hyes.out (by unfold fitC; rw [Hr.out]; simp [hkt]))
                have q1 : (kd == c.typ) = true := by rw [beq_iff_eq]; exact hkt
                have q1' : (kd != c.typ) = false := by rw [bne, q1]; rfl
                clear hk0 hkt
                go_wp2
                rw [← HW.out]
                refine wp_region_tw W (Touch.refl _ _) (by kernel_rfl) (by kernel_rfl) ?_
                repeat (go_big_quiet_step (((go_at_call 16; exact Calls.tw _ (Hright.out _)))))
                refine wpQuiet_nil ?_
                rintro _ ⟨x2, rfl⟩
                go_wp2
                go_roundw
                case rel => exact ⟨k + 1, by omega, by go_num, Ha, (ht.trans0 tb).trans0 x2.t⟩
                case measure => simp [intOf]; omega
              · have Hf := Lib.hid (Hno.out (by unfold fitC; rw [Hr.out]; simp [hkt, hk0]))
                have q1 : (kd == c.typ) = false := by rw [beq_eq_false_iff_ne]; exact hkt
                have q1' : (kd != c.typ) = true := by rw [bne, q1]; rfl
                clear hk0 hkt
                go_wp2
                rw [← HW.out]
                refine wp_region_tw W (Touch.refl _ _) (by kernel_rfl) (by kernel_rfl) ?_
                repeat (go_big_quiet_step (((go_at_call 16; exact Calls.tw _ (Hright.out _)))))
                refine wpQuiet_nil ?_
                rintro _ ⟨x2, rfl⟩
                go_wp2
                go_ret
                exact ⟨ret_bool (by rw [Hc0.out, Hf.out]), (ht.trans0 tb).trans0 x2.t⟩
        · obtain rfl : k = vs.length := by omega
          have hall := Hall.out
          rw [List.take_of_length_le (by rw [List.length_zipWith]; omega)] at hall
          have Hf := Lib.hid (show fitR cs vs = true by unfold fitR; rw [hall, decide_eq_true Hlen.out]; rfl)
          have hge : decide (vs.length < cs.length) = false := decide_eq_false (by have := Hlen.out; omega)
          clear hall Hall
          go_wp2
          go_ret
          exact ⟨ret_bool (by rw [Hc0.out, Hf.out]), ht⟩
    · have Hf := Lib.hid (show fitR cs vs = false by unfold fitR; rw [decide_eq_false hlen]; rfl)
      have hq : ((vs.length : Int) == (cs.length : Int)) = false := by rw [beq_eq_false_iff_ne]; omega
      have hq' : ((vs.length : Int) != (cs.length : Int)) = true := by rw [bne, hq]; rfl
      clear hlen
      go_enter Try.func15, Try.ntmps15
      go_wp2_with (go_at_call 38; refine Hchk.out.mono ?_; rintro e w1 ⟨rfl, t1⟩)
      go_ret
      exact ⟨ret_bool (by rw [Hc0.out, Hf.out]), t1⟩
  · have Hchk := Lib.hid hchk; have Hc0 := Lib.hid (show (decide (checkV cs = 0) && fitR cs vs) = false by rw [decide_eq_false hc0]; rfl)
    obtain ⟨E, hE⟩ : ∃ E, E = checkV cs := ⟨_, rfl⟩
    have HE := Lib.hid hE
    have hq : (E == 0) = false := by rw [beq_eq_false_iff_ne, hE]; exact hc0
    have hq' : (E != 0) = true := by rw [bne, hq]; rfl
    clear hchk hc0 hE
    go_enter Try.func15, Try.ntmps15
    go_wp2_with (go_at_call 38; refine Hchk.out.mono ?_; rintro e w1 ⟨rfl, t1⟩; rw [← HE.out])
    go_ret
    exact ⟨ret_bool (by rw [Hc0.out]), t1⟩
set_option maxRecDepth 20000 in
set_option maxHeartbeats 3200000 in
theorem topB_any (n : Nat) (e : TX n) (x : XC) (A : Option Addr) (cap m : Nat) (cs : List CD) (hm : cs.length = m) (hok : ∀ c ∈ cs, c.Ok) (B : Option Addr) (rc rm : Nat) (row : List VD) (hrm : row.length = rm) (hvk : ∀ v ∈ row, v.Ok 9223372036854775807)
    (w : World) (hx : ExP xcE anyB n w x e) (hcs : ColsAt w A cs) (hrow : ValsAt w B row) (hmb : m ≤ 140737000000000) (hrb : rm ≤ 140737000000000) (hs : sizeX n e ≤ 1000000) (hall : allX (fun q => q.v.text.size ≤ 140737000000000) n e) :
    Calls Try.prog 13 #[x.val, .slice A m cap, .slice B rm rc] w fun r w' => r = .returned (.tuple #[(topX cs row n e).1.val, .int .i64 (topX cs row n e).2]) ∧ Touch [] w w' := by
  have Hty := Lib.hid fun w' (t : Touch [] w w') => typeX_any n e x A cap m cs hm hok w' (hx.touch0 t) (hcs.touch0 t) hmb hs hall
  have Hfit := Lib.hid fun w' (t : Touch [] w w') => fits_big A cap m cs hm hok B rc rm row hrm hvk w' (hcs.touch0 t) (hrow.touch0 t) hmb (by omega)
  have Hev := Lib.hid fun w' (t : Touch [] w w') h1 h2 (hf : fitR cs row = true) => eval_any n e x A cap m cs hm B rc rm row hrm w' (hx.touch0 t) (hcs.touch0 t) (hrow.touch0 t) hmb h1 h2 (fun v hv => row_size hf v hv) hall
  obtain ⟨res, hres⟩ : ∃ res, res = topX cs row n e := ⟨_, rfl⟩
  rw [← hres]
  unfold topX at hres
  obtain ⟨⟨k, nm, ⟨vk, vn, vt⟩, op⟩, XA, xm, c⟩ := x
  simp only [XC.val] at Hty Hfit Hev ⊢
  clear hx hall hs
  have t0 := ((Touch.refl [] w).alloc (.cells #[.int .i64 k, .string nm, .int .i64 vk, .int .i64 vn, .string vt, .string op, .slice XA xm c] 33)).alloc (.cells #[.int .i64 0, .int .i64 0, .string ⟨#[]⟩] 30)
  have hb1 := ((Touch.refl [] (w.alloc (.cells #[.int .i64 k, .string nm, .int .i64 vk, .int .i64 vn, .string vt, .string op, .slice XA xm c] 33))).alloc (.cells #[.int .i64 0, .int .i64 0, .string ⟨#[]⟩] 30)).blk (heap_alloc_new w (.cells #[.int .i64 k, .string nm, .int .i64 vk, .int .i64 vn, .string vt, .string op, .slice XA xm c] 33)) (by simp)
  have hbr := heap_alloc_new (w.alloc (.cells #[.int .i64 k, .string nm, .int .i64 vk, .int .i64 vn, .string vt, .string op, .slice XA xm c] 33)) (.cells #[.int .i64 0, .int .i64 0, .string ⟨#[]⟩] 30)
  simp only [World.size_alloc] at hbr
  obtain ⟨W, hW⟩ : ∃ W, W = (w.alloc (.cells #[.int .i64 k, .string nm, .int .i64 vk, .int .i64 vn, .string vt, .string op, .slice XA xm c] 33)).alloc (.cells #[.int .i64 0, .int .i64 0, .string ⟨#[]⟩] 30) := ⟨_, rfl⟩
  rw [← hW] at hb1 hbr t0
  have HW := Lib.hid hW; have Hb1 := Lib.hid hb1; have Hbr := Lib.hid hbr; have T0 := Lib.hid t0
  have Ho := Lib.hid fun h : (typeX cs n e).2 = 0 => typeX_ok h
  clear hW hb1 hbr t0 hcs hrow
  obtain ⟨⟨ty, er⟩, hte⟩ : ∃ r, r = typeX cs n e := ⟨_, rfl⟩
  rw [← hte] at Hty hres Ho
  simp only at Hty hres Ho
  clear hte
  by_cases h0 : er ≠ 0
  · rw [if_pos h0] at hres
    have Hf := Lib.hid hres
    have q0 : (er != 0) = true := by simpa using h0
    clear h0 hres Ho Hev Hfit
    go_enter Try.func13, Try.ntmps13
    go_wp2_with fail
    rw [← HW.out]
    obtain ⟨a0, a1, a2, a3, a4, a5, a6, _⟩ := blk7 Hb1.out
    go_wp2_with fail
    clear a0 a1 a2 a3 a4 a5 a6
    refine (Hty.out _ T0.out).mono ?_
    rintro e w1 ⟨rfl, u1⟩
    obtain ⟨r0, r1, r2, f0, f1, f2⟩ := blk3 (u1.blk Hbr.out (by simp))
    go_wp2_with fail
    obtain ⟨q1, q2⟩ := out3 (u1.blk Hbr.out (by simp)) (.int .i64 0) (.int .i64 0) (.string ⟨#[]⟩)
    obtain ⟨d0, d1, d2, _⟩ := blk3 q1
    refine bodyPost_ret (v := .tuple #[.agg #[.int .i64 0, .int .i64 0, .string ⟨#[]⟩], .int .i64 er]) (by simp [results, Try.results13, go_sem, d0, d1, d2]) rfl ⟨?_, (T0.out.trans0 u1).trans q2 (fun b hb => .inr (by simp at hb; omega))⟩
    rw [Hf.out]; rfl
  have h0' : er = 0 := by omega
  rw [if_neg h0] at hres
  subst h0'
  obtain ⟨o1, o2, o3, _⟩ := Ho.out rfl
  clear h0 Ho
  rw [o1] at Hfit
  have o4 := okX_of cs n 1 e o3
  rcases hfr : fitR cs row with _ | _
  · rw [hfr, if_neg (by simp)] at hres
    rw [hfr] at Hfit
    have Hf := Lib.hid hres
    clear hres hfr Hev o1 o2 o3 o4
    simp only [decide_true, Bool.and_false] at Hfit
    go_enter Try.func13, Try.ntmps13
    go_wp2_with fail
    rw [← HW.out]
    obtain ⟨a0, a1, a2, a3, a4, a5, a6, _⟩ := blk7 Hb1.out
    go_wp2_with fail
    clear a0 a1 a2 a3 a4 a5 a6
    refine (Hty.out _ T0.out).mono ?_
    rintro e w1 ⟨rfl, u1⟩
    go_wp2_with fail
    refine (Hfit.out _ (T0.out.trans0 u1)).mono ?_
    rintro e w2 ⟨rfl, u2⟩
    obtain ⟨r0, r1, r2, f0, f1, f2⟩ := blk3 (u2.blk (u1.blk Hbr.out (by simp)) (by simp))
    go_wp2_with fail
    obtain ⟨q1, q2⟩ := out3 (u2.blk (u1.blk Hbr.out (by simp)) (by simp)) (.int .i64 0) (.int .i64 0) (.string ⟨#[]⟩)
    obtain ⟨d0, d1, d2, _⟩ := blk3 q1
    refine bodyPost_ret (v := .tuple #[.agg #[.int .i64 0, .int .i64 0, .string ⟨#[]⟩], .int .i64 12]) (by simp [results, Try.results13, go_sem, d0, d1, d2]) rfl ⟨?_, ((T0.out.trans0 u1).trans0 u2).trans q2 (fun b hb => .inr (by simp at hb; omega))⟩
    rw [Hf.out]; rfl
  · rw [hfr, if_pos rfl] at hres
    rw [hfr] at Hfit
    have hev := fun w' t => Hev.out w' t (fitR_len hfr) o4 hfr
    rw [← hres] at hev
    obtain ⟨⟨rk, rn, rs⟩, rx⟩ := res
    simp only [VD.val] at hev
    have Hev2 := Lib.hid hev
    clear hres hfr Hev o1 o2 o3 o4 hev
    simp only [decide_true, Bool.and_true] at Hfit
    go_enter Try.func13, Try.ntmps13
    go_wp2_with fail
    rw [← HW.out]
    obtain ⟨a0, a1, a2, a3, a4, a5, a6, _⟩ := blk7 Hb1.out
    go_wp2_with fail
    clear a0 a1 a2 a3 a4 a5 a6
    refine (Hty.out _ T0.out).mono ?_
    rintro e w1 ⟨rfl, u1⟩
    go_wp2_with fail
    refine (Hfit.out _ (T0.out.trans0 u1)).mono ?_
    rintro e w2 ⟨rfl, u2⟩
    obtain ⟨a0, a1, a2, a3, a4, a5, a6, _⟩ := blk7 (u2.blk (u1.blk Hb1.out (by simp)) (by simp))
    go_wp2_with fail
    clear a0 a1 a2 a3 a4 a5 a6
    refine (Hev2.out _ ((T0.out.trans0 u1).trans0 u2)).mono ?_
    rintro e w3 ⟨rfl, u3⟩
    obtain ⟨r0, r1, r2, f0, f1, f2⟩ := blk3 (u3.blk (u2.blk (u1.blk Hbr.out (by simp)) (by simp)) (by simp))
    go_wp2_with fail
    obtain ⟨q1, q2⟩ := out3 (u3.blk (u2.blk (u1.blk Hbr.out (by simp)) (by simp)) (by simp)) (.int .i64 rk) (.int .i64 rn) (.string rs)
    obtain ⟨d0, d1, d2, _⟩ := blk3 q1
    exact bodyPost_ret (v := .tuple #[.agg #[.int .i64 rk, .int .i64 rn, .string rs], .int .i64 rx]) (by simp [results, Try.results13, go_sem, d0, d1, d2]) rfl ⟨rfl, (((T0.out.trans0 u1).trans0 u2).trans0 u3).trans q2 (fun b hb => .inr (by simp at hb; omega))⟩
end Go.Proofs.Ytlkckkagoommaaa

/- One cell of a row of structs of the calls' own is set. -/
namespace Go.Proofs.Ytlkckkagoommaaa
open Go.RowKit

theorem flat_set {α β : Type} (enc : α → List β) (k : Nat) (hk : ∀ x, (enc x).length = k) (v : β) (o : Nat) (ho : o < k) : ∀ (xs : List α) (i : Nat) (hi : i < xs.length) (y : α), enc y = (enc xs[i]).set o v → (xs.set i y).flatMap enc = (xs.flatMap enc).set (i * k + o) v
  | [], i => fun hi => absurd hi (by simp)
  | x :: xs, 0 => fun _ y hy => by
    rw [List.set_cons_zero, List.flatMap_cons, List.flatMap_cons, hy, List.getElem_cons_zero, Nat.zero_mul, Nat.zero_add, List.set_append_left _ _ (by rw [hk]; exact ho)]
  | x :: xs, i + 1 => fun hi y hy => by
    have ih := flat_set enc k hk v o ho xs i (by simpa using hi) y (by simpa using hy)
    have e1 : (i + 1) * k + o = k + (i * k + o) := by rw [Nat.add_mul]; omega
    rw [List.set_cons_succ, List.flatMap_cons, List.flatMap_cons, ih, List.set_append_right _ _ (by rw [hk, e1]; omega), hk, e1, Nat.add_sub_cancel_left]
theorem OwnK.set {α : Type} {t k : Nat} {enc : α → List Value} {w : World} {G c : Nat} {xs : List α} (h : OwnK t k enc w (some ⟨G, 0, none⟩) c xs) (hk : ∀ x, (enc x).length = k) (i : Nat) (hi : i < xs.length) (o : Nat) (ho : o < k) (v : Value) (y : α)
    (hy : enc y = (enc xs[i]).set o v) : OwnK t k enc (w.setCell ⟨G, i * k + o, none⟩ v) (some ⟨G, 0, none⟩) c (xs.set i y) := by
  have := (World.ownsRow.stored h (i * k + o) v).1
  unfold OwnK
  rw [List.length_set, flat_set enc k hk v o ho xs i hi y hy]
  exact this
theorem SameC.set (l : List PL) (i : Nat) (hi : i < l.length) (y : PL) (hy : y.cnt = l[i].cnt) : SameC l (l.set i y) := by
  unfold SameC
  rw [List.map_set, hy]
  refine List.ext_getElem? fun j => ?_
  rw [List.getElem?_set]
  split
  · rename_i h; subst h
    rw [List.length_map, if_pos hi, List.getElem?_map, List.getElem?_eq_getElem hi]; rfl
  · rfl
/-- the list with one element changed makes another expression just if the element is taken -/
theorem build_set (m : Nat) (l : List PL) (i : Nat) (hi : i < l.length) (y : PL) (hc : y.cnt = l[i].cnt) (hn : l[i].nd ≠ y.nd) : eqX (m + 1) (buildX m l).1 (buildX m (l.set i y)).1 = decide ((buildX m l).2 ≤ i) ∧ eqX (m + 1) (buildX m (l.set i y)).1 (buildX m l).1 = decide ((buildX m l).2 ≤ i) := by
  have h := build_other m l (l.set i y) i hi (SameC.set l i hi y hc) (fun j hj => by rw [List.getElem?_set, if_neg (fun h => hj h.symm)]) (fun a b ha hb => by
    rw [List.getElem?_eq_getElem hi] at ha
    rw [List.getElem?_set, if_pos rfl, if_pos hi] at hb
    cases ha; cases hb; exact hn)
  constructor
  · rw [Bool.eq_iff_iff, eqX_iff, decide_eq_true_iff]; exact h
  · rw [Bool.eq_iff_iff, eqX_iff, decide_eq_true_iff]; exact ⟨fun q => h.1 q.symm, fun q => (h.2 q).symm⟩
end Go.Proofs.Ytlkckkagoommaaa

/- bywashlaw04.build: the expression at the beginning of a list. For every list. -/
namespace Go.Proofs.Ytlkckkagoommaaa
open Go.RowKit
attribute [local go_sem ↓] Go.wp_at_zero Go.wp_at_succ

theorem flat_drop (t : Nat) (l : List PL) : (l.drop t).flatMap plE = (l.flatMap plE).drop (t * 7) := by
  induction t generalizing l with
  | zero => simp
  | succ t ih =>
    cases l with
    | nil => simp
    | cons p l => rw [List.drop_succ_cons, ih, List.flatMap_cons, show (t + 1) * 7 = 7 + t * 7 by omega, ← List.drop_drop]; rfl
theorem PlsAt.drop {w : World} {ad : Addr} {l : List PL} (h : PlsAt w (some ad) l) (t : Nat) : PlsAt w (some (ad.add (t * 7))) (l.drop t) := by
  have := Rd.cut (n := (l.flatMap plE).length) h (A' := some (ad.add (t * 7))) (k := t * 7) (fun a h _ => by cases h; rfl)
  rw [List.take_of_length_le (by rw [List.length_drop]; omega)] at this
  unfold PlsAt RdK
  rw [flat_drop]; exact this
/-- what build promises -/
def BuildSaid (m : Nat) : Prop := ∀ (l : List PL) (A : Option Addr) (len cap d : Nat) (w : World), l.length = len → len ≤ cap → 0 < len → len ≤ 100000000 → d + m = 60 → PlsAt w A l →
    Calls Try.prog 12 #[.slice A len cap, .int .i64 d] w fun r w' => ∃ x, r = .returned (.tuple #[x.val, .int .i64 ((buildX m l).2 : Nat)]) ∧ ExP xcE (Fr w.heap.size w') (m + 1) w' x (buildX m l).1 ∧ Touch [] w w'
/-- .. and that the Args are the calls' own -/
def BuildOwn (m : Nat) : Prop := ∀ (l : List PL) (A : Option Addr) (len cap d : Nat) (w : World), l.length = len → len ≤ cap → 0 < len → len ≤ 100000000 → d + m = 60 → PlsAt w A l →
    Calls Try.prog 12 #[.slice A len cap, .int .i64 d] w fun r w' => ∃ x, r = .returned (.tuple #[x.val, .int .i64 ((buildX m l).2 : Nat)]) ∧ ExP xcE (Fr w.heap.size w') (m + 1) w' x (buildX m l).1 ∧ OwnX 33 xcE w.heap.size m w' x.A x.c (buildX m l).1.2 ∧ Touch [] w w'

theorem info_expr2 : (Try.prog.info? 33).map (fun i => (i.zero, i.size, i.bytes)) = some (some (.agg #[.int .i64 0, .string ⟨#[]⟩, .int .i64 0, .int .i64 0, .string ⟨#[]⟩, .string ⟨#[]⟩, .slice none 0 0]), 7, 96) := by kernel_rfl
set_option maxRecDepth 100000 in
set_option maxHeartbeats 6400000 in
theorem build_zero : BuildOwn 0 := by
  intro l A len cap d w hl hc h0 hb hd h
  have hne : l ≠ [] := fun q => by rw [q] at hl; simp at hl; omega
  obtain ⟨p, hp⟩ : ∃ p, p = l.headD zeroP := ⟨_, rfl⟩
  have hp0 : l[0]'(by omega) = p := by rw [hp]; cases l with | nil => exact absurd rfl hne | cons a l => rfl
  have Hst := Lib.hid (show buildX 0 l = ((((l.headD zeroP).nd, []) : TX 1), 1) from rfl)
  rw [← hp] at Hst
  obtain ⟨ad, b, off, rfl, hadd, hbb, hcell⟩ := RdK.at_ h 7 plE_length (by omega) 0 (by omega)
  clear hbb
  rw [hp0] at hcell
  obtain ⟨⟨k, nm, ⟨vk, vn, vt⟩, op⟩, cnt⟩ := p
  simp only at Hst
  have c0 := hcell 0 _ rfl; have c1 := hcell 1 _ rfl; have c2 := hcell 2 _ rfl; have c3 := hcell 3 _ rfl; have c4 := hcell 4 _ rfl; have c5 := hcell 5 _ rfl; have c6 := hcell 6 _ rfl
  rw [Nat.add_zero] at c0
  simp only at c0 c1 c2 c3 c4 c5 c6
  clear hcell hp0 hp
  have hlI : (0 : Int) < (len : Int) := by omega
  have hdI : ¬ (d : Int) < 60 := by omega
  have Hl := Lib.hid hl; have Hne := Lib.hid hne; have Hd := Lib.hid hd; have Hc := Lib.hid hc
  clear hl hne hd
  have t0 := ((Touch.refl [] w).alloc (.cells #[.int .i64 0, .string ⟨#[]⟩, .int .i64 0, .int .i64 0, .string ⟨#[]⟩, .string ⟨#[]⟩, .slice none 0 0] 33)).drew
  have hR0 := ((Touch.refl [] (w.alloc (.cells #[.int .i64 0, .string ⟨#[]⟩, .int .i64 0, .int .i64 0, .string ⟨#[]⟩, .string ⟨#[]⟩, .slice none 0 0] 33))).drew).blk (heap_alloc_new w (.cells #[.int .i64 0, .string ⟨#[]⟩, .int .i64 0, .int .i64 0, .string ⟨#[]⟩, .string ⟨#[]⟩, .slice none 0 0] 33)) (by simp)
  have f0 := t0.cell c0 (by simp)
  have f1 := t0.cell c1 (by simp)
  have f2 := t0.cell c2 (by simp)
  have f3 := t0.cell c3 (by simp)
  have f4 := t0.cell c4 (by simp)
  have f5 := t0.cell c5 (by simp)
  have f6 := t0.cell c6 (by simp)
  go_enter Try.func12, Try.ntmps12
  go_wp2_with fail
  refine wp_region_held_drew (S := fun w' => w'.cell? ⟨b, off, none⟩ = some (.int .i64 k) ∧ w'.cell? ⟨b, off + 1, none⟩ = some (.string nm) ∧ w'.cell? ⟨b, off + 2, none⟩ = some (.int .i64 vk) ∧ w'.cell? ⟨b, off + 2 + 1, none⟩ = some (.int .i64 vn) ∧ w'.cell? ⟨b, off + 2 + 2, none⟩ = some (.string vt) ∧ w'.cell? ⟨b, off + 5, none⟩ = some (.string op)) (by kernel_rfl) ⟨f0, f1, f2, f3, f4, f5⟩ (fun hHeld => ?_)
  refine take_d (i := 0) (d := 11) (v := ?_) rfl rfl (by kernel_rfl) (by kernel_rfl) (by kernel_rfl) (fun _ _ _ h => h) (Or.inl ⟨by rfl, ?_⟩) (by assumption) ?_
  rotate_left
  · intro w hSw; (try dsimp only at hSw); go_simp; (try with_reducible rfl)
  try simp only [Act.put, List.setIfInBounds_toArray, List.set_cons_zero, List.set_cons_succ]
  refine take_d (i := 1) (d := 12) (v := ?_) rfl rfl (by kernel_rfl) (by kernel_rfl) (by kernel_rfl) (fun _ _ _ h => h) (Or.inl ⟨by rfl, ?_⟩) (by assumption) ?_
  rotate_left
  · intro w hSw; (try dsimp only at hSw); go_simp; (try with_reducible rfl)
  try simp only [Act.put, List.setIfInBounds_toArray, List.set_cons_zero, List.set_cons_succ]
  refine take_d (i := 2) (d := 13) (v := ?_) rfl rfl (by kernel_rfl) (by kernel_rfl) (by kernel_rfl) (fun _ _ _ h => h) (Or.inl ⟨by rfl, ?_⟩) (by assumption) ?_
  rotate_left
  · intro w hSw; (try dsimp only at hSw); go_simp; (try with_reducible rfl)
  try simp only [Act.put, List.setIfInBounds_toArray, List.set_cons_zero, List.set_cons_succ]
  refine take_d (i := 3) (d := 14) (v := ?_) rfl rfl (by kernel_rfl) (by kernel_rfl) (by kernel_rfl) (fun _ _ _ h => h) (Or.inl ⟨by rfl, ?_⟩) (by assumption) ?_
  rotate_left
  · intro w hSw; (try dsimp only at hSw); go_simp; (try with_reducible rfl)
  try simp only [Act.put, List.setIfInBounds_toArray, List.set_cons_zero, List.set_cons_succ]
  refine take_d (i := 4) (d := 15) (v := ?_) rfl rfl (by kernel_rfl) (by kernel_rfl) (by kernel_rfl) (fun _ _ _ h => h) (Or.inl ⟨by rfl, ?_⟩) (by assumption) ?_
  rotate_left
  · intro w hSw; (try dsimp only at hSw); go_simp; (try with_reducible rfl)
  try simp only [Act.put, List.setIfInBounds_toArray, List.set_cons_zero, List.set_cons_succ]
  refine take_d (i := 5) (d := 16) (v := ?_) rfl rfl (by kernel_rfl) (by kernel_rfl) (by kernel_rfl) (fun _ _ _ h => h) (Or.inl ⟨by rfl, ?_⟩) (by assumption) ?_
  rotate_left
  · intro w hSw; (try dsimp only at hSw); go_simp; (try with_reducible rfl)
  try simp only [Act.put, List.setIfInBounds_toArray, List.set_cons_zero, List.set_cons_succ]
  refine take_d (i := 6) (d := 17) (v := ?_) rfl rfl (by kernel_rfl) (by kernel_rfl) (by kernel_rfl) (fun _ _ _ h => h) (Or.inl ⟨by rfl, ?_⟩) (by assumption) ?_
  rotate_left
  · intro w hSw; (try dsimp only at hSw); go_simp; (try with_reducible rfl)
  try simp only [Act.put, List.setIfInBounds_toArray, List.set_cons_zero, List.set_cons_succ]
  refine take_d (i := 7) (d := 18) (v := ?_) rfl rfl (by kernel_rfl) (by kernel_rfl) (by kernel_rfl) (fun _ _ _ h => h) (Or.inl ⟨by rfl, ?_⟩) (by assumption) ?_
  rotate_left
  · intro w hSw; (try dsimp only at hSw); go_simp; (try with_reducible rfl)
  try simp only [Act.put, List.setIfInBounds_toArray, List.set_cons_zero, List.set_cons_succ]
  refine take_d (i := 8) (d := 19) (v := ?_) rfl rfl (by kernel_rfl) (by kernel_rfl) (by kernel_rfl) (fun _ _ _ h => h) (Or.inl ⟨by rfl, ?_⟩) (by assumption) ?_
  rotate_left
  · intro w hSw; (try dsimp only at hSw); go_simp; (try with_reducible rfl)
  try simp only [Act.put, List.setIfInBounds_toArray, List.set_cons_zero, List.set_cons_succ]
  refine take_d (i := 9) (d := 20) (v := ?_) rfl rfl (by kernel_rfl) (by kernel_rfl) (by kernel_rfl) (fun _ _ _ h => h) (Or.inl ⟨by rfl, ?_⟩) (by assumption) ?_
  rotate_left
  · intro w hSw; (try dsimp only at hSw); go_simp; (try with_reducible rfl)
  try simp only [Act.put, List.setIfInBounds_toArray, List.set_cons_zero, List.set_cons_succ]
  refine take_d (i := 10) (d := 21) (v := ?_) rfl rfl (by kernel_rfl) (by kernel_rfl) (by kernel_rfl) (fun _ _ _ h => h) (Or.inl ⟨by rfl, ?_⟩) (by assumption) ?_
  rotate_left
  · intro w hSw; (try dsimp only at hSw); go_simp; (try with_reducible rfl)
  try simp only [Act.put, List.setIfInBounds_toArray, List.set_cons_zero, List.set_cons_succ]
  refine take_d (i := 11) (d := 22) (v := ?_) rfl rfl (by kernel_rfl) (by kernel_rfl) (by kernel_rfl) (fun _ _ _ h => h) (Or.inl ⟨by rfl, ?_⟩) (by assumption) ?_
  rotate_left
  · intro w hSw; (try dsimp only at hSw); go_simp; (try with_reducible rfl)
  try simp only [Act.put, List.setIfInBounds_toArray, List.set_cons_zero, List.set_cons_succ]
  refine take_d (i := 12) (d := 23) (v := ?_) rfl rfl (by kernel_rfl) (by kernel_rfl) (by kernel_rfl) (fun _ _ _ h => h) (Or.inl ⟨by rfl, ?_⟩) (by assumption) ?_
  rotate_left
  · intro w hSw; (try dsimp only at hSw); go_simp; (try with_reducible rfl)
  try simp only [Act.put, List.setIfInBounds_toArray, List.set_cons_zero, List.set_cons_succ]
  refine take_d (i := 13) (d := 24) (v := ?_) rfl rfl (by kernel_rfl) (by kernel_rfl) (by kernel_rfl) (fun _ _ _ h => h) (Or.inl ⟨by rfl, ?_⟩) (by assumption) ?_
  rotate_left
  · intro w hSw; (try dsimp only at hSw); go_simp; (try with_reducible rfl)
  try simp only [Act.put, List.setIfInBounds_toArray, List.set_cons_zero, List.set_cons_succ]
  refine take_d (i := 14) (d := 25) (v := ?_) rfl rfl (by kernel_rfl) (by kernel_rfl) (by kernel_rfl) (fun _ _ _ h => h) (Or.inl ⟨by rfl, ?_⟩) (by assumption) ?_
  rotate_left
  · intro w hSw; (try dsimp only at hSw); go_simp; (try with_reducible rfl)
  try simp only [Act.put, List.setIfInBounds_toArray, List.set_cons_zero, List.set_cons_succ]
  refine take_d (i := 15) (d := 26) (v := ?_) rfl rfl (by kernel_rfl) (by kernel_rfl) (by kernel_rfl) (fun _ _ _ h => h) (Or.inl ⟨by rfl, ?_⟩) (by assumption) ?_
  rotate_left
  · intro w hSw; (try dsimp only at hSw); go_simp; (try with_reducible rfl)
  try simp only [Act.put, List.setIfInBounds_toArray, List.set_cons_zero, List.set_cons_succ]
  refine take_d (i := 16) (d := 27) (v := ?_) rfl rfl (by kernel_rfl) (by kernel_rfl) (by kernel_rfl) (fun _ _ _ h => h) (Or.inl ⟨by rfl, ?_⟩) (by assumption) ?_
  rotate_left
  · intro w hSw; (try dsimp only at hSw); go_simp; (try with_reducible rfl)
  try simp only [Act.put, List.setIfInBounds_toArray, List.set_cons_zero, List.set_cons_succ]
  have tn := (((Touch.refl [] w).alloc (.cells #[.int .i64 0, .string ⟨#[]⟩, .int .i64 0, .int .i64 0, .string ⟨#[]⟩, .string ⟨#[]⟩, .slice none 0 0] 33)).alloc (.cells #[.int .i64 0, .string ⟨#[]⟩, .int .i64 0, .int .i64 0, .string ⟨#[]⟩, .string ⟨#[]⟩, .slice none 0 0] 33)).drew
  have g0 := tn.cell c0 (by simp)
  have g1 := tn.cell c1 (by simp)
  have g2 := tn.cell c2 (by simp)
  have g3 := tn.cell c3 (by simp)
  have g4 := tn.cell c4 (by simp)
  have g5 := tn.cell c5 (by simp)
  have g6 := tn.cell c6 (by simp)
  refine wpAnyH_ready (rs := [17]) (by kernel_rfl) (by simp) ?_
  refine AllReadyH.cons rfl (fun K hK => ?_) AllReadyH.nil
  go_simp
  (try go_wp2_with fail)
  refine hK.out _ _ ⟨g0, g1, g2, g3, g4, g5⟩ (fun _hH => ?_)
  clear hK K
  try simp only [Act.put, List.setIfInBounds_toArray, List.set_cons_zero, List.set_cons_succ]
  have te := (((Touch.refl [] w).alloc (.cells #[.int .i64 0, .string ⟨#[]⟩, .int .i64 0, .int .i64 0, .string ⟨#[]⟩, .string ⟨#[]⟩, .slice none 0 0] 33)).alloc (.cells #[.int .i64 k, .string nm, .int .i64 vk, .int .i64 vn, .string vt, .string op, .slice none 0 0] 33)).drew
  have e0 := te.cell c0 (by simp)
  have e1 := te.cell c1 (by simp)
  have e2 := te.cell c2 (by simp)
  have e3 := te.cell c3 (by simp)
  have e4 := te.cell c4 (by simp)
  have e5 := te.cell c5 (by simp)
  have e6 := te.cell c6 (by simp)
  refine wpAnyH_ready (rs := [18]) (by kernel_rfl) (by simp) ?_
  refine AllReadyH.cons rfl (fun K hK => ?_) AllReadyH.nil
  go_simp
  (try go_wp2_with fail)
  refine hK.out _ _ ⟨e0, e1, e2, e3, e4, e5⟩ (fun _hH => ?_)
  clear hK K
  try simp only [Act.put, List.setIfInBounds_toArray, List.set_cons_zero, List.set_cons_succ]
  refine wpAnyH_done (by kernel_rfl) ?_ _
  have hX0 : ((w.alloc (.cells #[.int .i64 0, .string ⟨#[]⟩, .int .i64 0, .int .i64 0, .string ⟨#[]⟩, .string ⟨#[]⟩, .slice none 0 0] 33)).alloc (.cells #[.int .i64 k, .string nm, .int .i64 vk, .int .i64 vn, .string vt, .string op, .slice none 0 0] 33)).drew.heap[w.heap.size + 1]? = some (.cells #[.int .i64 k, .string nm, .int .i64 vk, .int .i64 vn, .string vt, .string op, .slice none 0 0] 33 (0, 0)) := by have := heap_alloc_new (w.alloc (.cells #[.int .i64 0, .string ⟨#[]⟩, .int .i64 0, .int .i64 0, .string ⟨#[]⟩, .string ⟨#[]⟩, .slice none 0 0] 33)) (.cells #[.int .i64 k, .string nm, .int .i64 vk, .int .i64 vn, .string vt, .string op, .slice none 0 0] 33); rw [World.size_alloc] at this; exact this
  have hR1 := ((Touch.refl [] (w.alloc (.cells #[.int .i64 0, .string ⟨#[]⟩, .int .i64 0, .int .i64 0, .string ⟨#[]⟩, .string ⟨#[]⟩, .slice none 0 0] 33))).alloc (.cells #[.int .i64 k, .string nm, .int .i64 vk, .int .i64 vn, .string vt, .string op, .slice none 0 0] 33)).drew.blk (heap_alloc_new w (.cells #[.int .i64 0, .string ⟨#[]⟩, .int .i64 0, .int .i64 0, .string ⟨#[]⟩, .string ⟨#[]⟩, .slice none 0 0] 33)) (by simp)
  clear f0 f1 f2 f3 f4 f5 f6 g0 g1 g2 g3 g4 g5 g6 e0 e1 e2 e3 e4 e5 e6 tn t0 hR0
  go_wp2_with fail
  go_loopw [7, 8] (fun tv jv wr => jv = .int .i64 0 ∧ tv = .int .i64 1 ∧ wr.heap[w.heap.size + 1]? = some (.cells #[.int .i64 k, .string nm, .int .i64 vk, .int .i64 vn, .string vt, .string op, .slice none 0 0] 33 (0, 0)) ∧ wr.heap[w.heap.size]? = some (.cells #[.int .i64 0, .string ⟨#[]⟩, .int .i64 0, .int .i64 0, .string ⟨#[]⟩, .string ⟨#[]⟩, .slice none 0 0] 33 (0, 0)) ∧ Touch [] w wr) (fun tv _ _ => len - (intOf tv).toNat)
  case atStart => exact ⟨rfl, rfl, hX0, hR1, te⟩
  case round =>
    obtain ⟨rfl, rfl, hX, hR, ht⟩ := hrel
    clear hX0 hR1 te
    have f6 := ht.cell c6 (by simp)
    have hown := OwnX.nil 33 xcE (w.heap.size + 2) 0 wr
    by_cases hjc : (0 : Int) < cnt
    · by_cases htI : (1 : Int) < (len : Int)
      · obtain ⟨a0, a1, a2, a3, a4, a5, a6, _⟩ := blk7 hX
        obtain ⟨r0, r1, r2, r3, r4, r5, r6, g0, g1, g2, g3, g4, g5, g6⟩ := blk7 hR
        go_wp2_with fail
        obtain ⟨q1, q2⟩ := out7 hR (.int .i64 k) (.string nm) (.int .i64 vk) (.int .i64 vn) (.string vt) (.string op) (.slice none 0 0)
        obtain ⟨d0, d1, d2, d3, d4, d5, d6, _⟩ := blk7 q1
        refine bodyPost_ret (v := .tuple #[.agg #[.int .i64 k, .string nm, .int .i64 vk, .int .i64 vn, .string vt, .string op, .slice none 0 0], .int .i64 1]) (by simp [results, Try.results12, go_sem, d0, d1, d2, d3, d4, d5, d6]) rfl ⟨⟨⟨k, nm, ⟨vk, vn, vt⟩, op⟩, none, 0, 0⟩, ?_, ?_, ?_, ht.trans q2 (fun b hb => .inr (by simp at hb; omega))⟩
        · rw [Hst.out]; rfl
        · rw [Hst.out]
          have q3 := q2.size
          exact ((hown.tree ⟨k, nm, ⟨vk, vn, vt⟩, op⟩ 0 rfl).touch q2 (fun b hb hm => by simp at hb; have := hm.1; omega)).mono fun b hb => ⟨by have := hb.1; omega, by have := hb.2; omega⟩
        · rw [Hst.out]
          exact (hown.touch q2 (fun b hb => by simp at hb; omega)).base (by omega)
      · obtain ⟨a0, a1, a2, a3, a4, a5, a6, _⟩ := blk7 hX
        obtain ⟨r0, r1, r2, r3, r4, r5, r6, g0, g1, g2, g3, g4, g5, g6⟩ := blk7 hR
        go_wp2_with fail
        obtain ⟨q1, q2⟩ := out7 hR (.int .i64 k) (.string nm) (.int .i64 vk) (.int .i64 vn) (.string vt) (.string op) (.slice none 0 0)
        obtain ⟨d0, d1, d2, d3, d4, d5, d6, _⟩ := blk7 q1
        refine bodyPost_ret (v := .tuple #[.agg #[.int .i64 k, .string nm, .int .i64 vk, .int .i64 vn, .string vt, .string op, .slice none 0 0], .int .i64 1]) (by simp [results, Try.results12, go_sem, d0, d1, d2, d3, d4, d5, d6]) rfl ⟨⟨⟨k, nm, ⟨vk, vn, vt⟩, op⟩, none, 0, 0⟩, ?_, ?_, ?_, ht.trans q2 (fun b hb => .inr (by simp at hb; omega))⟩
        · rw [Hst.out]; rfl
        · rw [Hst.out]
          have q3 := q2.size
          exact ((hown.tree ⟨k, nm, ⟨vk, vn, vt⟩, op⟩ 0 rfl).touch q2 (fun b hb hm => by simp at hb; have := hm.1; omega)).mono fun b hb => ⟨by have := hb.1; omega, by have := hb.2; omega⟩
        · rw [Hst.out]
          exact (hown.touch q2 (fun b hb => by simp at hb; omega)).base (by omega)
    · obtain ⟨a0, a1, a2, a3, a4, a5, a6, _⟩ := blk7 hX
      obtain ⟨r0, r1, r2, r3, r4, r5, r6, g0, g1, g2, g3, g4, g5, g6⟩ := blk7 hR
      go_wp2_with fail
      obtain ⟨q1, q2⟩ := out7 hR (.int .i64 k) (.string nm) (.int .i64 vk) (.int .i64 vn) (.string vt) (.string op) (.slice none 0 0)
      obtain ⟨d0, d1, d2, d3, d4, d5, d6, _⟩ := blk7 q1
      refine bodyPost_ret (v := .tuple #[.agg #[.int .i64 k, .string nm, .int .i64 vk, .int .i64 vn, .string vt, .string op, .slice none 0 0], .int .i64 1]) (by simp [results, Try.results12, go_sem, d0, d1, d2, d3, d4, d5, d6]) rfl ⟨⟨⟨k, nm, ⟨vk, vn, vt⟩, op⟩, none, 0, 0⟩, ?_, ?_, ?_, ht.trans q2 (fun b hb => .inr (by simp at hb; omega))⟩
      · rw [Hst.out]; rfl
      · rw [Hst.out]
        have q3 := q2.size
        exact ((hown.tree ⟨k, nm, ⟨vk, vn, vt⟩, op⟩ 0 rfl).touch q2 (fun b hb hm => by simp at hb; have := hm.1; omega)).mono fun b hb => ⟨by have := hb.1; omega, by have := hb.2; omega⟩
      · rw [Hst.out]
        exact (hown.touch q2 (fun b hb => by simp at hb; omega)).base (by omega)
set_option maxRecDepth 100000 in
set_option maxHeartbeats 6400000 in
theorem build_succ (m : Nat) (ih : BuildOwn m) : BuildOwn (m + 1) := by
  intro l A len cap d w hl hc h0 hb hd h
  have hne : l ≠ [] := fun q => by rw [q] at hl; simp at hl; omega
  obtain ⟨p, hp⟩ : ∃ p, p = l.headD zeroP := ⟨_, rfl⟩
  have hp0 : l[0]'(by omega) = p := by rw [hp]; cases l with | nil => exact absurd rfl hne | cons a l => rfl
  have Hst := Lib.hid (buildX_succ m l)
  rw [← hp] at Hst
  obtain ⟨ad, b, off, rfl, hadd, hbb, hcell⟩ := RdK.at_ h 7 plE_length (by omega) 0 (by omega)
  clear hbb
  rw [hp0] at hcell
  obtain ⟨⟨k, nm, ⟨vk, vn, vt⟩, op⟩, cnt⟩ := p
  simp only at Hst
  have c0 := hcell 0 _ rfl; have c1 := hcell 1 _ rfl; have c2 := hcell 2 _ rfl; have c3 := hcell 3 _ rfl; have c4 := hcell 4 _ rfl; have c5 := hcell 5 _ rfl; have c6 := hcell 6 _ rfl
  rw [Nat.add_zero] at c0
  simp only at c0 c1 c2 c3 c4 c5 c6
  clear hcell hp0 hp
  have hlI : (0 : Int) < (len : Int) := by omega
  have hdI : (d : Int) < 60 := by omega
  have Hl := Lib.hid hl; have Hne := Lib.hid hne; have Hd := Lib.hid hd; have Hc := Lib.hid hc
  clear hl hne hd
  have t0 := ((Touch.refl [] w).alloc (.cells #[.int .i64 0, .string ⟨#[]⟩, .int .i64 0, .int .i64 0, .string ⟨#[]⟩, .string ⟨#[]⟩, .slice none 0 0] 33)).drew
  have hR0 := ((Touch.refl [] (w.alloc (.cells #[.int .i64 0, .string ⟨#[]⟩, .int .i64 0, .int .i64 0, .string ⟨#[]⟩, .string ⟨#[]⟩, .slice none 0 0] 33))).drew).blk (heap_alloc_new w (.cells #[.int .i64 0, .string ⟨#[]⟩, .int .i64 0, .int .i64 0, .string ⟨#[]⟩, .string ⟨#[]⟩, .slice none 0 0] 33)) (by simp)
  have f0 := t0.cell c0 (by simp)
  have f1 := t0.cell c1 (by simp)
  have f2 := t0.cell c2 (by simp)
  have f3 := t0.cell c3 (by simp)
  have f4 := t0.cell c4 (by simp)
  have f5 := t0.cell c5 (by simp)
  have f6 := t0.cell c6 (by simp)
  go_enter Try.func12, Try.ntmps12
  go_wp2_with fail
  refine wp_region_held_drew (S := fun w' => w'.cell? ⟨b, off, none⟩ = some (.int .i64 k) ∧ w'.cell? ⟨b, off + 1, none⟩ = some (.string nm) ∧ w'.cell? ⟨b, off + 2, none⟩ = some (.int .i64 vk) ∧ w'.cell? ⟨b, off + 2 + 1, none⟩ = some (.int .i64 vn) ∧ w'.cell? ⟨b, off + 2 + 2, none⟩ = some (.string vt) ∧ w'.cell? ⟨b, off + 5, none⟩ = some (.string op)) (by kernel_rfl) ⟨f0, f1, f2, f3, f4, f5⟩ (fun hHeld => ?_)
  refine take_d (i := 0) (d := 11) (v := ?_) rfl rfl (by kernel_rfl) (by kernel_rfl) (by kernel_rfl) (fun _ _ _ h => h) (Or.inl ⟨by rfl, ?_⟩) (by assumption) ?_
  rotate_left
  · intro w hSw; (try dsimp only at hSw); go_simp; (try with_reducible rfl)
  try simp only [Act.put, List.setIfInBounds_toArray, List.set_cons_zero, List.set_cons_succ]
  refine take_d (i := 1) (d := 12) (v := ?_) rfl rfl (by kernel_rfl) (by kernel_rfl) (by kernel_rfl) (fun _ _ _ h => h) (Or.inl ⟨by rfl, ?_⟩) (by assumption) ?_
  rotate_left
  · intro w hSw; (try dsimp only at hSw); go_simp; (try with_reducible rfl)
  try simp only [Act.put, List.setIfInBounds_toArray, List.set_cons_zero, List.set_cons_succ]
  refine take_d (i := 2) (d := 13) (v := ?_) rfl rfl (by kernel_rfl) (by kernel_rfl) (by kernel_rfl) (fun _ _ _ h => h) (Or.inl ⟨by rfl, ?_⟩) (by assumption) ?_
  rotate_left
  · intro w hSw; (try dsimp only at hSw); go_simp; (try with_reducible rfl)
  try simp only [Act.put, List.setIfInBounds_toArray, List.set_cons_zero, List.set_cons_succ]
  refine take_d (i := 3) (d := 14) (v := ?_) rfl rfl (by kernel_rfl) (by kernel_rfl) (by kernel_rfl) (fun _ _ _ h => h) (Or.inl ⟨by rfl, ?_⟩) (by assumption) ?_
  rotate_left
  · intro w hSw; (try dsimp only at hSw); go_simp; (try with_reducible rfl)
  try simp only [Act.put, List.setIfInBounds_toArray, List.set_cons_zero, List.set_cons_succ]
  refine take_d (i := 4) (d := 15) (v := ?_) rfl rfl (by kernel_rfl) (by kernel_rfl) (by kernel_rfl) (fun _ _ _ h => h) (Or.inl ⟨by rfl, ?_⟩) (by assumption) ?_
  rotate_left
  · intro w hSw; (try dsimp only at hSw); go_simp; (try with_reducible rfl)
  try simp only [Act.put, List.setIfInBounds_toArray, List.set_cons_zero, List.set_cons_succ]
  refine take_d (i := 5) (d := 16) (v := ?_) rfl rfl (by kernel_rfl) (by kernel_rfl) (by kernel_rfl) (fun _ _ _ h => h) (Or.inl ⟨by rfl, ?_⟩) (by assumption) ?_
  rotate_left
  · intro w hSw; (try dsimp only at hSw); go_simp; (try with_reducible rfl)
  try simp only [Act.put, List.setIfInBounds_toArray, List.set_cons_zero, List.set_cons_succ]
  refine take_d (i := 6) (d := 17) (v := ?_) rfl rfl (by kernel_rfl) (by kernel_rfl) (by kernel_rfl) (fun _ _ _ h => h) (Or.inl ⟨by rfl, ?_⟩) (by assumption) ?_
  rotate_left
  · intro w hSw; (try dsimp only at hSw); go_simp; (try with_reducible rfl)
  try simp only [Act.put, List.setIfInBounds_toArray, List.set_cons_zero, List.set_cons_succ]
  refine take_d (i := 7) (d := 18) (v := ?_) rfl rfl (by kernel_rfl) (by kernel_rfl) (by kernel_rfl) (fun _ _ _ h => h) (Or.inl ⟨by rfl, ?_⟩) (by assumption) ?_
  rotate_left
  · intro w hSw; (try dsimp only at hSw); go_simp; (try with_reducible rfl)
  try simp only [Act.put, List.setIfInBounds_toArray, List.set_cons_zero, List.set_cons_succ]
  refine take_d (i := 8) (d := 19) (v := ?_) rfl rfl (by kernel_rfl) (by kernel_rfl) (by kernel_rfl) (fun _ _ _ h => h) (Or.inl ⟨by rfl, ?_⟩) (by assumption) ?_
  rotate_left
  · intro w hSw; (try dsimp only at hSw); go_simp; (try with_reducible rfl)
  try simp only [Act.put, List.setIfInBounds_toArray, List.set_cons_zero, List.set_cons_succ]
  refine take_d (i := 9) (d := 20) (v := ?_) rfl rfl (by kernel_rfl) (by kernel_rfl) (by kernel_rfl) (fun _ _ _ h => h) (Or.inl ⟨by rfl, ?_⟩) (by assumption) ?_
  rotate_left
  · intro w hSw; (try dsimp only at hSw); go_simp; (try with_reducible rfl)
  try simp only [Act.put, List.setIfInBounds_toArray, List.set_cons_zero, List.set_cons_succ]
  refine take_d (i := 10) (d := 21) (v := ?_) rfl rfl (by kernel_rfl) (by kernel_rfl) (by kernel_rfl) (fun _ _ _ h => h) (Or.inl ⟨by rfl, ?_⟩) (by assumption) ?_
  rotate_left
  · intro w hSw; (try dsimp only at hSw); go_simp; (try with_reducible rfl)
  try simp only [Act.put, List.setIfInBounds_toArray, List.set_cons_zero, List.set_cons_succ]
  refine take_d (i := 11) (d := 22) (v := ?_) rfl rfl (by kernel_rfl) (by kernel_rfl) (by kernel_rfl) (fun _ _ _ h => h) (Or.inl ⟨by rfl, ?_⟩) (by assumption) ?_
  rotate_left
  · intro w hSw; (try dsimp only at hSw); go_simp; (try with_reducible rfl)
  try simp only [Act.put, List.setIfInBounds_toArray, List.set_cons_zero, List.set_cons_succ]
  refine take_d (i := 12) (d := 23) (v := ?_) rfl rfl (by kernel_rfl) (by kernel_rfl) (by kernel_rfl) (fun _ _ _ h => h) (Or.inl ⟨by rfl, ?_⟩) (by assumption) ?_
  rotate_left
  · intro w hSw; (try dsimp only at hSw); go_simp; (try with_reducible rfl)
  try simp only [Act.put, List.setIfInBounds_toArray, List.set_cons_zero, List.set_cons_succ]
  refine take_d (i := 13) (d := 24) (v := ?_) rfl rfl (by kernel_rfl) (by kernel_rfl) (by kernel_rfl) (fun _ _ _ h => h) (Or.inl ⟨by rfl, ?_⟩) (by assumption) ?_
  rotate_left
  · intro w hSw; (try dsimp only at hSw); go_simp; (try with_reducible rfl)
  try simp only [Act.put, List.setIfInBounds_toArray, List.set_cons_zero, List.set_cons_succ]
  refine take_d (i := 14) (d := 25) (v := ?_) rfl rfl (by kernel_rfl) (by kernel_rfl) (by kernel_rfl) (fun _ _ _ h => h) (Or.inl ⟨by rfl, ?_⟩) (by assumption) ?_
  rotate_left
  · intro w hSw; (try dsimp only at hSw); go_simp; (try with_reducible rfl)
  try simp only [Act.put, List.setIfInBounds_toArray, List.set_cons_zero, List.set_cons_succ]
  refine take_d (i := 15) (d := 26) (v := ?_) rfl rfl (by kernel_rfl) (by kernel_rfl) (by kernel_rfl) (fun _ _ _ h => h) (Or.inl ⟨by rfl, ?_⟩) (by assumption) ?_
  rotate_left
  · intro w hSw; (try dsimp only at hSw); go_simp; (try with_reducible rfl)
  try simp only [Act.put, List.setIfInBounds_toArray, List.set_cons_zero, List.set_cons_succ]
  refine take_d (i := 16) (d := 27) (v := ?_) rfl rfl (by kernel_rfl) (by kernel_rfl) (by kernel_rfl) (fun _ _ _ h => h) (Or.inl ⟨by rfl, ?_⟩) (by assumption) ?_
  rotate_left
  · intro w hSw; (try dsimp only at hSw); go_simp; (try with_reducible rfl)
  try simp only [Act.put, List.setIfInBounds_toArray, List.set_cons_zero, List.set_cons_succ]
  have tn := (((Touch.refl [] w).alloc (.cells #[.int .i64 0, .string ⟨#[]⟩, .int .i64 0, .int .i64 0, .string ⟨#[]⟩, .string ⟨#[]⟩, .slice none 0 0] 33)).alloc (.cells #[.int .i64 0, .string ⟨#[]⟩, .int .i64 0, .int .i64 0, .string ⟨#[]⟩, .string ⟨#[]⟩, .slice none 0 0] 33)).drew
  have g0 := tn.cell c0 (by simp)
  have g1 := tn.cell c1 (by simp)
  have g2 := tn.cell c2 (by simp)
  have g3 := tn.cell c3 (by simp)
  have g4 := tn.cell c4 (by simp)
  have g5 := tn.cell c5 (by simp)
  have g6 := tn.cell c6 (by simp)
  refine wpAnyH_ready (rs := [17]) (by kernel_rfl) (by simp) ?_
  refine AllReadyH.cons rfl (fun K hK => ?_) AllReadyH.nil
  go_simp
  (try go_wp2_with fail)
  refine hK.out _ _ ⟨g0, g1, g2, g3, g4, g5⟩ (fun _hH => ?_)
  clear hK K
  try simp only [Act.put, List.setIfInBounds_toArray, List.set_cons_zero, List.set_cons_succ]
  have te := (((Touch.refl [] w).alloc (.cells #[.int .i64 0, .string ⟨#[]⟩, .int .i64 0, .int .i64 0, .string ⟨#[]⟩, .string ⟨#[]⟩, .slice none 0 0] 33)).alloc (.cells #[.int .i64 k, .string nm, .int .i64 vk, .int .i64 vn, .string vt, .string op, .slice none 0 0] 33)).drew
  have e0 := te.cell c0 (by simp)
  have e1 := te.cell c1 (by simp)
  have e2 := te.cell c2 (by simp)
  have e3 := te.cell c3 (by simp)
  have e4 := te.cell c4 (by simp)
  have e5 := te.cell c5 (by simp)
  have e6 := te.cell c6 (by simp)
  refine wpAnyH_ready (rs := [18]) (by kernel_rfl) (by simp) ?_
  refine AllReadyH.cons rfl (fun K hK => ?_) AllReadyH.nil
  go_simp
  (try go_wp2_with fail)
  refine hK.out _ _ ⟨e0, e1, e2, e3, e4, e5⟩ (fun _hH => ?_)
  clear hK K
  try simp only [Act.put, List.setIfInBounds_toArray, List.set_cons_zero, List.set_cons_succ]
  refine wpAnyH_done (by kernel_rfl) ?_ _
  have hX0 : ((w.alloc (.cells #[.int .i64 0, .string ⟨#[]⟩, .int .i64 0, .int .i64 0, .string ⟨#[]⟩, .string ⟨#[]⟩, .slice none 0 0] 33)).alloc (.cells #[.int .i64 k, .string nm, .int .i64 vk, .int .i64 vn, .string vt, .string op, .slice none 0 0] 33)).drew.heap[w.heap.size + 1]? = some (.cells #[.int .i64 k, .string nm, .int .i64 vk, .int .i64 vn, .string vt, .string op, .slice none 0 0] 33 (0, 0)) := by have := heap_alloc_new (w.alloc (.cells #[.int .i64 0, .string ⟨#[]⟩, .int .i64 0, .int .i64 0, .string ⟨#[]⟩, .string ⟨#[]⟩, .slice none 0 0] 33)) (.cells #[.int .i64 k, .string nm, .int .i64 vk, .int .i64 vn, .string vt, .string op, .slice none 0 0] 33); rw [World.size_alloc] at this; exact this
  have hR1 := ((Touch.refl [] (w.alloc (.cells #[.int .i64 0, .string ⟨#[]⟩, .int .i64 0, .int .i64 0, .string ⟨#[]⟩, .string ⟨#[]⟩, .slice none 0 0] 33))).alloc (.cells #[.int .i64 k, .string nm, .int .i64 vk, .int .i64 vn, .string vt, .string op, .slice none 0 0] 33)).drew.blk (heap_alloc_new w (.cells #[.int .i64 0, .string ⟨#[]⟩, .int .i64 0, .int .i64 0, .string ⟨#[]⟩, .string ⟨#[]⟩, .slice none 0 0] 33)) (by simp)
  clear f0 f1 f2 f3 f4 f5 f6 g0 g1 g2 g3 g4 g5 g6 e0 e1 e2 e3 e4 e5 e6 tn t0 hR0
  go_wp2_with fail
  go_loopw [7, 8] (fun tv jv wr => ∃ (j t : Nat) (bs : List (TX (m + 1))) (B : Option Addr) (cB : Nat), jv = .int .i64 j ∧ tv = .int .i64 t ∧ Hid (Come (buildX m) cnt.toNat l j t bs) ∧ j < t ∧ t ≤ len ∧ wr.heap[w.heap.size + 1]? = some (.cells #[.int .i64 k, .string nm, .int .i64 vk, .int .i64 vn, .string vt, .string op, .slice B j cB] 33 (0, 0)) ∧ wr.heap[w.heap.size]? = some (.cells #[.int .i64 0, .string ⟨#[]⟩, .int .i64 0, .int .i64 0, .string ⟨#[]⟩, .string ⟨#[]⟩, .slice none 0 0] 33 (0, 0)) ∧ OwnX 33 xcE (w.heap.size + 2) (m + 1) wr B cB bs ∧ Touch [] w wr) (fun tv _ _ => len - (intOf tv).toNat)
  case atStart => exact ⟨0, 1, [], none, 0, rfl, rfl, Lib.hid (Come.start _ _ Hne.out), by omega, by omega, hX0, hR1, OwnX.nil _ _ _ _ _, te⟩
  case round =>
    obtain ⟨j, t, bs, B, cB, rfl, rfl, Hco, hjt, htl, hX, hR, hown, ht⟩ := hrel
    clear hX0 hR1 te
    have f6 := ht.cell c6 (by simp)
    have Hbl := Lib.hid Hco.out.1
    have hBlt := fun b hb => (hown.lt b hb).2
    have hBlo := fun b hb => (hown.lt b hb).1
    have hXB : w.heap.size + 1 ∉ fpo B := fun hm => by have := hBlo _ hm; omega
    have hRB : w.heap.size ∉ fpo B := fun hm => by have := hBlo _ hm; omega
    have hlX := (Array.getElem?_eq_some_iff.1 hX).1
    by_cases hjc : (j : Int) < cnt
    · by_cases htl2 : t < len
      · have htI : (t : Int) < (len : Int) := by omega
        have hdl : (l.drop t).length = len - t := by rw [List.length_drop, Hl.out]
        have hdn : l.drop t ≠ [] := fun q => by rw [q] at hdl; simp at hdl; omega
        have hnle := buildX_le m (l.drop t) hdn
        have hnpos := buildX_pos m (l.drop t)
        have Hstep := Lib.hid (Hco.out.step (by omega) (by rw [Hl.out]; exact htl2) hnle)
        have Hc2 := Lib.hid (ih (l.drop t) (some (ad.add (t * 7))) (len - t) (cap - t) (d + 1) wr hdl (by have := Hc.out; omega) (by omega) (by omega) (by have := Hd.out; omega) (PlsAt.drop (h.touch0 ht) t))
        rw [hdl] at hnle
        obtain ⟨⟨a, n⟩, han⟩ : ∃ r, r = buildX m (l.drop t) := ⟨_, rfl⟩
        rw [← han] at hnle hnpos Hstep Hc2
        simp only at hnle hnpos Hstep Hc2
        clear hdl hdn han
        go_wp2_with fail
        refine Hc2.out.mono ?_
        rintro e w1 ⟨x1, rfl, hx1, -, u1⟩
        obtain ⟨⟨k2, nm2, ⟨vk2, vn2, vt2⟩, op2⟩, A2, m2, c2'⟩ := x1
        dsimp only [XC.val]
        have tb := (Touch.refl [] w1).alloc (.cells #[.int .i64 k2, .string nm2, .int .i64 vk2, .int .i64 vn2, .string vt2, .string op2, .slice A2 m2 c2'] 33)
        have hX1 := (u1.trans0 tb).blk hX (by simp)
        have hR2 := (u1.trans0 tb).blk hR (by simp)
        have z0 := cell_blk hX1 (i := 6) rfl
        have hown1 := (hown.touch0 u1).touch0 tb
        have s1 := u1.size
        go_wp2_with (at_builtin; refine stop ?_)
        refine go ?_
        refine wpList_appX xcE_length xcE_one rfl (.tmp 56) (.tmp 58) 31 rfl 33 _ 96 info_expr2 Try.underlying31 rfl (by omega) (w.heap.size + 2) (m + 1) B j cB bs Hbl.out rfl hown1 ⟨⟨k2, nm2, ⟨vk2, vn2, vt2⟩, op2⟩, A2, m2, c2'⟩ a ((hx1.touch0 tb).mono fun b hb => ⟨⟨by have := hb.1; omega, by have := hb.2; simp; omega⟩, fun hm => by have := hBlt b hm; have := hb.1; omega⟩) (by simp; omega) 1 (by rw [World.size_alloc]; rfl) (by omega) rfl ?_
        intro B5 cB5 w5 hown5 ht5 hf5
        have hX5 := ht5.blk hX1 hXB
        have hR5 := ht5.blk hR2 hRB
        have z5 := cell_blk hX5 (i := 6) rfl
        have f5 : w5.frozen? ⟨w.heap.size + 1, 6, none⟩ = false := by simp [World.frozen?, hX5]
        have T5 := ((ht.trans0 u1).trans0 tb).trans ht5 (fun b hb => .inr (by have := hBlo b hb; omega))
        have t7 := (Touch.refl [w.heap.size + 1] w5).setCell (p := ⟨w.heap.size + 1, 6, none⟩) (.inl (by simp)) (.slice B5 (j + 1) cB5)
        go_wp2
        go_roundw
        case rel => exact ⟨j + 1, t + n, bs ++ [a], B5, cB5, by go_num, by go_num, Hstep, by omega, by omega, set_blk hX5 6 _, t7.blk hR5 (by simp), hown5.touch t7 (fun b hb => by simp at hb; omega), T5.setCell (p := ⟨w.heap.size + 1, 6, none⟩) (.inr (by simp only; omega)) _⟩
        case measure => simp [intOf]; omega
      · have htI : ¬ (t : Int) < (len : Int) := by omega
        obtain ⟨a0, a1, a2, a3, a4, a5, a6, _⟩ := blk7 hX
        obtain ⟨r0, r1, r2, r3, r4, r5, r6, g0, g1, g2, g3, g4, g5, g6⟩ := blk7 hR
        go_wp2_with fail
        obtain ⟨q1, q2⟩ := out7 hR (.int .i64 k) (.string nm) (.int .i64 vk) (.int .i64 vn) (.string vt) (.string op) (.slice B j cB)
        obtain ⟨d0, d1, d2, d3, d4, d5, d6, _⟩ := blk7 q1
        refine bodyPost_ret (v := .tuple #[.agg #[.int .i64 k, .string nm, .int .i64 vk, .int .i64 vn, .string vt, .string op, .slice B j cB], .int .i64 (t : Int)]) (by simp [results, Try.results12, go_sem, d0, d1, d2, d3, d4, d5, d6]) rfl ⟨⟨⟨k, nm, ⟨vk, vn, vt⟩, op⟩, B, j, cB⟩, ?_, ?_, ?_, ht.trans q2 (fun b hb => .inr (by simp at hb; omega))⟩
        · have hs := Hco.out.stop (Or.inr (by rw [Hl.out]; omega))
          rw [Hst.out, hs]; simp only; rw [show 1 + (t - 1) = t by omega]; rfl
        · have hs := Hco.out.stop (Or.inr (by rw [Hl.out]; omega))
          rw [Hst.out, hs]
          have q3 := q2.size
          exact ((hown.tree ⟨k, nm, ⟨vk, vn, vt⟩, op⟩ j Hbl.out.symm).touch q2 (fun b hb hm => by simp at hb; have := hm.1; omega)).mono fun b hb => ⟨by have := hb.1; omega, by have := hb.2; omega⟩
        · have hs := Hco.out.stop (Or.inr (by rw [Hl.out]; omega))
          rw [Hst.out, hs]
          exact (hown.touch q2 (fun b hb => by simp at hb; omega)).base (by omega)
    · obtain ⟨a0, a1, a2, a3, a4, a5, a6, _⟩ := blk7 hX
      obtain ⟨r0, r1, r2, r3, r4, r5, r6, g0, g1, g2, g3, g4, g5, g6⟩ := blk7 hR
      go_wp2_with fail
      obtain ⟨q1, q2⟩ := out7 hR (.int .i64 k) (.string nm) (.int .i64 vk) (.int .i64 vn) (.string vt) (.string op) (.slice B j cB)
      obtain ⟨d0, d1, d2, d3, d4, d5, d6, _⟩ := blk7 q1
      refine bodyPost_ret (v := .tuple #[.agg #[.int .i64 k, .string nm, .int .i64 vk, .int .i64 vn, .string vt, .string op, .slice B j cB], .int .i64 (t : Int)]) (by simp [results, Try.results12, go_sem, d0, d1, d2, d3, d4, d5, d6]) rfl ⟨⟨⟨k, nm, ⟨vk, vn, vt⟩, op⟩, B, j, cB⟩, ?_, ?_, ?_, ht.trans q2 (fun b hb => .inr (by simp at hb; omega))⟩
      · have hs := Hco.out.stop (Or.inl (by omega))
        rw [Hst.out, hs]; simp only; rw [show 1 + (t - 1) = t by omega]; rfl
      · have hs := Hco.out.stop (Or.inl (by omega))
        rw [Hst.out, hs]
        have q3 := q2.size
        exact ((hown.tree ⟨k, nm, ⟨vk, vn, vt⟩, op⟩ j Hbl.out.symm).touch q2 (fun b hb hm => by simp at hb; have := hm.1; omega)).mono fun b hb => ⟨by have := hb.1; omega, by have := hb.2; omega⟩
      · have hs := Hco.out.stop (Or.inl (by omega))
        rw [Hst.out, hs]
        exact (hown.touch q2 (fun b hb => by simp at hb; omega)).base (by omega)
theorem build_own : ∀ m, BuildOwn m
  | 0 => build_zero
  | m + 1 => build_succ m (build_own m)
theorem build_any (m : Nat) : BuildSaid m := fun l A len cap d w h1 h2 h3 h4 h5 h6 => (build_own m l A len cap d w h1 h2 h3 h4 h5 h6).mono fun _ _ ⟨x, e1, e2, _, e4⟩ => ⟨x, e1, e2, e4⟩
end Go.Proofs.Ytlkckkagoommaaa

/- bywashlaw04: small, smallSchema. For every list and schema. -/
namespace Go.Proofs.Ytlkckkagoommaaa
open Go.RowKit

def smallP (p : PL) : Bool := decide (p.nd.name.size ≤ 50) && (decide (p.nd.op.size ≤ 50) && decide (p.nd.v.text.size ≤ 100))
def smallL (l : List PL) : Bool := l.all smallP && (decide (0 < l.length) && decide (l.length ≤ 300))
def smallC4 (c : CD) : Bool := decide (c.name.size ≤ 50)
def smallS4 (cs : List CD) : Bool := cs.all smallC4 && decide (cs.length ≤ 20)
theorem smallL_true {l : List PL} (h : smallL l = true) : (∀ p ∈ l, p.nd.name.size ≤ 50 ∧ p.nd.op.size ≤ 50 ∧ p.nd.v.text.size ≤ 100) ∧ 0 < l.length ∧ l.length ≤ 300 := by
  unfold smallL at h
  rw [Bool.and_eq_true, Bool.and_eq_true, List.all_eq_true] at h
  exact ⟨fun p hp => by simpa [smallP] using h.1 p hp, of_decide_eq_true h.2.1, of_decide_eq_true h.2.2⟩
theorem smallS4_true {cs : List CD} (h : smallS4 cs = true) : (∀ c ∈ cs, c.name.size ≤ 50) ∧ cs.length ≤ 20 := by
  unfold smallS4 at h
  rw [Bool.and_eq_true, List.all_eq_true] at h
  exact ⟨fun c hc => by simpa [smallC4] using h.1 c hc, of_decide_eq_true h.2⟩
theorem PlsAt.at_ {w : World} {A : Option Addr} {l : List PL} (h : PlsAt w A l) (i : Nat) (hi : i < l.length) :
    ∃ ad b off, A = some ad ∧ ad.add (i * 7) = ⟨b, off, none⟩ ∧ ∀ j u, (plE l[i])[j]? = some u → w.cell? ⟨b, off + j, none⟩ = some u := by
  obtain ⟨ad, b, off, h1, h2, _, h3⟩ := RdK.at_ h 7 plE_length (by omega) i hi
  exact ⟨ad, b, off, h1, h2, h3⟩
theorem PlsAt.touch0 {w w' : World} {A : Option Addr} {l : List PL} (h : PlsAt w A l) (ht : Touch [] w w') : PlsAt w' A l := RdK.touch0 h ht

set_option maxRecDepth 20000 in
set_option maxHeartbeats 1600000 in
theorem small4_any (A : Option Addr) (cap n : Nat) (l : List PL) (hn : l.length = n) (w : World) (h : PlsAt w A l) (hl : n ≤ 9223372036854775807) :
    Calls Try.prog 9 #[.slice A n cap] w fun e w' => e = .returned (.bool (smallL l)) ∧ Touch [] w w' := by
  subst hn
  go_enter Try.func9, Try.ntmps9
  go_wp2
  go_loopw [7] (fun i wr => ∃ k : Nat, k ≤ l.length ∧ i = .int .i64 k ∧ Hid ((l.take k).all smallP = true) ∧ Touch [] w wr) (fun i _ => l.length - (intOf i).toNat)
  case atStart => exact ⟨0, by omega, rfl, Lib.hid rfl, Touch.refl _ _⟩
  case round =>
    obtain ⟨k, hk, rfl, Hall, ht⟩ := hrel
    by_cases hlt : k < l.length
    · obtain ⟨ad, b, off, rfl, hadd, hcell⟩ := (h.touch0 ht).at_ k hlt
      have hno := all_no (p := smallP) hlt
      have hyes := all_snoc (p := smallP) hlt Hall.out
      obtain ⟨p, hpe⟩ : ∃ p, p = l[k] := ⟨_, rfl⟩
      rw [← hpe] at hcell hno hyes
      obtain ⟨⟨kd, nm, ⟨vk, vn, vt⟩, op⟩, cnt⟩ := p
      have c0 := hcell 0 _ rfl; have c1 := hcell 1 _ rfl; have c2 := hcell 2 _ rfl; have c3 := hcell 3 _ rfl; have c4 := hcell 4 _ rfl; have c5 := hcell 5 _ rfl; have c6 := hcell 6 _ rfl
      rw [Nat.add_zero] at c0
      simp only at c0 c1 c2 c3 c4 c5 c6
      have Hno := Lib.hid hno; have Hyes := Lib.hid hyes
      clear hpe hno hyes Hall hcell
      by_cases h1 : 50 < nm.size
      · have Hs := Lib.hid (Hno.out (by simp [smallP]; omega))
        have q1 : (50 : Int) < (nm.size : Int) := by omega
        clear h1
        go_wp2
        go_ret
        exact ⟨ret_bool (by unfold smallL; rw [Hs.out]; rfl), ht.alloc _⟩
      by_cases h2 : 50 < op.size
      · have Hs := Lib.hid (Hno.out (by simp [smallP]; omega))
        have q1 : ¬ (50 : Int) < (nm.size : Int) := by omega
        have q2 : (50 : Int) < (op.size : Int) := by omega
        clear h1 h2
        go_wp2
        go_ret
        exact ⟨ret_bool (by unfold smallL; rw [Hs.out]; rfl), ht.alloc _⟩
      by_cases h3 : 100 < vt.size
      · have Hs := Lib.hid (Hno.out (by simp [smallP]; omega))
        have q1 : ¬ (50 : Int) < (nm.size : Int) := by omega
        have q2 : ¬ (50 : Int) < (op.size : Int) := by omega
        have q3 : (100 : Int) < (vt.size : Int) := by omega
        clear h1 h2 h3
        go_wp2
        go_ret
        exact ⟨ret_bool (by unfold smallL; rw [Hs.out]; rfl), ht.alloc _⟩
      · have Hs := Lib.hid (Hyes.out (by simp [smallP]; omega))
        have q1 : ¬ (50 : Int) < (nm.size : Int) := by omega
        have q2 : ¬ (50 : Int) < (op.size : Int) := by omega
        have q3 : ¬ (100 : Int) < (vt.size : Int) := by omega
        clear h1 h2 h3
        go_wp2
        go_roundw
        case rel => exact ⟨k + 1, by omega, by go_num, Hs, ht.alloc _⟩
        case measure => simp [intOf]; omega
    · obtain rfl : k = l.length := by omega
      have hall := Hall.out
      rw [List.take_length] at hall
      have Hs := Lib.hid (show smallL l = (decide (0 < l.length) && decide (l.length ≤ 300)) by unfold smallL; rw [hall, Bool.true_and])
      clear hall Hall
      by_cases h0 : 0 < l.length
      · by_cases h3 : l.length ≤ 300
        · have q0 : (0 : Int) < (l.length : Int) := by omega
          have q3 : (l.length : Int) ≤ 300 := by omega
          have Hs2 := Lib.hid (show smallL l = true by rw [Hs.out, decide_eq_true h0, decide_eq_true h3]; rfl)
          clear h0 h3
          go_wp2
          go_ret
          exact ⟨ret_bool Hs2.out.symm, ht⟩
        · have q0 : (0 : Int) < (l.length : Int) := by omega
          have q3 : ¬ (l.length : Int) ≤ 300 := by omega
          have Hs2 := Lib.hid (show smallL l = false by rw [Hs.out, decide_eq_true h0, decide_eq_false h3]; rfl)
          clear h0 h3
          go_wp2
          go_ret
          exact ⟨ret_bool Hs2.out.symm, ht⟩
      · have q0 : ¬ (0 : Int) < (l.length : Int) := by omega
        have Hs2 := Lib.hid (show smallL l = false by rw [Hs.out, decide_eq_false h0]; rfl)
        clear h0
        go_wp2
        go_ret
        exact ⟨ret_bool Hs2.out.symm, ht⟩

set_option maxHeartbeats 800000 in
theorem smallS4_any (A : Option Addr) (cap n : Nat) (cs : List CD) (hn : cs.length = n) (w : World) (h : ColsAt w A cs) (hl : n ≤ 9223372036854775807) :
    Calls Try.prog 10 #[.slice A n cap] w fun e w' => e = .returned (.bool (smallS4 cs)) ∧ Touch [] w w' := by
  subst hn
  go_enter Try.func10, Try.ntmps10
  go_wp2
  go_loopw [7] (fun i wr => ∃ k : Nat, k ≤ cs.length ∧ i = .int .i64 k ∧ Hid ((cs.take k).all smallC4 = true) ∧ Touch [] w wr) (fun i _ => cs.length - (intOf i).toNat)
  case atStart => exact ⟨0, by omega, rfl, Lib.hid rfl, Touch.refl _ _⟩
  case round =>
    obtain ⟨k, hk, rfl, Hall, ht⟩ := hrel
    by_cases hlt : k < cs.length
    · obtain ⟨ad, b, off, rfl, hadd, c0, c1⟩ := (h.touch0 ht).at_ k hlt
      have hno := all_no (p := smallC4) hlt
      have hyes := all_snoc (p := smallC4) hlt Hall.out
      obtain ⟨c, hce⟩ : ∃ c, c = cs[k] := ⟨_, rfl⟩
      rw [← hce] at c0 c1 hno hyes
      have Hno := Lib.hid hno; have Hyes := Lib.hid hyes
      clear hce hno hyes Hall
      by_cases h1 : 50 < c.name.size
      · have Hs := Lib.hid (Hno.out (by simp [smallC4]; omega))
        have q1 : (50 : Int) < (c.name.size : Int) := by omega
        clear h1
        go_wp2
        go_ret
        exact ⟨ret_bool (by unfold smallS4; rw [Hs.out]; rfl), ht.alloc _⟩
      · have Hs := Lib.hid (Hyes.out (by simp [smallC4]; omega))
        have q1 : ¬ (50 : Int) < (c.name.size : Int) := by omega
        clear h1
        go_wp2
        go_roundw
        case rel => exact ⟨k + 1, by omega, by go_num, Hs, ht.alloc _⟩
        case measure => simp [intOf]; omega
    · obtain rfl : k = cs.length := by omega
      have hall := Hall.out
      rw [List.take_length] at hall
      have Hs := Lib.hid (show smallS4 cs = decide ((cs.length : Int) ≤ 20) by unfold smallS4; rw [hall, Bool.true_and]; exact decide_eq_decide.2 (by omega))
      clear hall Hall
      go_wp2
      go_ret
      exact ⟨ret_bool Hs.out.symm, ht⟩
end Go.Proofs.Ytlkckkagoommaaa
