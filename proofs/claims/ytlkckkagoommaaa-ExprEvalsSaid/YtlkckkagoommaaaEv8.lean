/- Part 8 of the texts of this proof, one behind the other; each begins with its own sentence. No condition beyond those that its theorems state. -/
import Derived.Test.YtlkckkagoommaaaEv7
import Derived.Deep.DrawnRows
/- value.plain, Right, schema.Fits, expr.Eval for rows whose texts are of any length. For every row. -/
namespace Go.Proofs.Ytlkckkagoommaaa
open Go.RowKit
attribute [local go_sem ↓] Go.wp_at_zero Go.wp_at_succ

theorem right_size {v : VD} (h : v.right = true) : v.text.size ≤ 64 := by
  obtain ⟨k, n, t⟩ := v
  have h0 : ∀ {s : ByteArray}, s.toList.isEmpty = true → s.size ≤ 64 := fun {s} hs => by
    rw [isEmpty_S] at hs
    rw [of_decide_eq_true hs]
    exact Nat.zero_le _
  rcases right_kinds h with hk | hk | hk
  · have hk : k = 0 := hk
    subst hk
    rw [right0, Bool.and_eq_true] at h
    exact h0 h.2
  · have hk : k = 1 := hk
    subst hk
    rw [right1] at h
    exact h0 h
  · have hk : k = 2 := hk
    subst hk
    rw [right2, Bool.and_eq_true] at h
    have h2 := h.2
    unfold plainV at h2
    rw [Bool.and_eq_true, decide_eq_true_eq, size_toList] at h2
    exact h2.2
theorem row_right {cs : List CD} {row : List VD} (hf : fitR cs row = true) : ∀ v ∈ row, v.right = true := fun v hv => by
  obtain ⟨k, hk, rfl⟩ := List.mem_iff_getElem.1 hv
  have h := fitR_at hf k (by have := fitR_len hf; omega) hk
  unfold fitC at h
  rw [Bool.and_eq_true] at h
  exact h.1
theorem row_size {cs : List CD} {row : List VD} (hf : fitR cs row = true) : ∀ v ∈ row, v.text.size ≤ 140737000000000 := fun v hv => by
  have := right_size (row_right hf v hv)
  omega
set_option maxRecDepth 20000 in
set_option maxHeartbeats 800000 in
theorem plain_big (t : List UInt8) (hs : t.length ≤ 9223372036854775807) (w : World) :
    Calls Try.prog 39 #[.string (S t)] w fun e w' => e = .returned (.bool (plainV t)) ∧ Touch [] w w' := by
  go_enter Try.func39, Try.ntmps39
  have hconv := run_bytes_of t w
  have hsz := S_size t
  have hr := rd_bytes w t
  have ht := touch_bytes w t
  obtain ⟨W, hW⟩ : ∃ W, W = Lib.bytesWorld w 5 (S t) := ⟨_, rfl⟩
  rw [← hW] at hconv hr ht
  clear hW
  go_wp2_with fail
  clear hconv
  go_loop [8] (fun i => ∃ k : Nat, k ≤ t.length ∧ i = .int .i64 k ∧ Hid ((t.take k).all okB = true)) (fun i => t.length - (intOf i).toNat)
  case atStart => exact ⟨0, by omega, rfl, Lib.hid rfl⟩
  case round =>
    obtain ⟨k, hk, rfl, hall⟩ := hrel
    by_cases hlt : k < t.length
    · obtain ⟨ad, e1, hcell⟩ := hr.at_ k hlt
      obtain rfl : ⟨w.heap.size, 0, none⟩ = ad := by injection e1
      obtain ⟨x, hx⟩ : ∃ x, x = t[k] := ⟨_, rfl⟩
      have hadd : (⟨w.heap.size, 0, none⟩ : Addr).add k = ⟨w.heap.size, k, none⟩ := by unfold Addr.add; split <;> simp_all
      rw [← hx, hadd] at hcell
      have hxl := x.toNat_lt
      have hbad : okB x = false → plainV t = false := fun h => by
        unfold plainV
        have : t.all okB = false := by
          rw [List.all_eq_false]
          exact ⟨t[k], List.getElem_mem hlt, by rw [← hx, h]; simp⟩
        rw [this]; rfl
      have hgood : okB x = true → (t.take (k + 1)).all okB = true := fun h => by
        rw [List.take_succ_eq_append_getElem hlt, List.all_append, hall.out, ← hx]
        simp [h]
      have Hb := Lib.hid hbad
      have Hg := Lib.hid hgood
      clear hbad hgood hx hall e1 hadd
      by_cases h1 : x.toNat < 32
      · have hz : ((x.toNat : Int) < 32) = True := eq_true (by omega)
        go_wp2
        go_ret
        exact ⟨by rw [Hb.out (by simp [okB]; omega)]; rfl, ht⟩
      have hz : ((x.toNat : Int) < 32) = False := eq_false (by omega)
      by_cases h2 : 126 < x.toNat
      · have hy : (126 < (x.toNat : Int)) = True := eq_true (by omega)
        go_wp2
        go_ret
        exact ⟨by rw [Hb.out (by simp [okB]; omega)]; rfl, ht⟩
      · have hy : (126 < (x.toNat : Int)) = False := eq_false (by omega)
        go_wp2
        go_round
        case rel => exact ⟨k + 1, by omega, by go_num, Lib.hid (Hg.out (by simp [okB]; omega))⟩
        case measure => simp [intOf]; omega
    · obtain rfl : k = t.length := by omega
      have hfin : plainV t = decide ((t.length : Int) ≤ 64) := by
        have h := hall.out
        rw [List.take_length] at h
        unfold plainV
        rw [h, Bool.true_and]
        exact decide_eq_decide.2 (by omega)
      have Hf := Lib.hid hfin
      clear hfin hall
      go_wp2
      go_ret
      exact ⟨by rw [Hf.out]; rfl, ht⟩
set_option maxRecDepth 20000 in
set_option maxHeartbeats 800000 in
theorem right_big (v : VD) (hs : v.text.size ≤ 9223372036854775807) (w : World) :
    Calls Try.prog 16 #[v.val] w fun e w' => e = .returned (.bool v.right) ∧ Touch [] w w' := by
  obtain ⟨k, n, s⟩ := v
  dsimp only [VD.val] at *
  go_enter Try.func16, Try.ntmps16
  have t0 := (Touch.refl [] w).alloc (.cells #[.int .i64 k, .int .i64 n, .string s] 30)
  have hp := plain_big s.data.toList (by rw [size_toList]; exact hs) (w.alloc (.cells #[.int .i64 2, .int .i64 0, .string s] 30))
  rw [S_of] at hp
  have Hp := Lib.hid hp
  clear hp
  by_cases h0 : k = 0
  · subst h0
    by_cases hn : n = 0
    · subst hn
      go_wp2_with fail
      go_ret
      exact ⟨rfl, t0⟩
    · have hne : (n == 0) = false := by simpa using hn
      have hr : VD.right ⟨0, n, s⟩ = false := by simp [VD.right, hn]
      have Hr := Lib.hid hr
      clear hr
      go_wp2_with fail
      go_ret
      exact ⟨by rw [Hr.out]; rfl, t0⟩
  by_cases h1 : k = 1
  · subst h1
    go_wp2_with fail
    go_ret
    exact ⟨rfl, t0⟩
  by_cases h2 : k = 2
  · subst h2
    by_cases hn : n = 0
    · subst hn
      go_wp2_with fail
      refine Hp.out.mono ?_
      rintro e w1 ⟨rfl, t1⟩
      go_wp2_with fail
      go_ret
      exact ⟨rfl, t0.trans0 t1⟩
    · have hne : (n == 0) = false := by simpa using hn
      have hr : VD.right ⟨2, n, s⟩ = false := by simp [VD.right, hn]
      have Hr := Lib.hid hr
      clear hr
      go_wp2_with fail
      go_ret
      exact ⟨by rw [Hr.out]; rfl, t0⟩
  · have hr : VD.right ⟨k, n, s⟩ = false := by simp [VD.right, h0, h1, h2]
    have Hr := Lib.hid hr
    clear hr
    go_wp2_with fail
    go_ret
    exact ⟨by rw [Hr.out]; rfl, t0⟩
set_option maxRecDepth 20000 in
set_option maxHeartbeats 6400000 in
theorem fits_big (A : Option Addr) (cap n : Nat) (cs : List CD) (hn : cs.length = n) (hok : ∀ c ∈ cs, c.Ok) (B : Option Addr) (bcap m : Nat) (vs : List VD) (hm : vs.length = m) (hvk : ∀ v ∈ vs, v.Ok 9223372036854775807)
    (w : World) (h : ColsAt w A cs) (hv : ValsAt w B vs) (hl : n ≤ 140737000000000) (hl2 : m ≤ 140737000000000) :
    Calls Try.prog 15 #[.slice A n cap, .slice B m bcap] w fun e w' => e = .returned (.bool (decide (checkV cs = 0) && fitR cs vs)) ∧ Touch [] w w' := by
  subst hn hm
  have hchk := check_any A cap cs.length cs rfl hok w h (by omega)
  by_cases hc0 : checkV cs = 0
  · rw [hc0] at hchk
    have Hchk := Lib.hid hchk; have Hc0 := Lib.hid (show (decide (checkV cs = 0) && fitR cs vs) = fitR cs vs by rw [hc0]; rfl)
    clear hchk hc0
    by_cases hlen : vs.length = cs.length
    · have Hlen := Lib.hid hlen
      go_enter Try.func15, Try.ntmps15
      go_wp2_with (go_at_call 38; refine Hchk.out.mono ?_; rintro e w1 ⟨rfl, t1⟩)
      clear Hchk
      go_loopw [19] (fun i wr => ∃ k : Nat, k ≤ vs.length ∧ i = .int .i64 k ∧ Hid (((List.zipWith fitC cs vs).take k).all id = true) ∧ Touch [] w wr) (fun i _ => vs.length - (intOf i).toNat)
      case atStart => exact ⟨0, by omega, rfl, Lib.hid rfl, t1⟩
      case round =>
        clear t1
        obtain ⟨k, hk, rfl, Hall, ht⟩ := hrel
        clear hlen
        by_cases hlt : k < vs.length
        · have hlt2 : k < cs.length := by have := Hlen.out; omega
          obtain ⟨ad, b, off, rfl, hadd, c0, c1⟩ := (h.touch0 ht).at_ k hlt2
          obtain ⟨bd, b2, off2, rfl, hadd2, d0, d1, d2⟩ := (hv.touch0 ht).at_ k hlt
          have hno := fit_no hlt2 hlt
          have hyes := fit_yes hlt2 hlt Hall.out
          have hvok := hvk _ (List.getElem_mem hlt)
          obtain ⟨c, hce⟩ : ∃ c, c = cs[k] := ⟨_, rfl⟩
          obtain ⟨v, hve⟩ : ∃ v, v = vs[k] := ⟨_, rfl⟩
          rw [← hce] at c0 c1 hno hyes
          rw [← hve] at d0 d1 d2 hno hyes hvok
          have Hno := Lib.hid hno; have Hyes := Lib.hid hyes
          obtain ⟨_, _, hvt⟩ := hvok
          obtain ⟨kd, nm, tx⟩ := v
          simp only at d0 d1 d2 hvt
          clear hce hve hno hyes Hall c0
          have hb := heap_alloc_new wr (.cells #[.int .i64 kd, .int .i64 nm, .string tx] 30)
          have tb := (Touch.refl [] wr).alloc (.cells #[.int .i64 kd, .int .i64 nm, .string tx] 30)
          obtain ⟨W, hW⟩ : ∃ W, W = wr.alloc (.cells #[.int .i64 kd, .int .i64 nm, .string tx] 30) := ⟨_, rfl⟩
          rw [← hW] at hb tb
          have g0 := TW.cell (cell_blk hb (i := 0) rfl)
          have g1 := TW.cell (cell_blk hb (i := 1) rfl)
          have g2 := TW.cell (cell_blk hb (i := 2) rfl)
          have g3 := TW.cell (tb.cell c1 (by simp))
          have hright := fun w' => right_big ⟨kd, nm, tx⟩ hvt w'
          simp only [VD.val] at hright
          have hkI0 : (0 : Int) ≤ (k : Int) := by omega
          have hkI : (k : Int) < (cs.length : Int) := by omega
          have HW := Lib.hid hW
          clear hW hb
          rcases hvr : VD.right ⟨kd, nm, tx⟩ with _ | _
          · have Hf := Lib.hid (Hno.out (by unfold fitC; rw [hvr]; rfl))
            rw [hvr] at hright
            have Hright := Lib.hid hright; clear hright hvr
            go_wp2
            rw [← HW.out]
            refine wp_region_tw W (Touch.refl _ _) (by kernel_rfl) (by kernel_rfl) ?_
            repeat (go_big_quiet_step (((go_at_call 16; exact Calls.tw _ (Hright.out _)))))
            refine wpQuiet_nil ?_
            rintro _ ⟨x2, rfl⟩
            go_wp2
            go_ret
            exact ⟨ret_bool (by rw [Hc0.out, Hf.out]), (ht.trans0 tb).trans0 x2.t⟩
          · have Hr := Lib.hid hvr
            rw [hvr] at hright
            have Hright := Lib.hid hright; clear hright hvr
            by_cases hk0 : kd = 0
            · subst hk0
              have Ha := Lib.hid (Hyes.out (by unfold fitC; rw [Hr.out]; rfl))
              go_wp2
              rw [← HW.out]
              refine wp_region_tw W (Touch.refl _ _) (by kernel_rfl) (by kernel_rfl) ?_
              repeat (go_big_quiet_step (((go_at_call 16; exact Calls.tw _ (Hright.out _)))))
              refine wpQuiet_nil ?_
              rintro _ ⟨x2, rfl⟩
              go_wp2
              go_roundw
              case rel => exact ⟨k + 1, by omega, by go_num, Ha, (ht.trans0 tb).trans0 x2.t⟩
              case measure => simp [intOf]; omega
            · have q0 : (kd == 0) = false := by rw [beq_eq_false_iff_ne]; exact hk0
              have q0' : (kd != 0) = true := by rw [bne, q0]; rfl
              by_cases hkt : kd = c.typ
              · have Ha := Lib.hid (Hyes.out (by unfold fitC; rw [Hr.out]; simp [hkt]))
                have q1 : (kd == c.typ) = true := by rw [beq_iff_eq]; exact hkt
                have q1' : (kd != c.typ) = false := by rw [bne, q1]; rfl
                clear hk0 hkt
                go_wp2
                rw [← HW.out]
                refine wp_region_tw W (Touch.refl _ _) (by kernel_rfl) (by kernel_rfl) ?_
                repeat (go_big_quiet_step (((go_at_call 16; exact Calls.tw _ (Hright.out _)))))
                refine wpQuiet_nil ?_
                rintro _ ⟨x2, rfl⟩
                go_wp2
                go_roundw
                case rel => exact ⟨k + 1, by omega, by go_num, Ha, (ht.trans0 tb).trans0 x2.t⟩
                case measure => simp [intOf]; omega
              · have Hf := Lib.hid (Hno.out (by unfold fitC; rw [Hr.out]; simp [hkt, hk0]))
                have q1 : (kd == c.typ) = false := by rw [beq_eq_false_iff_ne]; exact hkt
                have q1' : (kd != c.typ) = true := by rw [bne, q1]; rfl
                clear hk0 hkt
                go_wp2
                rw [← HW.out]
                refine wp_region_tw W (Touch.refl _ _) (by kernel_rfl) (by kernel_rfl) ?_
                repeat (go_big_quiet_step (((go_at_call 16; exact Calls.tw _ (Hright.out _)))))
                refine wpQuiet_nil ?_
                rintro _ ⟨x2, rfl⟩
                go_wp2
                go_ret
                exact ⟨ret_bool (by rw [Hc0.out, Hf.out]), (ht.trans0 tb).trans0 x2.t⟩
        · obtain rfl : k = vs.length := by omega
          have hall := Hall.out
          rw [List.take_of_length_le (by rw [List.length_zipWith]; omega)] at hall
          have Hf := Lib.hid (show fitR cs vs = true by unfold fitR; rw [hall, decide_eq_true Hlen.out]; rfl)
          have hge : decide (vs.length < cs.length) = false := decide_eq_false (by have := Hlen.out; omega)
          clear hall Hall
          go_wp2
          go_ret
          exact ⟨ret_bool (by rw [Hc0.out, Hf.out]), ht⟩
    · have Hf := Lib.hid (show fitR cs vs = false by unfold fitR; rw [decide_eq_false hlen]; rfl)
      have hq : ((vs.length : Int) == (cs.length : Int)) = false := by rw [beq_eq_false_iff_ne]; omega
      have hq' : ((vs.length : Int) != (cs.length : Int)) = true := by rw [bne, hq]; rfl
      clear hlen
      go_enter Try.func15, Try.ntmps15
      go_wp2_with (go_at_call 38; refine Hchk.out.mono ?_; rintro e w1 ⟨rfl, t1⟩)
      go_ret
      exact ⟨ret_bool (by rw [Hc0.out, Hf.out]), t1⟩
  · have Hchk := Lib.hid hchk; have Hc0 := Lib.hid (show (decide (checkV cs = 0) && fitR cs vs) = false by rw [decide_eq_false hc0]; rfl)
    obtain ⟨E, hE⟩ : ∃ E, E = checkV cs := ⟨_, rfl⟩
    have HE := Lib.hid hE
    have hq : (E == 0) = false := by rw [beq_eq_false_iff_ne, hE]; exact hc0
    have hq' : (E != 0) = true := by rw [bne, hq]; rfl
    clear hchk hc0 hE
    go_enter Try.func15, Try.ntmps15
    go_wp2_with (go_at_call 38; refine Hchk.out.mono ?_; rintro e w1 ⟨rfl, t1⟩; rw [← HE.out])
    go_ret
    exact ⟨ret_bool (by rw [Hc0.out]), t1⟩
set_option maxRecDepth 20000 in
set_option maxHeartbeats 3200000 in
theorem topB_any (n : Nat) (e : TX n) (x : XC) (A : Option Addr) (cap m : Nat) (cs : List CD) (hm : cs.length = m) (hok : ∀ c ∈ cs, c.Ok) (B : Option Addr) (rc rm : Nat) (row : List VD) (hrm : row.length = rm) (hvk : ∀ v ∈ row, v.Ok 9223372036854775807)
    (w : World) (hx : ExP xcE anyB n w x e) (hcs : ColsAt w A cs) (hrow : ValsAt w B row) (hmb : m ≤ 140737000000000) (hrb : rm ≤ 140737000000000) (hs : sizeX n e ≤ 1000000) (hall : allX (fun q => q.v.text.size ≤ 140737000000000) n e) :
    Calls Try.prog 13 #[x.val, .slice A m cap, .slice B rm rc] w fun r w' => r = .returned (.tuple #[(topX cs row n e).1.val, .int .i64 (topX cs row n e).2]) ∧ Touch [] w w' := by
  have Hty := Lib.hid fun w' (t : Touch [] w w') => typeX_any n e x A cap m cs hm hok w' (hx.touch0 t) (hcs.touch0 t) hmb hs hall
  have Hfit := Lib.hid fun w' (t : Touch [] w w') => fits_big A cap m cs hm hok B rc rm row hrm hvk w' (hcs.touch0 t) (hrow.touch0 t) hmb hrb
  have Hev := Lib.hid fun w' (t : Touch [] w w') h1 h2 (hf : fitR cs row = true) => eval_any n e x A cap m cs hm B rc rm row hrm w' (hx.touch0 t) (hcs.touch0 t) (hrow.touch0 t) hmb h1 h2 (fun v hv => row_size hf v hv) hall
  obtain ⟨res, hres⟩ : ∃ res, res = topX cs row n e := ⟨_, rfl⟩
  rw [← hres]
  unfold topX at hres
  obtain ⟨⟨k, nm, ⟨vk, vn, vt⟩, op⟩, XA, xm, c⟩ := x
  simp only [XC.val] at Hty Hfit Hev ⊢
  clear hx hall hs
  have t0 := ((Touch.refl [] w).alloc (.cells #[.int .i64 k, .string nm, .int .i64 vk, .int .i64 vn, .string vt, .string op, .slice XA xm c] 33)).alloc (.cells #[.int .i64 0, .int .i64 0, .string ⟨#[]⟩] 30)
  have hb1 := ((Touch.refl [] (w.alloc (.cells #[.int .i64 k, .string nm, .int .i64 vk, .int .i64 vn, .string vt, .string op, .slice XA xm c] 33))).alloc (.cells #[.int .i64 0, .int .i64 0, .string ⟨#[]⟩] 30)).blk (heap_alloc_new w (.cells #[.int .i64 k, .string nm, .int .i64 vk, .int .i64 vn, .string vt, .string op, .slice XA xm c] 33)) (by simp)
  have hbr := heap_alloc_new (w.alloc (.cells #[.int .i64 k, .string nm, .int .i64 vk, .int .i64 vn, .string vt, .string op, .slice XA xm c] 33)) (.cells #[.int .i64 0, .int .i64 0, .string ⟨#[]⟩] 30)
  simp only [World.size_alloc] at hbr
  obtain ⟨W, hW⟩ : ∃ W, W = (w.alloc (.cells #[.int .i64 k, .string nm, .int .i64 vk, .int .i64 vn, .string vt, .string op, .slice XA xm c] 33)).alloc (.cells #[.int .i64 0, .int .i64 0, .string ⟨#[]⟩] 30) := ⟨_, rfl⟩
  rw [← hW] at hb1 hbr t0
  have HW := Lib.hid hW; have Hb1 := Lib.hid hb1; have Hbr := Lib.hid hbr; have T0 := Lib.hid t0
  have Ho := Lib.hid fun h : (typeX cs n e).2 = 0 => typeX_ok h
  clear hW hb1 hbr t0 hcs hrow
  obtain ⟨⟨ty, er⟩, hte⟩ : ∃ r, r = typeX cs n e := ⟨_, rfl⟩
  rw [← hte] at Hty hres Ho
  simp only at Hty hres Ho
  clear hte
  by_cases h0 : er ≠ 0
  · rw [if_pos h0] at hres
    have Hf := Lib.hid hres
    have q0 : (er != 0) = true := by simpa using h0
    clear h0 hres Ho Hev Hfit
    go_enter Try.func13, Try.ntmps13
    go_wp2_with fail
    rw [← HW.out]
    obtain ⟨a0, a1, a2, a3, a4, a5, a6, _⟩ := blk7 Hb1.out
    go_wp2_with fail
    clear a0 a1 a2 a3 a4 a5 a6
    refine (Hty.out _ T0.out).mono ?_
    rintro e w1 ⟨rfl, u1⟩
    obtain ⟨r0, r1, r2, f0, f1, f2⟩ := blk3 (u1.blk Hbr.out (by simp))
    go_wp2_with fail
    obtain ⟨q1, q2⟩ := out3 (u1.blk Hbr.out (by simp)) (.int .i64 0) (.int .i64 0) (.string ⟨#[]⟩)
    obtain ⟨d0, d1, d2, _⟩ := blk3 q1
    refine bodyPost_ret (v := .tuple #[.agg #[.int .i64 0, .int .i64 0, .string ⟨#[]⟩], .int .i64 er]) (by simp [results, Try.results13, go_sem, d0, d1, d2]) rfl ⟨?_, (T0.out.trans0 u1).trans q2 (fun b hb => .inr (by simp at hb; omega))⟩
    rw [Hf.out]; rfl
  have h0' : er = 0 := by omega
  rw [if_neg h0] at hres
  subst h0'
  obtain ⟨o1, o2, o3, _⟩ := Ho.out rfl
  clear h0 Ho
  rw [o1] at Hfit
  have o4 := okX_of cs n 1 e o3
  rcases hfr : fitR cs row with _ | _
  · rw [hfr, if_neg (by simp)] at hres
    rw [hfr] at Hfit
    have Hf := Lib.hid hres
    clear hres hfr Hev o1 o2 o3 o4
    simp only [decide_true, Bool.and_false] at Hfit
    go_enter Try.func13, Try.ntmps13
    go_wp2_with fail
    rw [← HW.out]
    obtain ⟨a0, a1, a2, a3, a4, a5, a6, _⟩ := blk7 Hb1.out
    go_wp2_with fail
    clear a0 a1 a2 a3 a4 a5 a6
    refine (Hty.out _ T0.out).mono ?_
    rintro e w1 ⟨rfl, u1⟩
    go_wp2_with fail
    refine (Hfit.out _ (T0.out.trans0 u1)).mono ?_
    rintro e w2 ⟨rfl, u2⟩
    obtain ⟨r0, r1, r2, f0, f1, f2⟩ := blk3 (u2.blk (u1.blk Hbr.out (by simp)) (by simp))
    go_wp2_with fail
    obtain ⟨q1, q2⟩ := out3 (u2.blk (u1.blk Hbr.out (by simp)) (by simp)) (.int .i64 0) (.int .i64 0) (.string ⟨#[]⟩)
    obtain ⟨d0, d1, d2, _⟩ := blk3 q1
    refine bodyPost_ret (v := .tuple #[.agg #[.int .i64 0, .int .i64 0, .string ⟨#[]⟩], .int .i64 12]) (by simp [results, Try.results13, go_sem, d0, d1, d2]) rfl ⟨?_, ((T0.out.trans0 u1).trans0 u2).trans q2 (fun b hb => .inr (by simp at hb; omega))⟩
    rw [Hf.out]; rfl
  · rw [hfr, if_pos rfl] at hres
    rw [hfr] at Hfit
    have hev := fun w' t => Hev.out w' t (fitR_len hfr) o4 hfr
    rw [← hres] at hev
    obtain ⟨⟨rk, rn, rs⟩, rx⟩ := res
    simp only [VD.val] at hev
    have Hev2 := Lib.hid hev
    clear hres hfr Hev o1 o2 o3 o4 hev
    simp only [decide_true, Bool.and_true] at Hfit
    go_enter Try.func13, Try.ntmps13
    go_wp2_with fail
    rw [← HW.out]
    obtain ⟨a0, a1, a2, a3, a4, a5, a6, _⟩ := blk7 Hb1.out
    go_wp2_with fail
    clear a0 a1 a2 a3 a4 a5 a6
    refine (Hty.out _ T0.out).mono ?_
    rintro e w1 ⟨rfl, u1⟩
    go_wp2_with fail
    refine (Hfit.out _ (T0.out.trans0 u1)).mono ?_
    rintro e w2 ⟨rfl, u2⟩
    obtain ⟨a0, a1, a2, a3, a4, a5, a6, _⟩ := blk7 (u2.blk (u1.blk Hb1.out (by simp)) (by simp))
    go_wp2_with fail
    clear a0 a1 a2 a3 a4 a5 a6
    refine (Hev2.out _ ((T0.out.trans0 u1).trans0 u2)).mono ?_
    rintro e w3 ⟨rfl, u3⟩
    obtain ⟨r0, r1, r2, f0, f1, f2⟩ := blk3 (u3.blk (u2.blk (u1.blk Hbr.out (by simp)) (by simp)) (by simp))
    go_wp2_with fail
    obtain ⟨q1, q2⟩ := out3 (u3.blk (u2.blk (u1.blk Hbr.out (by simp)) (by simp)) (by simp)) (.int .i64 rk) (.int .i64 rn) (.string rs)
    obtain ⟨d0, d1, d2, _⟩ := blk3 q1
    exact bodyPost_ret (v := .tuple #[.agg #[.int .i64 rk, .int .i64 rn, .string rs], .int .i64 rx]) (by simp [results, Try.results13, go_sem, d0, d1, d2]) rfl ⟨rfl, (((T0.out.trans0 u1).trans0 u2).trans0 u3).trans q2 (fun b hb => .inr (by simp at hb; omega))⟩
end Go.Proofs.Ytlkckkagoommaaa

/- The Args of an expression that fits: each fits by itself, and comes to what it comes to within; the map of ways. -/
namespace Go.Proofs.Ytlkckkagoommaaa
open Go.RowKit

theorem typed_mk {cs : List CD} {n d : Nat} {e : TX (n + 1)} (hd : d ≤ 32) (hf : formV e.1 e.2.length = true) (h1 : e.1.kind ≠ 1) (h2 : e.1.kind ≠ 2) (hall : ∀ a ∈ e.2, (typedX cs n (d + 1) a).2 = 0) :
    typedX cs (n + 1) d e = refTail e.1.kind e.1.name e.1.op (e.2.map fun a => (typedX cs n (d + 1) a).1) := by
  rw [typedX_succ, if_neg (by omega), if_neg (by rw [hf]; simp), if_neg h2, if_neg h1, find_miss (fun a ha => by simpa using hall a ha)]
  exact tail_eq (ts := e.2.map fun a => (typedX cs n (d + 1) a).1) (by rw [List.length_map]; exact hf) h1 h2
theorem typed_const {cs : List CD} {n d : Nat} {e : TX (n + 1)} (hd : d ≤ 32) (hf : formV e.1 e.2.length = true) (h2 : e.1.kind = 2) : typedX cs (n + 1) d e = (e.1.v.kind, 0) := by
  rw [typedX_succ, if_neg (by omega), if_neg (by rw [hf]; simp), if_pos h2]
theorem typed_col {cs : List CD} {n d : Nat} {e : TX (n + 1)} (hd : d ≤ 32) (hf : formV e.1 e.2.length = true) (h1 : e.1.kind = 1) : typedX cs (n + 1) d e = (match colT cs e.1.name with | some t => (t, 0) | none => (0, 13)) := by
  rw [typedX_succ, if_neg (by omega), if_neg (by rw [hf]; simp), if_neg (by omega), if_pos h1]
  rfl
/-- a depth less changes nothing -/
theorem typed_down {cs : List CD} : ∀ (n d : Nat) (e : TX n), (typedX cs n (d + 1) e).2 = 0 → typedX cs n d e = typedX cs n (d + 1) e
  | 0, _, e => e.elim
  | n + 1, d, e => fun h => by
    have hd : d + 1 ≤ 32 := by
      rcases Nat.lt_or_ge 32 (d + 1) with q | q
      · rw [typedX_succ, if_pos q] at h; cases h
      · exact q
    obtain ⟨hf, ht⟩ := typed_inv h
    rcases ht with ⟨hk, _⟩ | ⟨hk, _⟩ | ⟨hk1, hk2, hall, ht⟩
    · exact (typed_const (by omega) hf hk).trans (typed_const hd hf hk).symm
    · exact (typed_col (by omega) hf hk).trans (typed_col hd hf hk).symm
    · rw [ht, typed_mk (by omega) hf hk1 hk2 (fun a ha => by rw [typed_down n (d + 1) a (hall a ha)]; exact hall a ha)]
      congr 1
      exact List.map_congr_left fun a ha => by rw [typed_down n (d + 1) a (hall a ha)]
theorem size_arg {n : Nat} {e : TX (n + 1)} {a : TX n} (ha : a ∈ e.2) : sizeX n a + 1 ≤ sizeX (n + 1) e := by
  have := size_mem ha
  rw [sizeX_succ]
  omega
/-- an Arg by itself -/
theorem sub_top {cs : List CD} {row : List VD} {n : Nat} {e : TX (n + 1)} (h0 : checkV cs = 0) (hs : sizeX (n + 1) e ≤ 256) (hfit : fitR cs row = true) (ht : (typedX cs (n + 1) 1 e).2 = 0) (hk1 : e.1.kind ≠ 1) (hk2 : e.1.kind ≠ 2) :
    ∀ a ∈ e.2, (typedX cs n 1 a).2 = 0 ∧ (typeX cs n a).2 = 0 ∧ topX cs row n a = evalX cs row n a := fun a ha => by
  obtain ⟨_, hx⟩ := typed_inv ht
  rcases hx with ⟨hk, _⟩ | ⟨hk, _⟩ | ⟨_, _, hall, _⟩
  · exact absurd hk hk2
  · exact absurd hk hk1
  have h2 := hall a ha
  have h1 : (typedX cs n 1 a).2 = 0 := by rw [typed_down n 1 a h2]; exact h2
  have hsz := size_arg ha
  have ht2 : (typeX cs n a).2 = 0 := by
    unfold typeX
    rw [if_pos h0, if_neg (by omega)]
    exact h1
  refine ⟨h1, ht2, ?_⟩
  unfold topX
  rw [if_neg (by rw [ht2]; simp), if_pos hfit]
end Go.Proofs.Ytlkckkagoommaaa

/- expr.Expr.copied: an expression in new memory. For every expression. -/
namespace Go.Proofs.Ytlkckkagoommaaa
open Go.RowKit
attribute [local go_sem ↓] Go.wp_at_zero Go.wp_at_succ

theorem info_expr : (Try.prog.info? 33).map (fun i => (i.zero, i.size, i.bytes)) = some (some (.agg #[.int .i64 0, .string ⟨#[]⟩, .int .i64 0, .int .i64 0, .string ⟨#[]⟩, .string ⟨#[]⟩, .slice none 0 0]), 7, 96) := by kernel_rfl

set_option maxRecDepth 100000 in
set_option maxHeartbeats 6400000 in
theorem copied_any (n : Nat) : ∀ (e : TX n) (x : XC) (w : World), ExP xcE anyB n w x e → sizeX n e ≤ 1000000 →
    Calls Try.prog 44 #[x.val] w fun r w' => ∃ x', r = .returned x'.val ∧ ExP xcE (Fr w.heap.size w') n w' x' e ∧ Touch [] w w' := by
  induction n with
  | zero => intro e; exact e.elim
  | succ n ih =>
    intro e x w hx hs
    obtain ⟨nd, args⟩ := e
    obtain ⟨h1, h2, h3⟩ := hx.args
    have hsum : sumX n args ≤ 1000000 := by have hs' : 1 + sumX n args ≤ 1000000 := hs; omega
    have hlen := len_le_sum n args
    obtain ⟨⟨k, nm, ⟨vk, vn, vt⟩, op⟩, A, m, c⟩ := x
    dsimp only at h1 h2 h3
    subst h2
    dsimp only [XC.val]
    have Ih := Lib.hid ih; have H1 := Lib.hid h1
    clear ih hx h1 hs
    have t0 := (((Touch.refl [] w).alloc (.cells #[.int .i64 k, .string nm, .int .i64 vk, .int .i64 vn, .string vt, .string op, .slice none 0 0] 33)).alloc (.cells #[.int .i64 0, .string ⟨#[]⟩, .int .i64 0, .int .i64 0, .string ⟨#[]⟩, .string ⟨#[]⟩, .slice none 0 0] 33))
    have hbx := (((Touch.refl [] (w.alloc (.cells #[.int .i64 k, .string nm, .int .i64 vk, .int .i64 vn, .string vt, .string op, .slice none 0 0] 33))).alloc (.cells #[.int .i64 0, .string ⟨#[]⟩, .int .i64 0, .int .i64 0, .string ⟨#[]⟩, .string ⟨#[]⟩, .slice none 0 0] 33)).blk (heap_alloc_new w (.cells #[.int .i64 k, .string nm, .int .i64 vk, .int .i64 vn, .string vt, .string op, .slice none 0 0] 33)) (by simp))
    have hbr := (heap_alloc_new (w.alloc (.cells #[.int .i64 k, .string nm, .int .i64 vk, .int .i64 vn, .string vt, .string op, .slice none 0 0] 33)) (.cells #[.int .i64 0, .string ⟨#[]⟩, .int .i64 0, .int .i64 0, .string ⟨#[]⟩, .string ⟨#[]⟩, .slice none 0 0] 33))
    simp only [World.size_alloc] at hbx hbr
    go_enter Try.func44, Try.ntmps44
    go_wp2_with fail
    go_loopw [11] (fun i wr => ∃ (j : Nat) (B : Option Addr) (cB : Nat), j ≤ args.length ∧ i = .int .i64 j ∧ wr.heap[w.heap.size]? = some (.cells #[.int .i64 k, .string nm, .int .i64 vk, .int .i64 vn, .string vt, .string op, .slice B j cB] 33 (0, 0)) ∧
        wr.heap[w.heap.size + 1]? = some (.cells #[.int .i64 0, .string ⟨#[]⟩, .int .i64 0, .int .i64 0, .string ⟨#[]⟩, .string ⟨#[]⟩, .slice none 0 0] 33 (0, 0)) ∧ OwnX 33 xcE (w.heap.size + 2) n wr B cB (args.take j) ∧ Touch [] w wr) (fun i _ => args.length - (intOf i).toNat)
    case atStart => exact ⟨0, none, 0, by omega, rfl, hbx, hbr, OwnX.nil _ _ _ _ _, t0⟩
    case round =>
      obtain ⟨j, B, cB, hj, rfl, hX, hR, hown, ht⟩ := hrel
      have hBlt := fun b hb => (hown.lt b hb).2
      have hBlo := fun b hb => (hown.lt b hb).1
      have hXB : w.heap.size ∉ fpo B := fun hm => by have := hBlo _ hm; omega
      have hRB : w.heap.size + 1 ∉ fpo B := fun hm => by have := hBlo _ hm; omega
      have hlR := lt_of_block hR
      have hlX := lt_of_block hX
      by_cases hlt : j < args.length
      · obtain ⟨ad, b, off, y, rfl, hadd, hy, hcell⟩ := (h3.touch0 ht).at_ xcE_length j hlt
        have hsn := List.take_succ_eq_append_getElem hlt
        have hms := size_mem (List.getElem_mem hlt)
        have Htl := Lib.hid (show (args.take j).length = j by rw [List.length_take]; omega)
        obtain ⟨a, hae⟩ : ∃ a, a = args[j] := ⟨_, rfl⟩
        rw [← hae] at hy hsn hms
        have Ta := Lib.hid (((Touch.refl [] wr).alloc (.cells #[.int .i64 y.nd.kind, .string y.nd.name, .int .i64 y.nd.v.kind, .int .i64 y.nd.v.num, .string y.nd.v.text, .string y.nd.op, .slice y.A y.n y.c] 33)).drew)
        have Hc := Lib.hid (Ih.out a y _ (hy.touch0 Ta.out) (by omega))
        have hbv := heap_alloc_new wr (.cells #[.int .i64 y.nd.kind, .string y.nd.name, .int .i64 y.nd.v.kind, .int .i64 y.nd.v.num, .string y.nd.v.text, .string y.nd.op, .slice y.A y.n y.c] 33)
        have c0 := hcell 0 _ rfl; have c1 := hcell 1 _ rfl; have c2 := hcell 2 _ rfl; have c3 := hcell 3 _ rfl; have c4 := hcell 4 _ rfl; have c5 := hcell 5 _ rfl; have c6 := hcell 6 _ rfl
        rw [Nat.add_zero] at c0
        have z0 := Ta.out.cell (cell_blk hX (i := 6) rfl) (by simp)
        have sTa : wr.heap.size ≤ (wr.alloc (.cells #[.int .i64 y.nd.kind, .string y.nd.name, .int .i64 y.nd.v.kind, .int .i64 y.nd.v.num, .string y.nd.v.text, .string y.nd.op, .slice y.A y.n y.c] 33)).drew.heap.size := Ta.out.size
        have Hsn := Lib.hid hsn
        obtain ⟨⟨k2, nm2, ⟨vk2, vn2, vt2⟩, op2⟩, A2, m2, c2'⟩ := y
        simp only [XC.val] at Hc
        simp only at c0 c1 c2 c3 c4 c5 c6 Ta hbv z0 sTa
        have ff0 : (wr.alloc (.cells #[.int .i64 k2, .string nm2, .int .i64 vk2, .int .i64 vn2, .string vt2, .string op2, .slice A2 m2 c2'] 33)).drew.cell? ⟨wr.heap.size, 0, none⟩ = some (.int .i64 k2) := cell_blk hbv rfl
        have ff1 : (wr.alloc (.cells #[.int .i64 k2, .string nm2, .int .i64 vk2, .int .i64 vn2, .string vt2, .string op2, .slice A2 m2 c2'] 33)).drew.cell? ⟨wr.heap.size, 1, none⟩ = some (.string nm2) := cell_blk hbv rfl
        have ff2 : (wr.alloc (.cells #[.int .i64 k2, .string nm2, .int .i64 vk2, .int .i64 vn2, .string vt2, .string op2, .slice A2 m2 c2'] 33)).drew.cell? ⟨wr.heap.size, 2, none⟩ = some (.int .i64 vk2) := cell_blk hbv rfl
        have ff3 : (wr.alloc (.cells #[.int .i64 k2, .string nm2, .int .i64 vk2, .int .i64 vn2, .string vt2, .string op2, .slice A2 m2 c2'] 33)).drew.cell? ⟨wr.heap.size, 3, none⟩ = some (.int .i64 vn2) := cell_blk hbv rfl
        have ff4 : (wr.alloc (.cells #[.int .i64 k2, .string nm2, .int .i64 vk2, .int .i64 vn2, .string vt2, .string op2, .slice A2 m2 c2'] 33)).drew.cell? ⟨wr.heap.size, 4, none⟩ = some (.string vt2) := cell_blk hbv rfl
        have ff5 : (wr.alloc (.cells #[.int .i64 k2, .string nm2, .int .i64 vk2, .int .i64 vn2, .string vt2, .string op2, .slice A2 m2 c2'] 33)).drew.cell? ⟨wr.heap.size, 5, none⟩ = some (.string op2) := cell_blk hbv rfl
        have ff6 : (wr.alloc (.cells #[.int .i64 k2, .string nm2, .int .i64 vk2, .int .i64 vn2, .string vt2, .string op2, .slice A2 m2 c2'] 33)).drew.cell? ⟨wr.heap.size, 6, none⟩ = some (.slice A2 m2 c2') := cell_blk hbv rfl
        clear hsn hae hcell hbv hms
        go_wp2_with fail
        refine wp_region_held_drew (S := fun w' => w'.cell? ⟨wr.heap.size, 0, none⟩ = some (.int .i64 k2) ∧ w'.cell? ⟨wr.heap.size, 1, none⟩ = some (.string nm2) ∧ w'.cell? ⟨wr.heap.size, 2, none⟩ = some (.int .i64 vk2) ∧ w'.cell? ⟨wr.heap.size, 3, none⟩ = some (.int .i64 vn2) ∧ w'.cell? ⟨wr.heap.size, 4, none⟩ = some (.string vt2) ∧ w'.cell? ⟨wr.heap.size, 5, none⟩ = some (.string op2) ∧ w'.cell? ⟨wr.heap.size, 6, none⟩ = some (.slice A2 m2 c2')) (by kernel_rfl) ⟨ff0, ff1, ff2, ff3, ff4, ff5, ff6⟩ (fun hHeld => ?_)
        refine take_d (i := 0) (d := 15) (v := ?_) rfl rfl (by kernel_rfl) (by kernel_rfl) (by kernel_rfl) (fun _ _ _ h => h) (Or.inl ⟨by rfl, ?_⟩) (by assumption) ?_
        rotate_left
        · intro w hSw; (try dsimp only at hSw); go_simp; (try with_reducible rfl)
        try simp only [Act.put, List.setIfInBounds_toArray, List.set_cons_zero, List.set_cons_succ]
        refine take_d (i := 2) (d := 17) (v := ?_) rfl rfl (by kernel_rfl) (by kernel_rfl) (by kernel_rfl) (fun _ _ _ h => h) (Or.inl ⟨by rfl, ?_⟩) (by assumption) ?_
        rotate_left
        · intro w hSw; (try dsimp only at hSw); go_simp; (try with_reducible rfl)
        try simp only [Act.put, List.setIfInBounds_toArray, List.set_cons_zero, List.set_cons_succ]
        refine wpAnyH_ready (rs := [1, 3]) (by kernel_rfl) (by simp) ?_
        refine AllReadyH.cons rfl (fun K hK => ?_) (AllReadyH.cons rfl (fun K hK => ?_) AllReadyH.nil)
        · go_simp
          (try go_wp2_with fail)
          refine hK.out _ _ ⟨ff0, ff1, ff2, ff3, ff4, ff5, ff6⟩ (fun _hH => ?_)
          clear hK K
          try simp only [Act.put, List.setIfInBounds_toArray, List.set_cons_zero, List.set_cons_succ]
          refine wpAnyH_ready (rs := [3]) (by kernel_rfl) (by simp) ?_
          refine AllReadyH.cons rfl (fun K hK => ?_) AllReadyH.nil
          go_simp
          go_at_call 44
          refine (Hc.out).mono ?_
          rintro e w1 ⟨x1, rfl, hx1, t1⟩
          obtain ⟨⟨k3, nm3, ⟨vk3, vn3, vt3⟩, op3⟩, A3, m3, c3⟩ := x1
          have mm0 := t1.cell ff0 (by simp)
          have mm1 := t1.cell ff1 (by simp)
          have mm2 := t1.cell ff2 (by simp)
          have mm3 := t1.cell ff3 (by simp)
          have mm4 := t1.cell ff4 (by simp)
          have mm5 := t1.cell ff5 (by simp)
          have mm6 := t1.cell ff6 (by simp)
          have z1 := t1.cell z0 (by simp)
          have tn := (Touch.refl [] w1).alloc (.cells #[.int .i64 k3, .string nm3, .int .i64 vk3, .int .i64 vn3, .string vt3, .string op3, .slice A3 m3 c3] 33)
          have z2 := tn.cell z1 (by simp)
          have q0 := tn.cell mm0 (by simp)
          have q1 := tn.cell mm1 (by simp)
          have q2 := tn.cell mm2 (by simp)
          have q3 := tn.cell mm3 (by simp)
          have q4 := tn.cell mm4 (by simp)
          have q5 := tn.cell mm5 (by simp)
          have q6 := tn.cell mm6 (by simp)
          have hown1 := (hown.touch0 Ta.out).touch0 t1
          have s1 := t1.size
          (try go_wp2_with fail)
          refine hK.out _ _ ⟨mm0, mm1, mm2, mm3, mm4, mm5, mm6⟩ (fun _hH => ?_)
          clear hK K
          try simp only [Act.put, List.setIfInBounds_toArray, List.set_cons_zero, List.set_cons_succ]
          refine wpAnyH_ready (rs := [4]) (by kernel_rfl) (by simp) ?_
          refine AllReadyH.cons rfl (fun K hK => ?_) AllReadyH.nil
          go_simp
          (try go_wp2_with fail)
          refine hK.out _ _ ⟨q0, q1, q2, q3, q4, q5, q6⟩ (fun _hH => ?_)
          clear hK K
          try simp only [Act.put, List.setIfInBounds_toArray, List.set_cons_zero, List.set_cons_succ]
          refine wpAnyH_ready (rs := [5]) (by kernel_rfl) (by simp) ?_
          refine AllReadyH.cons rfl (fun K hK => ?_) AllReadyH.nil
          refine step_appX xcE_length xcE_one rfl (.tmp 16) (.tmp 19) 31 (by rfl) 33 _ 96 info_expr Try.underlying31 rfl (by omega) (w.heap.size + 2) n B j cB (args.take j) Htl.out (by rfl) hown1 ⟨⟨k3, nm3, ⟨vk3, vn3, vt3⟩, op3⟩, A3, m3, c3⟩ a (hx1.mono fun b hb => ⟨⟨by have := hb.1; omega, hb.2⟩, fun hm => by have := hBlt b hm; have := hb.1; omega⟩) (by omega) 1 (by rfl) (by omega) rfl ?_
          intro B5 cB5 w5 hown5 ht5 hf5
          have hVB : wr.heap.size ∉ fpo B := fun hm => by have := hBlt _ hm; omega
          have p0 := ht5.cell mm0 hVB
          have p1 := ht5.cell mm1 hVB
          have p2 := ht5.cell mm2 hVB
          have p3 := ht5.cell mm3 hVB
          have p4 := ht5.cell mm4 hVB
          have p5 := ht5.cell mm5 hVB
          have p6 := ht5.cell mm6 hVB
          have hX5 := ht5.blk ((Ta.out.trans0 t1).blk hX (by simp)) hXB
          have hR5 := ht5.blk ((Ta.out.trans0 t1).blk hR (by simp)) hRB
          have T5 := ((ht.trans0 Ta.out).trans0 t1).trans ht5 (fun b hb => .inr (by have := hBlo b hb; omega))
          have z5 := cell_blk hX5 (i := 6) rfl
          have f5 : w5.frozen? ⟨w.heap.size, 6, none⟩ = false := by simp [World.frozen?, hX5]
          have t7 := (Touch.refl [w.heap.size] w5).setCell (p := ⟨w.heap.size, 6, none⟩) (.inl (by simp)) (.slice B5 (j + 1) cB5)
          have r0 := t7.cell p0 (by simp; omega)
          have r1 := t7.cell p1 (by simp; omega)
          have r2 := t7.cell p2 (by simp; omega)
          have r3 := t7.cell p3 (by simp; omega)
          have r4 := t7.cell p4 (by simp; omega)
          have r5 := t7.cell p5 (by simp; omega)
          have r6 := t7.cell p6 (by simp; omega)
          refine hK.out _ _ ⟨p0, p1, p2, p3, p4, p5, p6⟩ (fun _hH => ?_)
          clear hK K
          try simp only [Act.put, List.setIfInBounds_toArray]
          refine take_d (i := 6) (d := 21) (v := ?_) rfl rfl (by kernel_rfl) (by kernel_rfl) (by kernel_rfl) (fun _ _ _ h => h) (Or.inl ⟨by rfl, ?_⟩) (by assumption) ?_
          rotate_left
          · intro w hSw; (try dsimp only at hSw); go_simp; (try with_reducible rfl)
          try simp only [Act.put]
          refine wpAnyH_ready (rs := [7]) (by kernel_rfl) (by simp) ?_
          refine AllReadyH.cons rfl (fun K hK => ?_) AllReadyH.nil
          go_simp
          (try go_wp2_with fail)
          refine hK.out _ _ ⟨r0, r1, r2, r3, r4, r5, r6⟩ (fun _hH => ?_)
          clear hK K
          try simp only [Act.put, List.setIfInBounds_toArray, List.set_cons_zero, List.set_cons_succ]
          refine wpAnyH_done (by kernel_rfl) ?_ _
          go_wp2
          go_roundw
          case rel => exact ⟨j + 1, B5, cB5, by omega, by go_num, set_blk hX5 6 _, (t7.blk hR5 (by simp)), by rw [Hsn.out]; exact hown5.touch t7 (fun b hb => by simp at hb; omega), T5.setCell (p := ⟨w.heap.size, 6, none⟩) (.inr (by simp only; omega)) _⟩
          case measure => simp [intOf]; omega
        · go_simp
          go_at_call 44
          refine (Hc.out).mono ?_
          rintro e w1 ⟨x1, rfl, hx1, t1⟩
          obtain ⟨⟨k3, nm3, ⟨vk3, vn3, vt3⟩, op3⟩, A3, m3, c3⟩ := x1
          have mm0 := t1.cell ff0 (by simp)
          have mm1 := t1.cell ff1 (by simp)
          have mm2 := t1.cell ff2 (by simp)
          have mm3 := t1.cell ff3 (by simp)
          have mm4 := t1.cell ff4 (by simp)
          have mm5 := t1.cell ff5 (by simp)
          have mm6 := t1.cell ff6 (by simp)
          have z1 := t1.cell z0 (by simp)
          have tn := (Touch.refl [] w1).alloc (.cells #[.int .i64 k3, .string nm3, .int .i64 vk3, .int .i64 vn3, .string vt3, .string op3, .slice A3 m3 c3] 33)
          have z2 := tn.cell z1 (by simp)
          have q0 := tn.cell mm0 (by simp)
          have q1 := tn.cell mm1 (by simp)
          have q2 := tn.cell mm2 (by simp)
          have q3 := tn.cell mm3 (by simp)
          have q4 := tn.cell mm4 (by simp)
          have q5 := tn.cell mm5 (by simp)
          have q6 := tn.cell mm6 (by simp)
          have hown1 := (hown.touch0 Ta.out).touch0 t1
          have s1 := t1.size
          (try go_wp2_with fail)
          refine hK.out _ _ ⟨mm0, mm1, mm2, mm3, mm4, mm5, mm6⟩ (fun _hH => ?_)
          clear hK K
          try simp only [Act.put, List.setIfInBounds_toArray, List.set_cons_zero, List.set_cons_succ]
          refine wpAnyH_ready (rs := [1, 4]) (by kernel_rfl) (by simp) ?_
          refine AllReadyH.cons rfl (fun K hK => ?_) (AllReadyH.cons rfl (fun K hK => ?_) AllReadyH.nil)
          · go_simp
            (try go_wp2_with fail)
            refine hK.out _ _ ⟨mm0, mm1, mm2, mm3, mm4, mm5, mm6⟩ (fun _hH => ?_)
            clear hK K
            try simp only [Act.put, List.setIfInBounds_toArray, List.set_cons_zero, List.set_cons_succ]
            refine wpAnyH_ready (rs := [4]) (by kernel_rfl) (by simp) ?_
            refine AllReadyH.cons rfl (fun K hK => ?_) AllReadyH.nil
            go_simp
            (try go_wp2_with fail)
            refine hK.out _ _ ⟨q0, q1, q2, q3, q4, q5, q6⟩ (fun _hH => ?_)
            clear hK K
            try simp only [Act.put, List.setIfInBounds_toArray, List.set_cons_zero, List.set_cons_succ]
            refine wpAnyH_ready (rs := [5]) (by kernel_rfl) (by simp) ?_
            refine AllReadyH.cons rfl (fun K hK => ?_) AllReadyH.nil
            refine step_appX xcE_length xcE_one rfl (.tmp 16) (.tmp 19) 31 (by rfl) 33 _ 96 info_expr Try.underlying31 rfl (by omega) (w.heap.size + 2) n B j cB (args.take j) Htl.out (by rfl) hown1 ⟨⟨k3, nm3, ⟨vk3, vn3, vt3⟩, op3⟩, A3, m3, c3⟩ a (hx1.mono fun b hb => ⟨⟨by have := hb.1; omega, hb.2⟩, fun hm => by have := hBlt b hm; have := hb.1; omega⟩) (by omega) 1 (by rfl) (by omega) rfl ?_
            intro B5 cB5 w5 hown5 ht5 hf5
            have hVB : wr.heap.size ∉ fpo B := fun hm => by have := hBlt _ hm; omega
            have p0 := ht5.cell mm0 hVB
            have p1 := ht5.cell mm1 hVB
            have p2 := ht5.cell mm2 hVB
            have p3 := ht5.cell mm3 hVB
            have p4 := ht5.cell mm4 hVB
            have p5 := ht5.cell mm5 hVB
            have p6 := ht5.cell mm6 hVB
            have hX5 := ht5.blk ((Ta.out.trans0 t1).blk hX (by simp)) hXB
            have hR5 := ht5.blk ((Ta.out.trans0 t1).blk hR (by simp)) hRB
            have T5 := ((ht.trans0 Ta.out).trans0 t1).trans ht5 (fun b hb => .inr (by have := hBlo b hb; omega))
            have z5 := cell_blk hX5 (i := 6) rfl
            have f5 : w5.frozen? ⟨w.heap.size, 6, none⟩ = false := by simp [World.frozen?, hX5]
            have t7 := (Touch.refl [w.heap.size] w5).setCell (p := ⟨w.heap.size, 6, none⟩) (.inl (by simp)) (.slice B5 (j + 1) cB5)
            have r0 := t7.cell p0 (by simp; omega)
            have r1 := t7.cell p1 (by simp; omega)
            have r2 := t7.cell p2 (by simp; omega)
            have r3 := t7.cell p3 (by simp; omega)
            have r4 := t7.cell p4 (by simp; omega)
            have r5 := t7.cell p5 (by simp; omega)
            have r6 := t7.cell p6 (by simp; omega)
            refine hK.out _ _ ⟨p0, p1, p2, p3, p4, p5, p6⟩ (fun _hH => ?_)
            clear hK K
            try simp only [Act.put, List.setIfInBounds_toArray]
            refine take_d (i := 6) (d := 21) (v := ?_) rfl rfl (by kernel_rfl) (by kernel_rfl) (by kernel_rfl) (fun _ _ _ h => h) (Or.inl ⟨by rfl, ?_⟩) (by assumption) ?_
            rotate_left
            · intro w hSw; (try dsimp only at hSw); go_simp; (try with_reducible rfl)
            try simp only [Act.put]
            refine wpAnyH_ready (rs := [7]) (by kernel_rfl) (by simp) ?_
            refine AllReadyH.cons rfl (fun K hK => ?_) AllReadyH.nil
            go_simp
            (try go_wp2_with fail)
            refine hK.out _ _ ⟨r0, r1, r2, r3, r4, r5, r6⟩ (fun _hH => ?_)
            clear hK K
            try simp only [Act.put, List.setIfInBounds_toArray, List.set_cons_zero, List.set_cons_succ]
            refine wpAnyH_done (by kernel_rfl) ?_ _
            go_wp2
            go_roundw
            case rel => exact ⟨j + 1, B5, cB5, by omega, by go_num, set_blk hX5 6 _, (t7.blk hR5 (by simp)), by rw [Hsn.out]; exact hown5.touch t7 (fun b hb => by simp at hb; omega), T5.setCell (p := ⟨w.heap.size, 6, none⟩) (.inr (by simp only; omega)) _⟩
            case measure => simp [intOf]; omega
          · go_simp
            (try go_wp2_with fail)
            refine hK.out _ _ ⟨q0, q1, q2, q3, q4, q5, q6⟩ (fun _hH => ?_)
            clear hK K
            try simp only [Act.put, List.setIfInBounds_toArray, List.set_cons_zero, List.set_cons_succ]
            refine wpAnyH_ready (rs := [1]) (by kernel_rfl) (by simp) ?_
            refine AllReadyH.cons rfl (fun K hK => ?_) AllReadyH.nil
            go_simp
            (try go_wp2_with fail)
            refine hK.out _ _ ⟨q0, q1, q2, q3, q4, q5, q6⟩ (fun _hH => ?_)
            clear hK K
            try simp only [Act.put, List.setIfInBounds_toArray, List.set_cons_zero, List.set_cons_succ]
            refine wpAnyH_ready (rs := [5]) (by kernel_rfl) (by simp) ?_
            refine AllReadyH.cons rfl (fun K hK => ?_) AllReadyH.nil
            refine step_appX xcE_length xcE_one rfl (.tmp 16) (.tmp 19) 31 (by rfl) 33 _ 96 info_expr Try.underlying31 rfl (by omega) (w.heap.size + 2) n B j cB (args.take j) Htl.out (by rfl) hown1 ⟨⟨k3, nm3, ⟨vk3, vn3, vt3⟩, op3⟩, A3, m3, c3⟩ a (hx1.mono fun b hb => ⟨⟨by have := hb.1; omega, hb.2⟩, fun hm => by have := hBlt b hm; have := hb.1; omega⟩) (by omega) 1 (by rfl) (by omega) rfl ?_
            intro B5 cB5 w5 hown5 ht5 hf5
            have hVB : wr.heap.size ∉ fpo B := fun hm => by have := hBlt _ hm; omega
            have p0 := ht5.cell mm0 hVB
            have p1 := ht5.cell mm1 hVB
            have p2 := ht5.cell mm2 hVB
            have p3 := ht5.cell mm3 hVB
            have p4 := ht5.cell mm4 hVB
            have p5 := ht5.cell mm5 hVB
            have p6 := ht5.cell mm6 hVB
            have hX5 := ht5.blk ((Ta.out.trans0 t1).blk hX (by simp)) hXB
            have hR5 := ht5.blk ((Ta.out.trans0 t1).blk hR (by simp)) hRB
            have T5 := ((ht.trans0 Ta.out).trans0 t1).trans ht5 (fun b hb => .inr (by have := hBlo b hb; omega))
            have z5 := cell_blk hX5 (i := 6) rfl
            have f5 : w5.frozen? ⟨w.heap.size, 6, none⟩ = false := by simp [World.frozen?, hX5]
            have t7 := (Touch.refl [w.heap.size] w5).setCell (p := ⟨w.heap.size, 6, none⟩) (.inl (by simp)) (.slice B5 (j + 1) cB5)
            have r0 := t7.cell p0 (by simp; omega)
            have r1 := t7.cell p1 (by simp; omega)
            have r2 := t7.cell p2 (by simp; omega)
            have r3 := t7.cell p3 (by simp; omega)
            have r4 := t7.cell p4 (by simp; omega)
            have r5 := t7.cell p5 (by simp; omega)
            have r6 := t7.cell p6 (by simp; omega)
            refine hK.out _ _ ⟨p0, p1, p2, p3, p4, p5, p6⟩ (fun _hH => ?_)
            clear hK K
            try simp only [Act.put, List.setIfInBounds_toArray]
            refine take_d (i := 6) (d := 21) (v := ?_) rfl rfl (by kernel_rfl) (by kernel_rfl) (by kernel_rfl) (fun _ _ _ h => h) (Or.inl ⟨by rfl, ?_⟩) (by assumption) ?_
            rotate_left
            · intro w hSw; (try dsimp only at hSw); go_simp; (try with_reducible rfl)
            try simp only [Act.put]
            refine wpAnyH_ready (rs := [7]) (by kernel_rfl) (by simp) ?_
            refine AllReadyH.cons rfl (fun K hK => ?_) AllReadyH.nil
            go_simp
            (try go_wp2_with fail)
            refine hK.out _ _ ⟨r0, r1, r2, r3, r4, r5, r6⟩ (fun _hH => ?_)
            clear hK K
            try simp only [Act.put, List.setIfInBounds_toArray, List.set_cons_zero, List.set_cons_succ]
            refine wpAnyH_done (by kernel_rfl) ?_ _
            go_wp2
            go_roundw
            case rel => exact ⟨j + 1, B5, cB5, by omega, by go_num, set_blk hX5 6 _, (t7.blk hR5 (by simp)), by rw [Hsn.out]; exact hown5.touch t7 (fun b hb => by simp at hb; omega), T5.setCell (p := ⟨w.heap.size, 6, none⟩) (.inr (by simp only; omega)) _⟩
            case measure => simp [intOf]; omega
      · obtain rfl : j = args.length := by omega
        rw [List.take_length] at hown
        have H7 := Lib.hid (fun (v0 v1 v2 v3 v4 v5 v6 : Value) => out7 hR v0 v1 v2 v3 v4 v5 v6)
        obtain ⟨d0, d1, d2, d3, d4, d5, d6, _⟩ := blk7 hX
        obtain ⟨e0, e1, e2, e3, e4, e5, e6, g0, g1, g2, g3, g4, g5, g6⟩ := blk7 hR
        go_wp2
        obtain ⟨q1, q2⟩ := H7.out (.int .i64 k) (.string nm) (.int .i64 vk) (.int .i64 vn) (.string vt) (.string op) (.slice B args.length cB)
        refine bodyPost_ret (results_cell_row rfl _ _ (w.heap.size + 1) _ _ _ _ rfl q1 Try.underlying33 rfl rfl) rfl ⟨⟨⟨k, nm, ⟨vk, vn, vt⟩, op⟩, B, args.length, cB⟩, rfl, ?_, ht.trans q2 (fun b hb => .inr (by simp at hb; omega))⟩
        have hT := (hown.touch q2 (fun b hb => by simp at hb; omega)).tree ⟨k, nm, ⟨vk, vn, vt⟩, op⟩ args.length rfl
        rw [H1.out] at hT ⊢
        exact hT.mono fun b hb => ⟨by have := hb.1; omega, hb.2⟩
end Go.Proofs.Ytlkckkagoommaaa

/- expr.Column, Const, Unary, Binary: expressions made of expressions, in new memory. For all. -/
namespace Go.Proofs.Ytlkckkagoommaaa
open Go.RowKit
attribute [local go_sem ↓] Go.wp_at_zero Go.wp_at_succ

theorem leafX {enc : XC → List Value} {p : Nat → Prop} (n : Nat) (w : World) (d : ND) : ExP enc p (n + 1) w ⟨d, none, 0, 0⟩ (d, []) := ⟨rfl, rfl, by simp [fpo], [], rfl, RdK.nil _ _ _, fun i h => absurd h (by simp)⟩

set_option maxRecDepth 20000 in
theorem columnX_any (n : Nat) (s : ByteArray) (w : World) : Calls Try.prog 20 #[.string s] w fun r w' => ∃ x', r = .returned x'.val ∧ ExP xcE (Fr w.heap.size w') (n + 1) w' x' (⟨1, s, ⟨0, 0, ⟨#[]⟩⟩, ⟨#[]⟩⟩, []) ∧ Touch [] w w' := by
  go_enter Try.func20, Try.ntmps20
  go_wp2_with fail
  exact bodyPost_ret (results_cell_row rfl _ _ w.heap.size _ _ _ _ rfl (heap_alloc_new w _) Try.underlying33 rfl rfl) rfl ⟨⟨⟨1, s, ⟨0, 0, ⟨#[]⟩⟩, ⟨#[]⟩⟩, none, 0, 0⟩, rfl, leafX _ _ _, (Touch.refl _ _).alloc _⟩
set_option maxRecDepth 20000 in
theorem constX_any (n : Nat) (v : VD) (w : World) : Calls Try.prog 18 #[v.val] w fun r w' => ∃ x', r = .returned x'.val ∧ ExP xcE (Fr w.heap.size w') (n + 1) w' x' (⟨2, ⟨#[]⟩, v, ⟨#[]⟩⟩, []) ∧ Touch [] w w' := by
  obtain ⟨k, m, s⟩ := v
  dsimp only [VD.val]
  have t0 := (Touch.refl [] w).alloc (.cells #[.int .i64 k, .int .i64 m, .string s] 30)
  go_enter Try.func18, Try.ntmps18
  go_wp2_with fail
  have hb := heap_alloc_new (w.alloc (.cells #[.int .i64 k, .int .i64 m, .string s] 30)) (.cells #[.int .i64 2, .string ⟨#[]⟩, .int .i64 k, .int .i64 m, .string s, .string ⟨#[]⟩, .slice none 0 0] 33)
  rw [World.size_alloc] at hb
  exact bodyPost_ret (results_cell_row rfl _ _ (w.heap.size + 1) _ _ _ _ rfl hb Try.underlying33 rfl rfl) rfl ⟨⟨⟨2, ⟨#[]⟩, ⟨k, m, s⟩, ⟨#[]⟩⟩, none, 0, 0⟩, rfl, leafX _ _ _, t0.alloc _⟩

set_option maxRecDepth 20000 in
set_option maxHeartbeats 1600000 in
theorem unaryX_any (n : Nat) (op : ByteArray) (a : TX n) (x : XC) (w : World) (ha : ExP xcE anyB n w x a) (hs : sizeX n a ≤ 1000000) : Calls Try.prog 30 #[.string op, x.val] w fun r w' => ∃ x', r = .returned x'.val ∧ ExP xcE (Fr w.heap.size w') (n + 1) w' x' (⟨3, ⟨#[]⟩, ⟨0, 0, ⟨#[]⟩⟩, op⟩, [a]) ∧ Touch [] w w' := by
  have Hc := Lib.hid fun w' (t : Touch [] w w') => copied_any n a x w' (ha.touch0 t) hs
  obtain ⟨⟨k1, nm1, ⟨vk1, vn1, vt1⟩, op1⟩, A1, m1, c1⟩ := x
  simp only [XC.val] at Hc ⊢
  have t0 := ((Touch.refl [] w).alloc (.cells #[.int .i64 k1, .string nm1, .int .i64 vk1, .int .i64 vn1, .string vt1, .string op1, .slice A1 m1 c1] 33)).alloc (.cells #[.int .i64 0, .string ⟨#[]⟩, .int .i64 0, .int .i64 0, .string ⟨#[]⟩, .string ⟨#[]⟩, .slice none 0 0] 33)
  have hbr := heap_alloc_new (w.alloc (.cells #[.int .i64 k1, .string nm1, .int .i64 vk1, .int .i64 vn1, .string vt1, .string op1, .slice A1 m1 c1] 33)) (.cells #[.int .i64 0, .string ⟨#[]⟩, .int .i64 0, .int .i64 0, .string ⟨#[]⟩, .string ⟨#[]⟩, .slice none 0 0] 33)
  rw [World.size_alloc] at hbr
  have Hbr := Lib.hid hbr
  clear hbr
  go_enter Try.func30, Try.ntmps30
  go_wp2_with fail
  refine (Hc.out _ t0).mono ?_
  rintro e w1 ⟨x1, rfl, hx1, t1⟩
  obtain ⟨⟨k2, nm2, ⟨vk2, vn2, vt2⟩, op2⟩, A2, m2, c2⟩ := x1
  dsimp only
  have s1 := t1.size
  simp only [World.size_alloc] at s1
  have tb := (Touch.refl [] w1).alloc (.cells #[.int .i64 k2, .string nm2, .int .i64 vk2, .int .i64 vn2, .string vt2, .string op2, .slice A2 m2 c2] 33)
  have hb2 := tb.blk (t1.blk Hbr.out (by simp)) (by simp)
  obtain ⟨e0, e1, e2, e3, e4, e5, e6, g0, g1, g2, g3, g4, g5, g6⟩ := blk7 hb2
  go_wp2_with fail
  obtain ⟨q1, q2⟩ := out7 hb2 (.int .i64 3) (.string ⟨#[]⟩) (.int .i64 0) (.int .i64 0) (.string ⟨#[]⟩) (.string op) (.slice (some ⟨w1.heap.size, 0, none⟩) 1 1)
  refine bodyPost_ret (results_cell_row rfl _ _ (w.heap.size + 1) _ _ _ _ rfl q1 Try.underlying33 rfl rfl) rfl ⟨⟨⟨3, ⟨#[]⟩, ⟨0, 0, ⟨#[]⟩⟩, op⟩, some ⟨w1.heap.size, 0, none⟩, 1, 1⟩, rfl, ?_, ((t0.trans0 t1).trans0 tb).trans q2 (fun b hb => .inr (by simp at hb; omega))⟩
  have sq := q2.size
  simp only [World.size_alloc] at sq
  refine ⟨rfl, rfl, fun b hb => ?_, [⟨⟨k2, nm2, ⟨vk2, vn2, vt2⟩, op2⟩, A2, m2, c2⟩], rfl, RdK.touch (RdK.row w1 33 [(⟨⟨k2, nm2, ⟨vk2, vn2, vt2⟩, op2⟩, A2, m2, c2⟩ : XC)] _ rfl) q2 (by simp [fpo]; omega), fun i a1 b1 => ?_⟩
  · simp [fpo] at hb
    subst hb
    exact ⟨by omega, by omega⟩
  · obtain rfl : i = 0 := by simp at a1; omega
    exact ((hx1.touch0 tb).touch q2 (fun b hb hp => by simp at hb; have := hp.1; simp at this; omega)).mono fun b hb => ⟨by have := hb.1; simp at this; omega, by have := hb.2; omega⟩

set_option maxRecDepth 100000 in
set_option maxHeartbeats 6400000 in
theorem binaryX_any (n : Nat) (op : ByteArray) (a b : TX n) (x y : XC) (w : World) (ha : ExP xcE anyB n w x a) (hb : ExP xcE anyB n w y b) (hs : sizeX n a ≤ 1000000) (hs2 : sizeX n b ≤ 1000000) : Calls Try.prog 21 #[.string op, x.val, y.val] w fun r w' => ∃ x', r = .returned x'.val ∧ ExP xcE (Fr w.heap.size w') (n + 1) w' x' (⟨4, ⟨#[]⟩, ⟨0, 0, ⟨#[]⟩⟩, op⟩, [a, b]) ∧ Touch [] w w' := by
  have H1 := Lib.hid fun w' (t : Touch [] w w') => copied_any n a x w' (ha.touch0 t) hs
  have H2 := Lib.hid fun w' (t : Touch [] w w') => copied_any n b y w' (hb.touch0 t) hs2
  obtain ⟨⟨k1, nm1, ⟨vk1, vn1, vt1⟩, op1⟩, A1, m1, c1⟩ := x
  obtain ⟨⟨k2, nm2, ⟨vk2, vn2, vt2⟩, op2⟩, A2, m2, c2⟩ := y
  simp only [XC.val] at H1 H2 ⊢
  have t0 := (((Touch.refl [] w).alloc (.cells #[.int .i64 k1, .string nm1, .int .i64 vk1, .int .i64 vn1, .string vt1, .string op1, .slice A1 m1 c1] 33)).alloc (.cells #[.int .i64 k2, .string nm2, .int .i64 vk2, .int .i64 vn2, .string vt2, .string op2, .slice A2 m2 c2] 33)).alloc (.cells #[.int .i64 0, .string ⟨#[]⟩, .int .i64 0, .int .i64 0, .string ⟨#[]⟩, .string ⟨#[]⟩, .slice none 0 0] 33)
  have hbr := heap_alloc_new ((w.alloc (.cells #[.int .i64 k1, .string nm1, .int .i64 vk1, .int .i64 vn1, .string vt1, .string op1, .slice A1 m1 c1] 33)).alloc (.cells #[.int .i64 k2, .string nm2, .int .i64 vk2, .int .i64 vn2, .string vt2, .string op2, .slice A2 m2 c2] 33)) (.cells #[.int .i64 0, .string ⟨#[]⟩, .int .i64 0, .int .i64 0, .string ⟨#[]⟩, .string ⟨#[]⟩, .slice none 0 0] 33)
  have hb1 := (((Touch.refl [] (w.alloc (.cells #[.int .i64 k1, .string nm1, .int .i64 vk1, .int .i64 vn1, .string vt1, .string op1, .slice A1 m1 c1] 33))).alloc (.cells #[.int .i64 k2, .string nm2, .int .i64 vk2, .int .i64 vn2, .string vt2, .string op2, .slice A2 m2 c2] 33)).alloc (.cells #[.int .i64 0, .string ⟨#[]⟩, .int .i64 0, .int .i64 0, .string ⟨#[]⟩, .string ⟨#[]⟩, .slice none 0 0] 33)).blk (heap_alloc_new w (.cells #[.int .i64 k1, .string nm1, .int .i64 vk1, .int .i64 vn1, .string vt1, .string op1, .slice A1 m1 c1] 33)) (by simp)
  have hb2 := ((Touch.refl [] ((w.alloc (.cells #[.int .i64 k1, .string nm1, .int .i64 vk1, .int .i64 vn1, .string vt1, .string op1, .slice A1 m1 c1] 33)).alloc (.cells #[.int .i64 k2, .string nm2, .int .i64 vk2, .int .i64 vn2, .string vt2, .string op2, .slice A2 m2 c2] 33))).alloc (.cells #[.int .i64 0, .string ⟨#[]⟩, .int .i64 0, .int .i64 0, .string ⟨#[]⟩, .string ⟨#[]⟩, .slice none 0 0] 33)).blk (heap_alloc_new (w.alloc (.cells #[.int .i64 k1, .string nm1, .int .i64 vk1, .int .i64 vn1, .string vt1, .string op1, .slice A1 m1 c1] 33)) (.cells #[.int .i64 k2, .string nm2, .int .i64 vk2, .int .i64 vn2, .string vt2, .string op2, .slice A2 m2 c2] 33)) (by simp)
  simp only [World.size_alloc] at hbr hb1 hb2
  have t0d := t0.drew
  have hb1d := ((Touch.refl [] (((w.alloc (.cells #[.int .i64 k1, .string nm1, .int .i64 vk1, .int .i64 vn1, .string vt1, .string op1, .slice A1 m1 c1] 33)).alloc (.cells #[.int .i64 k2, .string nm2, .int .i64 vk2, .int .i64 vn2, .string vt2, .string op2, .slice A2 m2 c2] 33)).alloc (.cells #[.int .i64 0, .string ⟨#[]⟩, .int .i64 0, .int .i64 0, .string ⟨#[]⟩, .string ⟨#[]⟩, .slice none 0 0] 33))).drew).blk hb1 (by simp)
  have hb2d := ((Touch.refl [] (((w.alloc (.cells #[.int .i64 k1, .string nm1, .int .i64 vk1, .int .i64 vn1, .string vt1, .string op1, .slice A1 m1 c1] 33)).alloc (.cells #[.int .i64 k2, .string nm2, .int .i64 vk2, .int .i64 vn2, .string vt2, .string op2, .slice A2 m2 c2] 33)).alloc (.cells #[.int .i64 0, .string ⟨#[]⟩, .int .i64 0, .int .i64 0, .string ⟨#[]⟩, .string ⟨#[]⟩, .slice none 0 0] 33))).drew).blk hb2 (by simp)
  have Hbr := Lib.hid (((Touch.refl [] (((w.alloc (.cells #[.int .i64 k1, .string nm1, .int .i64 vk1, .int .i64 vn1, .string vt1, .string op1, .slice A1 m1 c1] 33)).alloc (.cells #[.int .i64 k2, .string nm2, .int .i64 vk2, .int .i64 vn2, .string vt2, .string op2, .slice A2 m2 c2] 33)).alloc (.cells #[.int .i64 0, .string ⟨#[]⟩, .int .i64 0, .int .i64 0, .string ⟨#[]⟩, .string ⟨#[]⟩, .slice none 0 0] 33))).drew).blk hbr (by simp))
  obtain ⟨u0, u1, u2, u3, u4, u5, u6, _⟩ := blk7 hb1d
  obtain ⟨v0, v1, v2, v3, v4, v5, v6, _⟩ := blk7 hb2d
  clear hbr hb1 hb2 hb1d hb2d t0 ha hb
  go_enter Try.func21, Try.ntmps21
  go_wp2_with fail
  refine wp_region_held_drew (S := fun w' => w'.cell? ⟨w.heap.size, 0, none⟩ = some (.int .i64 k1) ∧ w'.cell? ⟨w.heap.size, 1, none⟩ = some (.string nm1) ∧ w'.cell? ⟨w.heap.size, 2, none⟩ = some (.int .i64 vk1) ∧ w'.cell? ⟨w.heap.size, 3, none⟩ = some (.int .i64 vn1) ∧ w'.cell? ⟨w.heap.size, 4, none⟩ = some (.string vt1) ∧ w'.cell? ⟨w.heap.size, 5, none⟩ = some (.string op1) ∧ w'.cell? ⟨w.heap.size, 6, none⟩ = some (.slice A1 m1 c1) ∧ w'.cell? ⟨w.heap.size + 1, 0, none⟩ = some (.int .i64 k2) ∧ w'.cell? ⟨w.heap.size + 1, 1, none⟩ = some (.string nm2) ∧ w'.cell? ⟨w.heap.size + 1, 2, none⟩ = some (.int .i64 vk2) ∧ w'.cell? ⟨w.heap.size + 1, 3, none⟩ = some (.int .i64 vn2) ∧ w'.cell? ⟨w.heap.size + 1, 4, none⟩ = some (.string vt2) ∧ w'.cell? ⟨w.heap.size + 1, 5, none⟩ = some (.string op2) ∧ w'.cell? ⟨w.heap.size + 1, 6, none⟩ = some (.slice A2 m2 c2)) (by kernel_rfl) ⟨u0, u1, u2, u3, u4, u5, u6, v0, v1, v2, v3, v4, v5, v6⟩ (fun hHeld => ?_)
  refine take_d (i := 0) (d := 7) (v := ?_) rfl rfl (by kernel_rfl) (by kernel_rfl) (by kernel_rfl) (fun _ _ _ h => h) (Or.inl ⟨by rfl, ?_⟩) (by assumption) ?_
  rotate_left
  · intro w hSw; (try dsimp only at hSw); go_simp; (try with_reducible rfl)
  try simp only [Act.put, List.setIfInBounds_toArray, List.set_cons_zero, List.set_cons_succ]
  refine take_d (i := 1) (d := 8) (v := ?_) rfl rfl (by kernel_rfl) (by kernel_rfl) (by kernel_rfl) (fun _ _ _ h => h) (Or.inl ⟨by rfl, ?_⟩) (by assumption) ?_
  rotate_left
  · intro w hSw; (try dsimp only at hSw); go_simp; (try with_reducible rfl)
  try simp only [Act.put, List.setIfInBounds_toArray, List.set_cons_zero, List.set_cons_succ]
  refine take_d (i := 3) (d := 10) (v := ?_) rfl rfl (by kernel_rfl) (by kernel_rfl) (by kernel_rfl) (fun _ _ _ h => h) (Or.inl ⟨by rfl, ?_⟩) (by assumption) ?_
  rotate_left
  · intro w hSw; (try dsimp only at hSw); go_simp; (try with_reducible rfl)
  try simp only [Act.put, List.setIfInBounds_toArray, List.set_cons_zero, List.set_cons_succ]
  refine wpAnyH_ready (rs := [2]) (by kernel_rfl) (by simp) ?_
  refine AllReadyH.cons rfl (fun K hK => ?_) AllReadyH.nil
  go_simp
  go_at_call 44
  refine (H1.out _ t0d).mono ?_
  rintro e w1 ⟨x1, rfl, hx1, t1⟩
  obtain ⟨⟨k3, nm3, ⟨vk3, vn3, vt3⟩, op3⟩, A3, m3, c3⟩ := x1
  dsimp only
  have uu0 := t1.cell u0 (by simp)
  have uu1 := t1.cell u1 (by simp)
  have uu2 := t1.cell u2 (by simp)
  have uu3 := t1.cell u3 (by simp)
  have uu4 := t1.cell u4 (by simp)
  have uu5 := t1.cell u5 (by simp)
  have uu6 := t1.cell u6 (by simp)
  have vv0 := t1.cell v0 (by simp)
  have vv1 := t1.cell v1 (by simp)
  have vv2 := t1.cell v2 (by simp)
  have vv3 := t1.cell v3 (by simp)
  have vv4 := t1.cell v4 (by simp)
  have vv5 := t1.cell v5 (by simp)
  have vv6 := t1.cell v6 (by simp)
  (try go_wp2_with fail)
  refine hK.out _ _ ⟨uu0, uu1, uu2, uu3, uu4, uu5, uu6, vv0, vv1, vv2, vv3, vv4, vv5, vv6⟩ (fun _hH => ?_)
  clear hK K
  try simp only [Act.put, List.setIfInBounds_toArray, List.set_cons_zero, List.set_cons_succ]
  refine wpAnyH_ready (rs := [4]) (by kernel_rfl) (by simp) ?_
  refine AllReadyH.cons rfl (fun K hK => ?_) AllReadyH.nil
  go_simp
  go_at_call 44
  refine (H2.out _ (t0d.trans0 t1)).mono ?_
  rintro e w2 ⟨x2, rfl, hx2, t2⟩
  obtain ⟨⟨k4, nm4, ⟨vk4, vn4, vt4⟩, op4⟩, A4, m4, c4⟩ := x2
  dsimp only
  have ux0 := t2.cell uu0 (by simp)
  have ux1 := t2.cell uu1 (by simp)
  have ux2 := t2.cell uu2 (by simp)
  have ux3 := t2.cell uu3 (by simp)
  have ux4 := t2.cell uu4 (by simp)
  have ux5 := t2.cell uu5 (by simp)
  have ux6 := t2.cell uu6 (by simp)
  have vx0 := t2.cell vv0 (by simp)
  have vx1 := t2.cell vv1 (by simp)
  have vx2 := t2.cell vv2 (by simp)
  have vx3 := t2.cell vv3 (by simp)
  have vx4 := t2.cell vv4 (by simp)
  have vx5 := t2.cell vv5 (by simp)
  have vx6 := t2.cell vv6 (by simp)
  have tb := (Touch.refl [] w2).alloc (.cells #[.int .i64 k3, .string nm3, .int .i64 vk3, .int .i64 vn3, .string vt3, .string op3, .slice A3 m3 c3, .int .i64 k4, .string nm4, .int .i64 vk4, .int .i64 vn4, .string vt4, .string op4, .slice A4 m4 c4] 33)
  have uy0 := tb.cell ux0 (by simp)
  have uy1 := tb.cell ux1 (by simp)
  have uy2 := tb.cell ux2 (by simp)
  have uy3 := tb.cell ux3 (by simp)
  have uy4 := tb.cell ux4 (by simp)
  have uy5 := tb.cell ux5 (by simp)
  have uy6 := tb.cell ux6 (by simp)
  have vy0 := tb.cell vx0 (by simp)
  have vy1 := tb.cell vx1 (by simp)
  have vy2 := tb.cell vx2 (by simp)
  have vy3 := tb.cell vx3 (by simp)
  have vy4 := tb.cell vx4 (by simp)
  have vy5 := tb.cell vx5 (by simp)
  have vy6 := tb.cell vx6 (by simp)
  (try go_wp2_with fail)
  refine hK.out _ _ ⟨ux0, ux1, ux2, ux3, ux4, ux5, ux6, vx0, vx1, vx2, vx3, vx4, vx5, vx6⟩ (fun _hH => ?_)
  clear hK K
  try simp only [Act.put, List.setIfInBounds_toArray, List.set_cons_zero, List.set_cons_succ]
  refine wpAnyH_ready (rs := [5]) (by kernel_rfl) (by simp) ?_
  refine AllReadyH.cons rfl (fun K hK => ?_) AllReadyH.nil
  go_simp
  (try go_wp2_with fail)
  refine hK.out _ _ ⟨uy0, uy1, uy2, uy3, uy4, uy5, uy6, vy0, vy1, vy2, vy3, vy4, vy5, vy6⟩ (fun _hH => ?_)
  clear hK K
  try simp only [Act.put, List.setIfInBounds_toArray, List.set_cons_zero, List.set_cons_succ]
  refine take_d (i := 6) (d := 13) (v := ?_) rfl rfl (by kernel_rfl) (by kernel_rfl) (by kernel_rfl) (fun _ _ _ h => h) (Or.inl ⟨by rfl, ?_⟩) (by assumption) ?_
  rotate_left
  · intro w hSw; (try dsimp only at hSw); go_simp; (try with_reducible rfl)
  try simp only [Act.put, List.setIfInBounds_toArray, List.set_cons_zero, List.set_cons_succ]
  have hb2 := tb.blk (t2.blk (t1.blk Hbr.out (by simp)) (by simp)) (by simp)
  obtain ⟨e0, e1, e2, e3, e4, e5, e6, g0, g1, g2, g3, g4, g5, g6⟩ := blk7 hb2
  obtain ⟨q1, q2⟩ := out7 hb2 (.int .i64 4) (.string ⟨#[]⟩) (.int .i64 0) (.int .i64 0) (.string ⟨#[]⟩) (.string op) (.slice (some ⟨w2.heap.size, 0, none⟩) 2 2)
  have uz0 := q2.cell uy0 (by simp only [List.mem_singleton]; omega)
  have uz1 := q2.cell uy1 (by simp only [List.mem_singleton]; omega)
  have uz2 := q2.cell uy2 (by simp only [List.mem_singleton]; omega)
  have uz3 := q2.cell uy3 (by simp only [List.mem_singleton]; omega)
  have uz4 := q2.cell uy4 (by simp only [List.mem_singleton]; omega)
  have uz5 := q2.cell uy5 (by simp only [List.mem_singleton]; omega)
  have uz6 := q2.cell uy6 (by simp only [List.mem_singleton]; omega)
  have vz0 := q2.cell vy0 (by simp only [List.mem_singleton]; omega)
  have vz1 := q2.cell vy1 (by simp only [List.mem_singleton]; omega)
  have vz2 := q2.cell vy2 (by simp only [List.mem_singleton]; omega)
  have vz3 := q2.cell vy3 (by simp only [List.mem_singleton]; omega)
  have vz4 := q2.cell vy4 (by simp only [List.mem_singleton]; omega)
  have vz5 := q2.cell vy5 (by simp only [List.mem_singleton]; omega)
  have vz6 := q2.cell vy6 (by simp only [List.mem_singleton]; omega)
  refine wpAnyH_ready (rs := [7]) (by kernel_rfl) (by simp) ?_
  refine AllReadyH.cons rfl (fun K hK => ?_) AllReadyH.nil
  go_simp
  (try go_wp2_with fail)
  refine hK.out _ _ ⟨uz0, uz1, uz2, uz3, uz4, uz5, uz6, vz0, vz1, vz2, vz3, vz4, vz5, vz6⟩ (fun _hH => ?_)
  clear hK K
  try simp only [Act.put, List.setIfInBounds_toArray, List.set_cons_zero, List.set_cons_succ]
  refine wpAnyH_done (by kernel_rfl) ?_ _
  go_wp2_with fail
  have s1 := t1.size
  have s2 := t2.size
  simp only [World.size_drew, World.size_alloc] at s1
  refine bodyPost_ret (results_cell_row rfl _ _ (w.heap.size + 1 + 1) _ _ _ _ rfl q1 Try.underlying33 rfl rfl) rfl ⟨⟨⟨4, ⟨#[]⟩, ⟨0, 0, ⟨#[]⟩⟩, op⟩, some ⟨w2.heap.size, 0, none⟩, 2, 2⟩, rfl, ?_, (((t0d.trans0 t1).trans0 t2).trans0 tb).trans q2 (fun b hb => .inr (by simp at hb; omega))⟩
  have sq := q2.size
  simp only [World.size_alloc] at sq
  refine ⟨rfl, rfl, fun b hb => ?_, [⟨⟨k3, nm3, ⟨vk3, vn3, vt3⟩, op3⟩, A3, m3, c3⟩, ⟨⟨k4, nm4, ⟨vk4, vn4, vt4⟩, op4⟩, A4, m4, c4⟩], rfl, RdK.touch (RdK.row w2 33 [(⟨⟨k3, nm3, ⟨vk3, vn3, vt3⟩, op3⟩, A3, m3, c3⟩ : XC), ⟨⟨k4, nm4, ⟨vk4, vn4, vt4⟩, op4⟩, A4, m4, c4⟩] _ rfl) q2 (by simp [fpo]; omega), fun i a1 b1 => ?_⟩
  · simp [fpo] at hb
    subst hb
    exact ⟨by omega, by omega⟩
  · have hi : i = 0 ∨ i = 1 := by simp at a1; omega
    rcases hi with rfl | rfl
    · exact (((hx1.touch0 t2).touch0 tb).touch q2 (fun b hb hp => by simp at hb; have := hp.1; simp at this; omega)).mono fun b hb => ⟨by have := hb.1; simp at this; omega, by have := hb.2; omega⟩
    · exact ((hx2.touch0 tb).touch q2 (fun b hb hp => by simp at hb; have := hp.1; omega)).mono fun b hb => ⟨by have := hb.1; omega, by have := hb.2; omega⟩
end Go.Proofs.Ytlkckkagoommaaa

/- bywashlaw04: one, truth. -/
namespace Go.Proofs.Ytlkckkagoommaaa
open Go.RowKit
attribute [local go_sem ↓] Go.wp_at_zero Go.wp_at_succ

set_option maxRecDepth 20000 in
theorem one_any (v : VD) (w : World) : Calls Try.prog 22 #[v.val] w fun e w' => (∃ A, e = .returned (.slice A 1 1) ∧ ValsAt w' A [v]) ∧ Touch [] w w' := by
  obtain ⟨k, n, s⟩ := v
  dsimp only [VD.val]
  have t0 := ((Touch.refl [] w).alloc (.cells #[.int .i64 k, .int .i64 n, .string s] 30)).alloc (.cells #[.int .i64 k, .int .i64 n, .string s] 30)
  go_enter Try.func22, Try.ntmps22
  go_wp2_with fail
  go_ret
  refine ⟨⟨_, rfl, ?_⟩, t0⟩
  have := RdK.row (enc := vdE) (w.alloc (.cells #[.int .i64 k, .int .i64 n, .string s] 30)) 30 [(⟨k, n, s⟩ : VD)] #[.int .i64 k, .int .i64 n, .string s] rfl
  simp only [World.size_alloc] at this
  exact this
set_option maxRecDepth 20000 in
theorem truth_any (b : Bool) (w : World) : Calls Try.prog 24 #[.bool b] w fun e w' => e = .returned (bitV b).val ∧ Touch [] w w' := by
  have h1 := Lib.hid fun w' => of_any 1 w'
  have h0 := Lib.hid fun w' => of_any 0 w'
  simp only [VD.val, ofV, S] at h1 h0
  have t0 := (Touch.refl [] w).alloc (.cells #[.int .i64 0, .int .i64 0, .string ⟨#[]⟩] 30)
  have hb := heap_alloc_new w (.cells #[.int .i64 0, .int .i64 0, .string ⟨#[]⟩] 30)
  have Hb := Lib.hid hb
  clear hb
  cases b
  · go_enter Try.func24, Try.ntmps24
    go_wp2_with fail
    refine (h0.out _).mono ?_
    rintro e w1 ⟨rfl, u1⟩
    obtain ⟨r0, r1, r2, f0, f1, f2⟩ := blk3 (u1.blk Hb.out (by simp))
    go_wp2_with fail
    obtain ⟨q1, q2⟩ := out3 (u1.blk Hb.out (by simp)) (.int .i64 1) (.int .i64 0) (.string ⟨#[]⟩)
    exact bodyPost_ret (results_cell_row rfl _ _ w.heap.size _ _ _ _ rfl q1 Try.underlying30 rfl rfl) rfl ⟨rfl, (t0.trans0 u1).trans q2 (fun b hb => .inr (by simp at hb; omega))⟩
  · go_enter Try.func24, Try.ntmps24
    go_wp2_with fail
    refine (h1.out _).mono ?_
    rintro e w1 ⟨rfl, u1⟩
    obtain ⟨r0, r1, r2, f0, f1, f2⟩ := blk3 (u1.blk Hb.out (by simp))
    go_wp2_with fail
    obtain ⟨q1, q2⟩ := out3 (u1.blk Hb.out (by simp)) (.int .i64 1) (.int .i64 1) (.string ⟨#[]⟩)
    exact bodyPost_ret (results_cell_row rfl _ _ w.heap.size _ _ _ _ rfl q1 Try.underlying30 rfl rfl) rfl ⟨rfl, (t0.trans0 u1).trans q2 (fun b hb => .inr (by simp at hb; omega))⟩

theorem allX0 {q : ND → Prop} {n : Nat} {d : ND} (h : q d) : allX q (n + 1) ((d, []) : TX (n + 1)) := ⟨h, fun a ha => by cases ha⟩
theorem allX2 {q : ND → Prop} {n : Nat} {d : ND} {a b : TX n} (h : q d) (ha : allX q n a) (hb : allX q n b) : allX q (n + 1) ((d, [a, b]) : TX (n + 1)) := ⟨h, fun x hx => by
  rcases List.mem_cons.1 hx with rfl | hx
  · exact ha
  · rw [List.mem_singleton.1 hx]; exact hb⟩
theorem allX3 {q : ND → Prop} {n : Nat} {d : ND} {a b c : TX n} (h : q d) (ha : allX q n a) (hb : allX q n b) (hc : allX q n c) : allX q (n + 1) ((d, [a, b, c]) : TX (n + 1)) := ⟨h, fun x hx => by
  rcases List.mem_cons.1 hx with rfl | hx
  · exact ha
  · rcases List.mem_cons.1 hx with rfl | hx
    · exact hb
    · rw [List.mem_singleton.1 hx]; exact hc⟩
/-- the schema of the fixed answers -/
def csA : List CD := [⟨S [97], 1⟩]
def nd4 (op : ByteArray) : ND := ⟨4, ⟨#[]⟩, ⟨0, 0, ⟨#[]⟩⟩, op⟩
def ndC (v : VD) : ND := ⟨2, ⟨#[]⟩, v, ⟨#[]⟩⟩
def ndA : ND := ⟨1, S [97], ⟨0, 0, ⟨#[]⟩⟩, ⟨#[]⟩⟩
theorem top1 : topX csA [ofV 2] 2 ((nd4 (S [43]), [((ndA, []) : TX 1), ((ndC (ofV 1), []) : TX 1)]) : TX 2) = (ofV 3, 0) := by kernel_rfl
theorem top2 : topX csA [ofV 1] 3 ((⟨5, S [105, 102], ⟨0, 0, ⟨#[]⟩⟩, ⟨#[]⟩⟩, [((nd4 (S [62]), [((ndA, []) : TX 1), ((ndC (ofV 1), []) : TX 1)]) : TX 2), ((nd4 (S [47]), [((ndC (ofV 1), []) : TX 1), ((ndC (ofV 0), []) : TX 1)]) : TX 2), ((ndC (ofV 5), []) : TX 2)]) : TX 3) = (ofV 5, 0) := by kernel_rfl
end Go.Proofs.Ytlkckkagoommaaa
