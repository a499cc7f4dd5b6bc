/- bywashref01.Right; schema.Schema.Fits, bywashref02.Fits: does a row fit? For every schema and row. -/
import Derived.Test.YtngoiphknffplaaDoorSchRows
import Derived.Test.YtngoiphknffplaaDoorTw
namespace Go.Proofs.YtngoiphknffplaaDoor
open Go.RowKit

theorem info_rval : (Tryd.prog.info? 77).map (fun i => (i.zero, i.size, i.bytes)) = some (some (.agg #[.int .i64 0, .int .i64 0, .string ⟨#[]⟩]), 3, 32) := by kernel_rfl

set_option maxHeartbeats 1600000 in
theorem refRow_any (A : Option Addr) (cap n : Nat) (vs : List VD) (hn : vs.length = n) (w : World) (h : ValsAt w A vs) (hl : n ≤ 100000000) :
    Calls Tryd.prog 27 #[.slice A n cap] w fun e w' => ∃ A' c', e = .returned (.slice A' n c') ∧ Made 77 3 vdE vs A' c' w w' := by
  subst hn
  go_enter Tryd.func27, Tryd.ntmps27
  go_wp2
  go_loopw [3, 8] (fun v i wr => ∃ (k : Nat) (A' : Option Addr) (c' : Nat), k ≤ vs.length ∧ i = .int .i64 k ∧ v = .slice A' k c' ∧ Made 77 3 vdE (vs.take k) A' c' w wr) (fun _ i _ => vs.length - (intOf i).toNat)
  case atStart => exact ⟨0, none, 0, by omega, rfl, rfl, Made.nil _ _ _ _⟩
  case round =>
    obtain ⟨k, A', c', hk, rfl, rfl, hmd⟩ := hrel
    have ht := hmd.t
    by_cases hlt : k < vs.length
    · obtain ⟨ad, b, off, rfl, hadd, c0, c1, c2⟩ := (h.touch0 ht).at_ k hlt
      have hsn := List.take_succ_eq_append_getElem hlt
      obtain ⟨c, hce⟩ : ∃ c, c = vs[k] := ⟨_, rfl⟩
      rw [← hce] at c0 c1 c2 hsn
      have Hsn := Lib.hid hsn; have Hlen := Lib.hid (show (vs.take k).length = k by rw [List.length_take]; omega)
      clear hce hsn
      go_wp2_with (at_builtin; refine stop ?_)
      refine go ?_
      have tb := ((Touch.refl [] wr).alloc (.cells #[.int .i64 c.kind, .int .i64 c.num, .string c.text] 56)).alloc (.cells #[.int .i64 c.kind, .int .i64 c.num, .string c.text] 77)
      refine wpList_appK rfl (.tmp 12) (.tmp 20) 50 rfl 77 _ 3 32 info_rval Tryd.underlying50 rfl (by omega) vdE_length vdE_one A' k c' (vs.take k) Hlen.out rfl (hmd.own.touch0 tb)
        (some ⟨wr.heap.size + 1, 0, none⟩) 1 1 [c] rfl rfl (by have := RdK.one (enc := vdE) (wr.alloc (.cells #[.int .i64 c.kind, .int .i64 c.num, .string c.text] 56)) 77 c #[.int .i64 c.kind, .int .i64 c.num, .string c.text] rfl; rwa [World.size_alloc] at this) (by omega) (by omega) ?_
      intro A3 c3 w3 hown3 ht3 hf3
      go_wp2
      go_roundw
      case rel => exact ⟨k + 1, A3, c3, by omega, by go_num, rfl, by rw [Hsn.out]; exact (hmd.touch0 tb).step hown3 ht3 hf3⟩
      case measure => simp [intOf]; omega
    · obtain rfl : k = vs.length := by omega
      rw [List.take_length] at hmd
      go_wp2
      go_ret
      exact ⟨A', c', rfl, hmd⟩

theorem empty_size (s : ByteArray) : s.toList.isEmpty = decide (s.size = 0) := by
  rw [toList_B, Bool.eq_iff_iff, List.isEmpty_iff, decide_eq_true_eq, ← size_toList, List.length_eq_zero_iff]

set_option maxRecDepth 20000 in
set_option maxHeartbeats 1600000 in
theorem refRight_any (v : VD) (hs : v.text.size ≤ 140737000000000) (w : World) :
    Calls Tryd.prog 43 #[v.val] w fun e w' => e = .returned (.bool v.right) ∧ Touch [] w w' := by
  obtain ⟨kd, num, text⟩ := v
  obtain ⟨t, rfl⟩ : ∃ t, text = S t := ⟨_, (S_of _).symm⟩
  have hsz := S_size t
  simp only at hs
  rw [hsz] at hs
  have t0 := (Touch.refl [] w).alloc (.cells #[.int .i64 kd, .int .i64 num, .string (S t)] 77)
  have he := empty_size (S t)
  rw [hsz] at he
  have hr : VD.right ⟨kd, num, S t⟩ = (if kd = 0 then decide (num = 0) && decide (t.length = 0) else if kd = 1 then decide (t.length = 0) else if kd = 2 then decide (num = 0) && plainV t else false) := by
    unfold VD.right
    simp only [he]
    rw [S_toList]
  have Hr := Lib.hid hr
  clear hr he
  have hbad : ∀ (b : Bool), VD.right ⟨kd, num, S t⟩ = b → ∀ w', Touch [] w w' → (Ending.returned (.bool b) = Ending.returned (.bool (VD.right ⟨kd, num, S t⟩)) ∧ Touch [] w w') := fun b hb w' ht => ⟨by rw [hb], ht⟩
  have Hb := Lib.hid hbad; clear hbad
  dsimp only [VD.val] at *
  by_cases hk : kd < 0 ∨ 2 < kd
  · have Hf := Lib.hid (Hb.out false (by rw [Hr.out, if_neg (by omega), if_neg (by omega), if_neg (by omega)]) _ t0)
    rcases hk with hk | hk
    · go_enter Tryd.func43, Tryd.ntmps43
      go_wp2
      go_ret
      exact Hf.out
    · go_enter Tryd.func43, Tryd.ntmps43
      go_wp2
      go_ret
      exact Hf.out
  by_cases hk1 : kd ≠ 1 ∧ num ≠ 0
  · have Hf := Lib.hid (Hb.out false (by
      rw [Hr.out]
      have := hk1.2
      split
      · simp [this]
      · rw [if_neg hk1.1]; split <;> simp [this]) _ t0)
    have q1 : (kd == 1) = false := by rw [beq_eq_false_iff_ne]; exact hk1.1
    have q1' : (kd != 1) = true := by rw [bne, q1]; rfl
    have q2 : (num == 0) = false := by rw [beq_eq_false_iff_ne]; exact hk1.2
    have q2' : (num != 0) = true := by rw [bne, q2]; rfl
    clear hk1
    go_enter Tryd.func43, Tryd.ntmps43
    go_wp2
    go_ret
    exact Hf.out
  by_cases hk2 : kd ≠ 2 ∧ 0 < t.length
  · have Hf := Lib.hid (Hb.out false (by
      rw [Hr.out]
      have h0 : decide (t.length = 0) = false := decide_eq_false (by omega)
      rw [h0, if_neg hk2.1]
      split
      · simp
      · split <;> rfl) _ t0)
    have q1 : (kd == 2) = false := by rw [beq_eq_false_iff_ne]; exact hk2.1
    have q1' : (kd != 2) = true := by rw [bne, q1]; rfl
    obtain ⟨_, q3⟩ := hk2
    rcases (show kd = 1 ∨ (kd ≠ 1 ∧ num = 0) by omega) with h1 | ⟨h1, h2⟩
    · subst h1
      clear hk1
      go_enter Tryd.func43, Tryd.ntmps43
      go_wp2
      go_ret
      exact Hf.out
    · subst h2
      have q4 : (kd == 1) = false := by rw [beq_eq_false_iff_ne]; exact h1
      have q4' : (kd != 1) = true := by rw [bne, q4]; rfl
      clear hk1 h1
      go_enter Tryd.func43, Tryd.ntmps43
      go_wp2
      go_ret
      exact Hf.out
  have hmain : (kd = 2 ∧ num = 0) ∨ (kd = 1 ∧ t = []) ∨ (kd = 0 ∧ num = 0 ∧ t = []) := by
    have hz : 0 < t.length ∨ t = [] := by cases t; exact .inr rfl; exact .inl (by simp)
    rcases hz with hz | hz
    · left; constructor <;> omega
    · rcases (show kd = 0 ∨ kd = 1 ∨ kd = 2 by omega) with e | e | e
      · exact .inr (.inr ⟨e, by omega, hz⟩)
      · exact .inr (.inl ⟨e, hz⟩)
      · left; constructor <;> omega
  clear hk hk1 hk2
  rcases hmain with ⟨rfl, rfl⟩ | ⟨rfl, rfl⟩ | ⟨rfl, rfl, rfl⟩
  · by_cases h64 : 64 < t.length
    · have Hf := Lib.hid (Hb.out false (by rw [Hr.out]; simp [plainV]; omega) _ t0)
      go_enter Tryd.func43, Tryd.ntmps43
      go_wp2
      go_ret
      exact Hf.out
    go_enter Tryd.func43, Tryd.ntmps43
    go_wp2
    go_loop [3] (fun i => ∃ k : Nat, k ≤ t.length ∧ i = .int .i64 k ∧ Hid ((t.take k).all okB = true)) (fun i => t.length - (intOf i).toNat)
    case atStart => exact ⟨0, by omega, rfl, Lib.hid rfl⟩
    case round =>
      obtain ⟨k, hk, rfl, hall⟩ := hrel
      by_cases hlt : k < t.length
      · have hno := all_no (p := okB) hlt
        have hyes := all_snoc (p := okB) hlt hall.out
        have hg := S_get t k (by rw [hsz]; exact hlt)
        obtain ⟨x, hx⟩ : ∃ x, x = t[k] := ⟨_, rfl⟩
        rw [← hx] at hno hyes hg
        have Hno := Lib.hid hno; have Hyes := Lib.hid hyes
        have hxl := x.toNat_lt
        have hkI : (k : Int) < t.length := by omega
        clear hno hyes hx hall
        by_cases h1 : x.toNat < 32
        · have Hf := Lib.hid (Hb.out false (by rw [Hr.out]; simp only [if_neg (show ¬ (2 : Int) = 0 by omega), if_neg (show ¬ (2 : Int) = 1 by omega), if_true, plainV]; rw [Hno.out (by simp [okB]; omega)]; rfl) _ t0)
          go_wp2
          go_ret
          exact Hf.out
        by_cases h2 : 126 < x.toNat
        · have Hf := Lib.hid (Hb.out false (by rw [Hr.out]; simp only [if_neg (show ¬ (2 : Int) = 0 by omega), if_neg (show ¬ (2 : Int) = 1 by omega), if_true, plainV]; rw [Hno.out (by simp [okB]; omega)]; rfl) _ t0)
          go_wp2
          go_ret
          exact Hf.out
        · have Ha := Lib.hid (Hyes.out (by simp [okB]; omega))
          go_wp2
          go_round
          case rel => exact ⟨k + 1, by omega, by go_num, Ha⟩
          case measure => simp [intOf]; omega
      · obtain rfl : k = t.length := by omega
        have h := hall.out
        rw [List.take_length] at h
        have Hf := Lib.hid (Hb.out true (by rw [Hr.out]; simp only [if_neg (show ¬ (2 : Int) = 0 by omega), if_neg (show ¬ (2 : Int) = 1 by omega), if_true, plainV]; rw [h]; simp; omega) _ t0)
        clear hall h
        go_wp2
        go_ret
        exact Hf.out
  · have Hf := Lib.hid (Hb.out true (by rw [Hr.out]; rfl) _ t0)
    go_enter Tryd.func43, Tryd.ntmps43
    go_wp2
    refine wp_loop_rounds 1 ?_
    rw [rounds_succ]
    go_wp2
    go_ret
    exact Hf.out
  · have Hf := Lib.hid (Hb.out true (by rw [Hr.out]; rfl) _ t0)
    go_enter Tryd.func43, Tryd.ntmps43
    go_wp2
    refine wp_loop_rounds 1 ?_
    rw [rounds_succ]
    go_wp2
    go_ret
    exact Hf.out

/-- does a value fit a column? -/
def fitC (c : CD) (v : VD) : Bool := v.right && (decide (v.kind = 0) || decide (v.kind = c.typ))
def fitR (cs : List CD) (vs : List VD) : Bool := decide (vs.length = cs.length) && (List.zipWith fitC cs vs).all id
theorem fit_no {cs : List CD} {vs : List VD} {k : Nat} (h1 : k < cs.length) (h2 : k < vs.length) (hb : fitC cs[k] vs[k] = false) : fitR cs vs = false := by
  have hk : k < (List.zipWith fitC cs vs).length := by rw [List.length_zipWith]; omega
  have := all_no (p := id) hk (by rw [List.getElem_zipWith]; exact hb)
  unfold fitR
  rw [this, Bool.and_false]
theorem fit_yes {cs : List CD} {vs : List VD} {k : Nat} (h1 : k < cs.length) (h2 : k < vs.length) (h : ((List.zipWith fitC cs vs).take k).all id = true) (hb : fitC cs[k] vs[k] = true) : ((List.zipWith fitC cs vs).take (k + 1)).all id = true := by
  have hk : k < (List.zipWith fitC cs vs).length := by rw [List.length_zipWith]; omega
  exact all_snoc (p := id) hk h (by rw [List.getElem_zipWith]; exact hb)

set_option maxRecDepth 20000 in
set_option maxHeartbeats 6400000 in
theorem fits_any (A : Option Addr) (cap n : Nat) (cs : List CD) (hn : cs.length = n) (hok : ∀ c ∈ cs, c.Ok) (B : Option Addr) (bcap m : Nat) (vs : List VD) (hm : vs.length = m) (hvk : ∀ v ∈ vs, v.Ok 140737000000000)
    (w : World) (h : ColsAt w A cs) (hv : ValsAt w B vs) (hl : n ≤ 140737000000000) (hl2 : m ≤ 140737000000000) :
    Calls Tryd.prog 25 #[.slice A n cap, .slice B m bcap] w fun e w' => e = .returned (.bool (decide (checkV cs = 0) && fitR cs vs)) ∧ Touch [] w w' := by
  subst hn hm
  have hchk := check_any A cap cs.length cs rfl hok w h (by omega)
  by_cases hc0 : checkV cs = 0
  · rw [hc0] at hchk
    have Hchk := Lib.hid hchk; have Hc0 := Lib.hid (show (decide (checkV cs = 0) && fitR cs vs) = fitR cs vs by rw [hc0]; rfl)
    clear hchk hc0
    by_cases hlen : vs.length = cs.length
    · have Hlen := Lib.hid hlen
      go_enter Tryd.func25, Tryd.ntmps25
      go_wp2_with (go_at_call 19; refine Hchk.out.mono ?_; rintro e w1 ⟨rfl, t1⟩)
      clear Hchk
      go_loopw [19] (fun i wr => ∃ k : Nat, k ≤ vs.length ∧ i = .int .i64 k ∧ Hid (((List.zipWith fitC cs vs).take k).all id = true) ∧ Touch [] w wr) (fun i _ => vs.length - (intOf i).toNat)
      case atStart => exact ⟨0, by omega, rfl, Lib.hid rfl, t1⟩
      case round =>
        clear t1
        obtain ⟨k, hk, rfl, Hall, ht⟩ := hrel
        clear hlen
        by_cases hlt : k < vs.length
        · have hlt2 : k < cs.length := by have := Hlen.out; omega
          obtain ⟨ad, b, off, rfl, hadd, c0, c1⟩ := (h.touch0 ht).at_ k hlt2
          obtain ⟨bd, b2, off2, rfl, hadd2, d0, d1, d2⟩ := (hv.touch0 ht).at_ k hlt
          have hno := fit_no hlt2 hlt
          have hyes := fit_yes hlt2 hlt Hall.out
          have hvok := hvk _ (List.getElem_mem hlt)
          obtain ⟨c, hce⟩ : ∃ c, c = cs[k] := ⟨_, rfl⟩
          obtain ⟨v, hve⟩ : ∃ v, v = vs[k] := ⟨_, rfl⟩
          rw [← hce] at c0 c1 hno hyes
          rw [← hve] at d0 d1 d2 hno hyes hvok
          have Hno := Lib.hid hno; have Hyes := Lib.hid hyes
          obtain ⟨_, _, hvt⟩ := hvok
          obtain ⟨kd, nm, tx⟩ := v
          simp only at d0 d1 d2 hvt
          clear hce hve hno hyes Hall c0
          have hb := heap_alloc_new wr (.cells #[.int .i64 kd, .int .i64 nm, .string tx] 56)
          have tb := (Touch.refl [] wr).alloc (.cells #[.int .i64 kd, .int .i64 nm, .string tx] 56)
          obtain ⟨W, hW⟩ : ∃ W, W = wr.alloc (.cells #[.int .i64 kd, .int .i64 nm, .string tx] 56) := ⟨_, rfl⟩
          rw [← hW] at hb tb
          have g0 := TW.cell (cell_blk hb (i := 0) rfl)
          have g1 := TW.cell (cell_blk hb (i := 1) rfl)
          have g2 := TW.cell (cell_blk hb (i := 2) rfl)
          have g3 := TW.cell (tb.cell c1 (by simp))
          have hright := fun w' => right_any ⟨kd, nm, tx⟩ hvt w'
          simp only [VD.val] at hright
          have hkI0 : (0 : Int) ≤ (k : Int) := by omega
          have hkI : (k : Int) < (cs.length : Int) := by omega
          have HW := Lib.hid hW
          clear hW hb
          rcases hvr : VD.right ⟨kd, nm, tx⟩ with _ | _
          · have Hf := Lib.hid (Hno.out (by unfold fitC; rw [hvr]; rfl))
            rw [hvr] at hright
            have Hright := Lib.hid hright; clear hright hvr
            go_wp2
            rw [← HW.out]
            refine wp_region_tw W (Touch.refl _ _) (by kernel_rfl) (by kernel_rfl) ?_
            repeat (go_big_quiet_step (((go_at_call 29; exact Calls.tw _ (Hright.out _)))))
            refine wpQuiet_nil ?_
            rintro _ ⟨x2, rfl⟩
            go_wp2
            go_ret
            exact ⟨ret_bool (by rw [Hc0.out, Hf.out]), (ht.trans0 tb).trans0 x2.t⟩
          · have Hr := Lib.hid hvr
            rw [hvr] at hright
            have Hright := Lib.hid hright; clear hright hvr
            by_cases hk0 : kd = 0
            · subst hk0
              have Ha := Lib.hid (Hyes.out (by unfold fitC; rw [Hr.out]; rfl))
              go_wp2
              rw [← HW.out]
              refine wp_region_tw W (Touch.refl _ _) (by kernel_rfl) (by kernel_rfl) ?_
              repeat (go_big_quiet_step (((go_at_call 29; exact Calls.tw _ (Hright.out _)))))
              refine wpQuiet_nil ?_
              rintro _ ⟨x2, rfl⟩
              go_wp2
              go_roundw
              case rel => exact ⟨k + 1, by omega, by go_num, Ha, (ht.trans0 tb).trans0 x2.t⟩
              case measure => simp [intOf]; omega
            · have q0 : (kd == 0) = false := by rw [beq_eq_false_iff_ne]; exact hk0
              have q0' : (kd != 0) = true := by rw [bne, q0]; rfl
              by_cases hkt : kd = c.typ
              · have Ha := Lib.hid (Hyes.out (by unfold fitC; rw [Hr.out]; simp [hkt]))
                have q1 : (kd == c.typ) = true := by rw [beq_iff_eq]; exact hkt
                have q1' : (kd != c.typ) = false := by rw [bne, q1]; rfl
                clear hk0 hkt
                go_wp2
                rw [← HW.out]
                refine wp_region_tw W (Touch.refl _ _) (by kernel_rfl) (by kernel_rfl) ?_
                repeat (go_big_quiet_step (((go_at_call 29; exact Calls.tw _ (Hright.out _)))))
                refine wpQuiet_nil ?_
                rintro _ ⟨x2, rfl⟩
                go_wp2
                go_roundw
                case rel => exact ⟨k + 1, by omega, by go_num, Ha, (ht.trans0 tb).trans0 x2.t⟩
                case measure => simp [intOf]; omega
              · have Hf := Lib.hid (Hno.out (by unfold fitC; rw [Hr.out]; simp [hkt, hk0]))
                have q1 : (kd == c.typ) = false := by rw [beq_eq_false_iff_ne]; exact hkt
                have q1' : (kd != c.typ) = true := by rw [bne, q1]; rfl
                clear hk0 hkt
                go_wp2
                rw [← HW.out]
                refine wp_region_tw W (Touch.refl _ _) (by kernel_rfl) (by kernel_rfl) ?_
                repeat (go_big_quiet_step (((go_at_call 29; exact Calls.tw _ (Hright.out _)))))
                refine wpQuiet_nil ?_
                rintro _ ⟨x2, rfl⟩
                go_wp2
                go_ret
                exact ⟨ret_bool (by rw [Hc0.out, Hf.out]), (ht.trans0 tb).trans0 x2.t⟩
        · obtain rfl : k = vs.length := by omega
          have hall := Hall.out
          rw [List.take_of_length_le (by rw [List.length_zipWith]; omega)] at hall
          have Hf := Lib.hid (show fitR cs vs = true by unfold fitR; rw [hall, decide_eq_true Hlen.out]; rfl)
          have hge : decide (vs.length < cs.length) = false := decide_eq_false (by have := Hlen.out; omega)
          clear hall Hall
          go_wp2
          go_ret
          exact ⟨ret_bool (by rw [Hc0.out, Hf.out]), ht⟩
    · have Hf := Lib.hid (show fitR cs vs = false by unfold fitR; rw [decide_eq_false hlen]; rfl)
      have hq : ((vs.length : Int) == (cs.length : Int)) = false := by rw [beq_eq_false_iff_ne]; omega
      have hq' : ((vs.length : Int) != (cs.length : Int)) = true := by rw [bne, hq]; rfl
      clear hlen
      go_enter Tryd.func25, Tryd.ntmps25
      go_wp2_with (go_at_call 19; refine Hchk.out.mono ?_; rintro e w1 ⟨rfl, t1⟩)
      go_ret
      exact ⟨ret_bool (by rw [Hc0.out, Hf.out]), t1⟩
  · have Hchk := Lib.hid hchk; have Hc0 := Lib.hid (show (decide (checkV cs = 0) && fitR cs vs) = false by rw [decide_eq_false hc0]; rfl)
    obtain ⟨E, hE⟩ : ∃ E, E = checkV cs := ⟨_, rfl⟩
    have HE := Lib.hid hE
    have hq : (E == 0) = false := by rw [beq_eq_false_iff_ne, hE]; exact hc0
    have hq' : (E != 0) = true := by rw [bne, hq]; rfl
    clear hchk hc0 hE
    go_enter Tryd.func25, Tryd.ntmps25
    go_wp2_with (go_at_call 19; refine Hchk.out.mono ?_; rintro e w1 ⟨rfl, t1⟩; rw [← HE.out])
    go_ret
    exact ⟨ret_bool (by rw [Hc0.out]), t1⟩
end Go.Proofs.YtngoiphknffplaaDoor
