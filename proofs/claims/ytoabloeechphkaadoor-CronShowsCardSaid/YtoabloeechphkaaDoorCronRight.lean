/- bywashref10.Low, High, Right: a field is right as the document says just if the program says so. -/
import Derived.Test.YtoabloeechphkaaDoorCronRef
import Derived.Test.YtoabloeechphkaaDoorCronMatch
namespace Go.Proofs.YtoabloeechphkaaDoor
open Go.RowKit

/-- a field of the document, cell by cell -/
def fldC (s : Nat) (any : Bool) : List Value := (List.range 65).map fun i => Value.bool (if i = 64 then any else s.testBit i)
theorem fldC_length (s : Nat) (any : Bool) : (fldC s any).length = 65 := by simp [fldC]
theorem fldC_bit (s : Nat) (any : Bool) (n : Nat) (hn : n < 64) : (fldC s any)[n]? = some (.bool (s.testBit n)) := by
  unfold fldC
  rw [List.getElem?_map, List.getElem?_range (by omega), Option.map_some, if_neg (by omega)]
theorem fldC_any (s : Nat) (any : Bool) : (fldC s any)[64]? = some (.bool any) := by
  unfold fldC
  rw [List.getElem?_map, List.getElem?_range (by omega)]; rfl
theorem fldC_ref (c : SD) (f : Nat) (hf : f < 5) (j : Nat) (v : Value) (h : (fldC (c.set f) (c.any f))[j]? = some v) : (refC c)[f * 65 + j]? = some v := by
  have hj : j < 65 := by have := (List.getElem?_eq_some_iff.1 h).1; rwa [fldC_length] at this
  rw [refC_get c _ (by omega)]
  by_cases h64 : j = 64
  · subst h64
    rw [fldC_any] at h
    rw [refAt_any]; exact h
  · rw [fldC_bit _ _ _ (by omega)] at h
    rw [refAt_bit c f j (by omega)]; exact h

/-- is a number wrong in a field? -/
def badN (f s : Nat) (any : Bool) (n : Nat) : Bool := (s.testBit n && !(decide (loF f ≤ n) && decide (n ≤ hiF f))) || (any && ((decide (loF f ≤ n) && decide (n ≤ hiF f)) && !s.testBit n))
theorem notF_bit (f n : Nat) (hn : n < 64) : (18446744073709551615 - fullV f).testBit n = !(fullV f).testBit n := by
  have h := Nat.testBit_two_pow_sub_succ (show fullV f < 2 ^ 64 from fullV_lt f) n
  have e : 2 ^ 64 - (fullV f + 1) = 18446744073709551615 - fullV f := by omega
  rw [e] at h
  rw [h]; simp [hn]
theorem fld_bad {f s n : Nat} {any : Bool} (hn : n < 64) (h : badN f s any n = true) : fldR f s any = false := by
  have hf := fullV_bit f n hn
  have hnf := notF_bit f n hn
  rw [hf] at hnf
  unfold badN at h
  unfold fldR
  rw [Bool.or_eq_true] at h
  rcases h with h | h
  · rw [Bool.and_eq_true] at h
    have : ¬ s &&& (18446744073709551615 - fullV f) = 0 := fun e => by
      have e2 := congrArg (fun x => Nat.testBit x n) e
      simp only [Nat.testBit_and, Nat.zero_testBit] at e2
      rw [hnf, h.1, h.2] at e2
      cases e2
    rw [decide_eq_false this]; simp
  · rw [Bool.and_eq_true, Bool.and_eq_true] at h
    have : ¬ s = fullV f := fun e => by
      rw [← e] at hf
      rw [h.2.1] at hf
      have := h.2.2
      rw [hf] at this
      cases this
    rw [decide_eq_false this, h.1]; simp
theorem fld_good {f s : Nat} {any : Bool} (hs : s < 18446744073709551616) (h : ∀ n, n < 64 → badN f s any n = false) : fldR f s any = !decide (s = 0) := by
  have h1 : s &&& (18446744073709551615 - fullV f) = 0 := by
    refine bits_ext (Nat.lt_of_le_of_lt Nat.and_le_left hs) (by omega) fun j hj => ?_
    have hb := h j hj
    unfold badN at hb
    rw [Bool.or_eq_false_iff] at hb
    rw [Nat.testBit_and, notF_bit f j hj, fullV_bit f j hj, Nat.zero_testBit]
    exact hb.1
  have h2 : any = true → s = fullV f := fun ha => bits_ext hs (fullV_lt f) fun j hj => by
    have hb := h j hj
    unfold badN at hb
    rw [Bool.or_eq_false_iff, ha] at hb
    rw [fullV_bit f j hj]
    obtain ⟨b1, b2⟩ := hb
    revert b1 b2
    cases s.testBit j <;> cases (decide (loF f ≤ j) && decide (j ≤ hiF f)) <;> simp
  unfold fldR
  rw [decide_eq_true h1]
  cases any with
  | false => simp
  | true => rw [decide_eq_true (h2 rfl)]; simp
theorem bits_zero {s : Nat} (hs : s < 18446744073709551616) : s = 0 ↔ ∀ j, j < 64 → s.testBit j = false :=
  ⟨fun h j _ => by rw [h]; exact Nat.zero_testBit j, fun h => bits_ext hs (by omega) fun j hj => by rw [h j hj, Nat.zero_testBit]⟩

set_option maxHeartbeats 400000 in
theorem low_any (f : Nat) (hf : f < 5) (w : World) : Calls Tryd.prog 27 #[.int .i64 f] w fun e w' => e = .returned (.int .i64 (loF f : Nat)) ∧ w = w' := by
  have : f = 0 ∨ f = 1 ∨ f = 2 ∨ f = 3 ∨ f = 4 := by omega
  clear hf
  go_enter Tryd.func27, Tryd.ntmps27
  rcases this with rfl | rfl | rfl | rfl | rfl
  all_goals
    go_wp2_with fail
    go_ret
    exact ⟨rfl, rfl⟩
set_option maxHeartbeats 400000 in
theorem high_any (f : Nat) (hf : f < 5) (w : World) : Calls Tryd.prog 28 #[.int .i64 f] w fun e w' => e = .returned (.int .i64 (hiF f : Nat)) ∧ Touch [] w w' := by
  have : f = 0 ∨ f = 1 ∨ f = 2 ∨ f = 3 ∨ f = 4 := by omega
  clear hf
  go_enter Tryd.func28, Tryd.ntmps28
  rcases this with rfl | rfl | rfl | rfl | rfl
  all_goals
    go_wp2_with fail
    go_ret
    exact ⟨rfl, (Touch.refl [] w).alloc _⟩

set_option maxRecDepth 100000 in
set_option maxHeartbeats 6400000 in
theorem right_any (f : Nat) (hf : f < 5) (s : Nat) (hs : s < 18446744073709551616) (any : Bool) (w : World) :
    Calls Tryd.prog 30 #[.int .i64 f, .agg (fldC s any).toArray] w fun e w' => e = .returned (.bool (fldR f s any)) ∧ Touch [] w w' := by
  have t0 := (Touch.refl [] w).alloc (.cells (fldC s any).toArray 33)
  have hb := heap_alloc_new w (.cells (fldC s any).toArray 33)
  obtain ⟨W, hW⟩ : ∃ W, W = w.alloc (.cells (fldC s any).toArray 33) := ⟨_, rfl⟩
  rw [← hW] at t0 hb
  have HW := Lib.hid hW; have HB := Lib.hid hb
  clear hW hb
  have hlo := loF_lt f
  have hhi := hiF_lt f
  have HL := Lib.hid (low_any f hf)
  have HH := Lib.hid (high_any f hf)
  go_enter Tryd.func30, Tryd.ntmps30
  go_wp2_with fail
  rw [← HW.out]
  go_loopw [5, 6] (fun cnt i wr => ∃ (n : Nat) (k : Int), n ≤ 64 ∧ 0 ≤ k ∧ k ≤ n ∧ i = .int .i64 n ∧ cnt = .int .i64 k ∧ Hid (∀ j, j < n → badN f s any j = false) ∧ Hid (0 < k ↔ ∃ j, j < n ∧ s.testBit j = true) ∧ Touch [] W wr) (fun _ i _ => 64 - (intOf i).toNat)
  case atStart => exact ⟨0, 0, by omega, by omega, by omega, rfl, rfl, Lib.hid (fun j h => by omega), Lib.hid ⟨fun h => by omega, fun ⟨j, h, _⟩ => by omega⟩, Touch.refl _ _⟩
  case round =>
    obtain ⟨n, k, hn, hk0, hk1, rfl, rfl, hgood, hcnt, ht⟩ := hrel
    by_cases hlt : n < 64
    · have hbk := ht.blk HB.out (by simp)
      have c1 : wr.cell? ⟨w.heap.size, n, none⟩ = some (.bool (s.testBit n)) := cell_blk hbk (by rw [List.getElem?_toArray]; exact fldC_bit s any n hlt)
      have c2 : wr.cell? ⟨w.heap.size, 64, none⟩ = some (.bool any) := cell_blk hbk (by rw [List.getElem?_toArray]; exact fldC_any s any)
      have hbad : badN f s any n = ((s.testBit n && !(decide (loF f ≤ n) && decide (n ≤ hiF f))) || (any && ((decide (loF f ≤ n) && decide (n ≤ hiF f)) && !s.testBit n))) := rfl
      have hno := fun (h : badN f s any n = true) => fld_bad hlt h
      have hyes : badN f s any n = false → ∀ j, j < n + 1 → badN f s any j = false := fun h j hj => by
        rcases Nat.lt_or_ge j n with h2 | h2
        · exact hgood.out j h2
        · obtain rfl : j = n := by omega
          exact h
      obtain ⟨b, hbq⟩ : ∃ b, b = s.testBit n := ⟨_, rfl⟩
      rw [← hbq] at c1 hbad
      have hcy : b = true → (0 < k + 1 ↔ ∃ j, j < n + 1 ∧ s.testBit j = true) := fun h => ⟨fun _ => ⟨n, by omega, by rw [← hbq]; exact h⟩, fun _ => by omega⟩
      have hcn : b = false → (0 < k ↔ ∃ j, j < n + 1 ∧ s.testBit j = true) := fun h => ⟨fun h2 => by obtain ⟨j, h3, h4⟩ := hcnt.out.1 h2; exact ⟨j, by omega, h4⟩, fun ⟨j, h3, h4⟩ => hcnt.out.2 (by
        rcases Nat.lt_or_ge j n with h5 | h5
        · exact ⟨j, h5, h4⟩
        · obtain rfl : j = n := by omega
          rw [← hbq, h] at h4; cases h4)⟩
      have Hno := Lib.hid hno; have Hyes := Lib.hid hyes; have Hcy := Lib.hid hcy; have Hcn := Lib.hid hcn; have Hbad := Lib.hid hbad
      have Hbq := Lib.hid hbq
      have n0 : (0 : Int) ≤ (n : Int) := by omega
      have n1 : (n : Int) < 64 := by omega
      have C1 := Lib.hid c1; have C2 := Lib.hid c2
      clear hbk hbad hno hyes hbq hcy hcn hgood hcnt
      by_cases i1 : loF f ≤ n
      · by_cases i2 : n ≤ hiF f
        · go_wp2_with fail
          refine (HL.out _).mono ?_
          rintro e w1 ⟨rfl, rfl⟩
          go_wp2_with fail
          refine (HH.out _).mono ?_
          rintro e w2 ⟨rfl, t2⟩
          have d1 := t2.cell C1.out (by simp)
          have d2 := t2.cell C2.out (by simp)
          clear c1 c2
          rcases b with _ | _
          · rcases any with _ | _
            · have Hg := Lib.hid (Hyes.out (by rw [Hbad.out, decide_eq_true i1, decide_eq_true i2]; rfl))
              go_wp2_with fail
              go_roundw
              case rel => exact ⟨n + 1, k, by omega, by omega, by omega, by go_num, rfl, Hg, Lib.hid (Hcn.out (by first | rfl | trivial)), ht.trans0 t2⟩
              case measure => simp [intOf]; omega
            · have Hf := Lib.hid (Hno.out (by rw [Hbad.out, decide_eq_true i1, decide_eq_true i2]; rfl))
              go_wp2_with fail
              go_ret
              exact ⟨ret_bool (by rw [Hf.out]), (t0.trans0 ht).trans0 t2⟩
          · rcases any with _ | _
            · have Hg := Lib.hid (Hyes.out (by rw [Hbad.out, decide_eq_true i1, decide_eq_true i2]; rfl))
              go_wp2_with fail
              go_roundw
              case rel => exact ⟨n + 1, k + 1, by omega, by omega, by omega, by go_num, rfl, Hg, Lib.hid (Hcy.out (by first | rfl | trivial)), ht.trans0 t2⟩
              case measure => simp [intOf]; omega
            · have Hg := Lib.hid (Hyes.out (by rw [Hbad.out, decide_eq_true i1, decide_eq_true i2]; rfl))
              go_wp2_with fail
              go_roundw
              case rel => exact ⟨n + 1, k + 1, by omega, by omega, by omega, by go_num, rfl, Hg, Lib.hid (Hcy.out (by first | rfl | trivial)), ht.trans0 t2⟩
              case measure => simp [intOf]; omega
        · go_wp2_with fail
          refine (HL.out _).mono ?_
          rintro e w1 ⟨rfl, rfl⟩
          go_wp2_with fail
          refine (HH.out _).mono ?_
          rintro e w2 ⟨rfl, t2⟩
          have d1 := t2.cell C1.out (by simp)
          have d2 := t2.cell C2.out (by simp)
          clear c1 c2
          rcases b with _ | _
          · rcases any with _ | _
            · have Hg := Lib.hid (Hyes.out (by rw [Hbad.out, decide_eq_true i1, decide_eq_false i2]; rfl))
              go_wp2_with fail
              go_roundw
              case rel => exact ⟨n + 1, k, by omega, by omega, by omega, by go_num, rfl, Hg, Lib.hid (Hcn.out (by first | rfl | trivial)), ht.trans0 t2⟩
              case measure => simp [intOf]; omega
            · have Hg := Lib.hid (Hyes.out (by rw [Hbad.out, decide_eq_true i1, decide_eq_false i2]; rfl))
              go_wp2_with fail
              go_roundw
              case rel => exact ⟨n + 1, k, by omega, by omega, by omega, by go_num, rfl, Hg, Lib.hid (Hcn.out (by first | rfl | trivial)), ht.trans0 t2⟩
              case measure => simp [intOf]; omega
          · rcases any with _ | _
            · have Hf := Lib.hid (Hno.out (by rw [Hbad.out, decide_eq_true i1, decide_eq_false i2]; rfl))
              go_wp2_with fail
              go_ret
              exact ⟨ret_bool (by rw [Hf.out]), (t0.trans0 ht).trans0 t2⟩
            · have Hf := Lib.hid (Hno.out (by rw [Hbad.out, decide_eq_true i1, decide_eq_false i2]; rfl))
              go_wp2_with fail
              go_ret
              exact ⟨ret_bool (by rw [Hf.out]), (t0.trans0 ht).trans0 t2⟩
      · go_wp2_with fail
        refine (HL.out _).mono ?_
        rintro e w1 ⟨rfl, rfl⟩
        rcases b with _ | _
        · rcases any with _ | _
          · have Hg := Lib.hid (Hyes.out (by rw [Hbad.out, decide_eq_false i1]; rfl))
            go_wp2_with fail
            go_roundw
            case rel => exact ⟨n + 1, k, by omega, by omega, by omega, by go_num, rfl, Hg, Lib.hid (Hcn.out (by first | rfl | trivial)), ht⟩
            case measure => simp [intOf]; omega
          · have Hg := Lib.hid (Hyes.out (by rw [Hbad.out, decide_eq_false i1]; rfl))
            go_wp2_with fail
            go_roundw
            case rel => exact ⟨n + 1, k, by omega, by omega, by omega, by go_num, rfl, Hg, Lib.hid (Hcn.out (by first | rfl | trivial)), ht⟩
            case measure => simp [intOf]; omega
        · rcases any with _ | _
          · have Hf := Lib.hid (Hno.out (by rw [Hbad.out, decide_eq_false i1]; rfl))
            go_wp2_with fail
            go_ret
            exact ⟨ret_bool (by rw [Hf.out]), (t0.trans0 ht)⟩
          · have Hf := Lib.hid (Hno.out (by rw [Hbad.out, decide_eq_false i1]; rfl))
            go_wp2_with fail
            go_ret
            exact ⟨ret_bool (by rw [Hf.out]), (t0.trans0 ht)⟩
    · obtain rfl : n = 64 := by omega
      have hg := fld_good hs hgood.out
      have hz := bits_zero hs
      by_cases hk : 0 < k
      · have hne : ¬ s = 0 := fun e => by
          obtain ⟨j, h1, h2⟩ := hcnt.out.1 hk
          rw [hz.1 e j h1] at h2; cases h2
        rw [decide_eq_false hne] at hg
        have Hg := Lib.hid hg
        clear hg hz hne
        go_wp2_with fail
        go_ret
        exact ⟨ret_bool (by rw [Hg.out]; rfl), t0.trans0 ht⟩
      · have he : s = 0 := hz.2 fun j hj => by
          rcases hb : s.testBit j with _ | _
          · rfl
          · exact absurd (hcnt.out.2 ⟨j, hj, hb⟩) hk
        rw [decide_eq_true he] at hg
        have Hg := Lib.hid hg
        clear hg hz he
        go_wp2_with fail
        go_ret
        exact ⟨ret_bool (by rw [Hg.out]; rfl), t0.trans0 ht⟩
end Go.Proofs.YtoabloeechphkaaDoor
