/- slices.CompareFunc at rows of values, schema.CmpRows, bywashref02.CmpRows. For every rows. -/
import Derived.Test.YtngoiphknffplaaDoorSchCmp
namespace Go.Proofs.YtngoiphknffplaaDoor
open Go.RowKit

theorem cmpRV_step {l r : List VD} {k : Nat} (h1 : k < l.length) (h2 : k < r.length) : cmpRV (l.drop k) (r.drop k) = if cmpVV l[k] r[k] = 0 then cmpRV (l.drop (k + 1)) (r.drop (k + 1)) else cmpVV l[k] r[k] := by
  rw [List.drop_eq_getElem_cons h1, List.drop_eq_getElem_cons h2]; rfl
theorem cmpRV_end (l r : List VD) (h : l = [] ∨ r = []) : cmpRV l r = if l.length < r.length then -1 else if r.length < l.length then 1 else 0 := by
  rcases h with rfl | rfl
  · cases r <;> rfl
  · cases l <;> rfl

set_option maxRecDepth 20000 in
set_option maxHeartbeats 1600000 in
theorem compareFunc_any (A B : Option Addr) (c1 c2 n m : Nat) (l r : List VD) (hn : l.length = n) (hm : r.length = m) (w : World) (h : ValsAt w A l) (h2 : ValsAt w B r) (hl : n ≤ 140737000000000) (hl2 : m ≤ 140737000000000) :
    Calls Tryd.prog 47 #[.slice A n c1, .slice B m c2, .func (.func 48) #[] #[]] w fun e w' => e = .returned (.int .i64 (cmpRV l r)) ∧ Touch [] w w' := by
  subst hn hm
  go_enter Tryd.func47, Tryd.ntmps47
  go_wp2
  go_loopw [13] (fun i wr => ∃ k : Nat, k ≤ l.length ∧ k ≤ r.length ∧ i = .int .i64 k ∧ Hid (cmpRV l r = cmpRV (l.drop k) (r.drop k)) ∧ Touch [] w wr) (fun i _ => l.length - (intOf i).toNat)
  case atStart => exact ⟨0, by omega, by omega, rfl, Lib.hid rfl, Touch.refl _ _⟩
  case round =>
    obtain ⟨k, hka, hkb, rfl, Ho, ht⟩ := hrel
    by_cases h1 : k < l.length
    · obtain ⟨ad, b, off, rfl, hadd, c0, c1, c2⟩ := (h.touch0 ht).at_ k h1
      by_cases h2' : k < r.length
      · obtain ⟨bd, b2, off2, rfl, hadd2, d0, d1, d2⟩ := (h2.touch0 ht).at_ k h2'
        have hst := cmpRV_step h1 h2'
        obtain ⟨x, hx⟩ : ∃ x, x = l[k] := ⟨_, rfl⟩
        obtain ⟨y, hy⟩ : ∃ y, y = r[k] := ⟨_, rfl⟩
        rw [← hx, ← hy] at hst
        rw [← hx] at c0 c1 c2
        rw [← hy] at d0 d1 d2
        obtain ⟨k1, n1, s1⟩ := x
        obtain ⟨k2, n2, s2⟩ := y
        simp only at c0 c1 c2 d0 d1 d2
        have hcv := fun w' => cmpVal_any ⟨k1, n1, s1⟩ ⟨k2, n2, s2⟩ w'
        simp only [VD.val] at hcv
        obtain ⟨q, hq⟩ : ∃ q, q = cmpVV ⟨k1, n1, s1⟩ ⟨k2, n2, s2⟩ := ⟨_, rfl⟩
        rw [← hq] at hst hcv
        have Hcv := Lib.hid hcv
        have Hst := Lib.hid hst
        have ta := ((Touch.refl [] wr).alloc (.cells #[.int .i64 k1, .int .i64 n1, .string s1] 56))
        have e0 := ta.cell d0 (by simp)
        have e1 := ta.cell d1 (by simp)
        have e2 := ta.cell d2 (by simp)
        have hkI : (k : Int) < (r.length : Int) := by omega
        have h0I : (0 : Int) ≤ (k : Int) := by omega
        clear hst hcv hx hy hq d0 d1 d2 ta
        have tb := (ht.alloc (.cells #[.int .i64 k1, .int .i64 n1, .string s1] 56)).alloc (.cells #[.int .i64 k2, .int .i64 n2, .string s2] 56)
        by_cases h0 : q = 0
        · subst h0
          have Hq := Lib.hid (show cmpRV l r = cmpRV (l.drop (k + 1)) (r.drop (k + 1)) by rw [Ho.out, Hst.out, if_pos rfl])
          go_wp2_with fail
          refine (Hcv.out _).mono ?_
          rintro e w1 ⟨rfl, t1⟩
          go_wp2
          go_roundw
          case rel => exact ⟨k + 1, by omega, by omega, by go_num, Hq, tb.trans0 t1⟩
          case measure => simp [intOf]; omega
        · have Hq := Lib.hid (show cmpRV l r = q by rw [Ho.out, Hst.out, if_neg h0])
          have hq : (q == 0) = false := by rw [beq_eq_false_iff_ne]; exact h0
          have hq' : (q != 0) = true := by rw [bne, hq]; rfl
          go_wp2_with fail
          refine (Hcv.out _).mono ?_
          rintro e w1 ⟨rfl, t1⟩
          go_wp2
          go_ret
          exact ⟨ret_int Hq.out.symm, tb.trans0 t1⟩
      · have hE := cmpRV_end (l.drop k) (r.drop k) (.inr (List.drop_of_length_le (by omega)))
        rw [List.length_drop, List.length_drop] at hE
        have Hq := Lib.hid (show cmpRV l r = 1 by rw [Ho.out, hE, if_neg (by omega), if_pos (by omega)])
        obtain ⟨x, hx⟩ : ∃ x, x = l[k] := ⟨_, rfl⟩
        rw [← hx] at c0 c1 c2
        obtain rfl : k = r.length := by omega
        clear hE hx Ho
        go_wp2
        go_ret
        exact ⟨ret_int Hq.out.symm, ht.alloc _⟩
    · have hE := cmpRV_end (l.drop k) (r.drop k) (.inl (List.drop_of_length_le (by omega)))
      rw [List.length_drop, List.length_drop] at hE
      have HE := Lib.hid hE
      clear hE
      obtain rfl : k = l.length := by omega
      by_cases hq : l.length < r.length
      · have Hq := Lib.hid (show cmpRV l r = -1 by rw [Ho.out, HE.out, if_pos (by omega)])
        have hqI : (l.length : Int) < (r.length : Int) := by omega
        clear HE Ho
        go_wp2
        go_ret
        exact ⟨ret_int Hq.out.symm, ht⟩
      · have Hq := Lib.hid (show cmpRV l r = 0 by rw [Ho.out, HE.out, if_neg (by omega), if_neg (by omega)])
        have hqI : ¬ (l.length : Int) < (r.length : Int) := by omega
        clear HE Ho
        go_wp2
        go_ret
        exact ⟨ret_int Hq.out.symm, ht⟩

theorem cmpRows_any (A B : Option Addr) (c1 c2 n m : Nat) (l r : List VD) (hn : l.length = n) (hm : r.length = m) (w : World) (h : ValsAt w A l) (h2 : ValsAt w B r) (hl : n ≤ 140737000000000) (hl2 : m ≤ 140737000000000) :
    Calls Tryd.prog 30 #[.slice A n c1, .slice B m c2] w fun e w' => e = .returned (.int .i64 (cmpRV l r)) ∧ Touch [] w w' := by
  have hcf := compareFunc_any A B c1 c2 n m l r hn hm w h h2 hl hl2
  have Hcf := Lib.hid hcf
  clear hcf
  go_enter Tryd.func30, Tryd.ntmps30
  go_wp2_with fail
  refine Hcf.out.mono ?_
  rintro e w1 ⟨rfl, t1⟩
  go_wp2
  go_ret
  exact ⟨rfl, t1⟩

set_option maxRecDepth 20000 in
set_option maxHeartbeats 1600000 in
theorem refCmpRows_any (A B : Option Addr) (c1 c2 n m : Nat) (l r : List VD) (hn : l.length = n) (hm : r.length = m) (hok : ∀ v ∈ l, v.Ok 140737000000000) (hok2 : ∀ v ∈ r, v.Ok 140737000000000) (w : World) (h : ValsAt w A l) (h2 : ValsAt w B r) (hl : n ≤ 140737000000000) (hl2 : m ≤ 140737000000000) :
    Calls Tryd.prog 31 #[.slice A n c1, .slice B m c2] w fun e w' => e = .returned (.int .i64 (cmpRV l r)) ∧ Touch [] w w' := by
  subst hn hm
  go_enter Tryd.func31, Tryd.ntmps31
  go_wp2
  go_loopw [5] (fun i wr => ∃ k : Nat, k ≤ l.length ∧ k ≤ r.length ∧ i = .int .i64 k ∧ Hid (cmpRV l r = cmpRV (l.drop k) (r.drop k)) ∧ Touch [] w wr) (fun i _ => l.length - (intOf i).toNat)
  case atStart => exact ⟨0, by omega, by omega, rfl, Lib.hid rfl, Touch.refl _ _⟩
  case round =>
    obtain ⟨k, hka, hkb, rfl, Ho, ht⟩ := hrel
    by_cases hlt : k < l.length ∧ k < r.length
    · obtain ⟨h1, h2'⟩ := hlt
      obtain ⟨ad, b, off, rfl, hadd, c0, c1, c2⟩ := (h.touch0 ht).at_ k h1
      obtain ⟨bd, b2, off2, rfl, hadd2, d0, d1, d2⟩ := (h2.touch0 ht).at_ k h2'
      have hst := cmpRV_step h1 h2'
      have ho1 := hok _ (List.getElem_mem h1)
      have ho2 := hok2 _ (List.getElem_mem h2')
      obtain ⟨x, hx⟩ : ∃ x, x = l[k] := ⟨_, rfl⟩
      obtain ⟨y, hy⟩ : ∃ y, y = r[k] := ⟨_, rfl⟩
      rw [← hx, ← hy] at hst
      rw [← hx] at c0 c1 c2 ho1
      rw [← hy] at d0 d1 d2 ho2
      obtain ⟨k1, n1, s1⟩ := x
      obtain ⟨k2, n2, s2⟩ := y
      simp only at c0 c1 c2 d0 d1 d2
      have hcv := fun w' => refCmp_any ⟨k1, n1, s1⟩ ⟨k2, n2, s2⟩ (by have := ho1.t; simp only at this ⊢; omega) (by have := ho2.t; simp only at this ⊢; omega) w'
      simp only [VD.val] at hcv
      obtain ⟨q, hq⟩ : ∃ q, q = cmpVV ⟨k1, n1, s1⟩ ⟨k2, n2, s2⟩ := ⟨_, rfl⟩
      rw [← hq] at hst hcv
      have Hcv := Lib.hid hcv
      have Hst := Lib.hid hst
      have g0 := TW.cell c0
      have g1 := TW.cell c1
      have g2 := TW.cell c2
      have f0 := TW.cell d0
      have f1 := TW.cell d1
      have f2 := TW.cell d2
      have h1I : (k : Int) < (l.length : Int) := by omega
      have h2I : (k : Int) < (r.length : Int) := by omega
      have h0I : (0 : Int) ≤ (k : Int) := by omega
      clear hst hcv hx hy hq c0 c1 c2 d0 d1 d2 ho1 ho2
      by_cases h0 : q = 0
      · subst h0
        have Hq := Lib.hid (show cmpRV l r = cmpRV (l.drop (k + 1)) (r.drop (k + 1)) by rw [Ho.out, Hst.out, if_pos rfl])
        go_wp2
        refine wp_region_tw wr (Touch.refl _ _) (by kernel_rfl) (by kernel_rfl) ?_
        repeat (go_big_quiet_step (((go_at_call 49; exact Calls.tw _ (Hcv.out _)))))
        refine wpQuiet_nil ?_
        rintro _ ⟨x2, rfl⟩
        go_wp2
        go_roundw
        case rel => exact ⟨k + 1, by omega, by omega, by go_num, Hq, ht.trans0 x2.t⟩
        case measure => simp [intOf]; omega
      · have Hq := Lib.hid (show cmpRV l r = q by rw [Ho.out, Hst.out, if_neg h0])
        have hq : (q == 0) = false := by rw [beq_eq_false_iff_ne]; exact h0
        have hq' : (q != 0) = true := by rw [bne, hq]; rfl
        go_wp2
        refine wp_region_tw wr (Touch.refl _ _) (by kernel_rfl) (by kernel_rfl) ?_
        repeat (go_big_quiet_step (((go_at_call 49; exact Calls.tw _ (Hcv.out _)))))
        refine wpQuiet_nil ?_
        rintro _ ⟨x2, rfl⟩
        go_wp2
        go_ret
        exact ⟨ret_int Hq.out.symm, ht.trans0 x2.t⟩
    · have hE := cmpRV_end (l.drop k) (r.drop k) (by
        rcases (show l.length ≤ k ∨ r.length ≤ k by omega) with e | e
        · exact .inl (List.drop_of_length_le e)
        · exact .inr (List.drop_of_length_le e))
      rw [List.length_drop, List.length_drop] at hE
      have HE := Lib.hid hE
      clear hE
      rcases Nat.lt_trichotomy l.length r.length with hq | hq | hq
      · have Hq := Lib.hid (show cmpRV l r = -1 by rw [Ho.out, HE.out, if_pos (by omega)])
        obtain rfl : k = l.length := by omega
        have hqI : (l.length : Int) < (r.length : Int) := by omega
        clear HE Ho hlt
        go_wp2
        go_ret
        exact ⟨ret_int Hq.out.symm, ht⟩
      · have Hq := Lib.hid (show cmpRV l r = 0 by rw [Ho.out, HE.out, if_neg (by omega), if_neg (by omega)])
        obtain rfl : k = l.length := by omega
        clear HE Ho hlt
        go_wp2
        go_ret
        exact ⟨ret_int Hq.out.symm, ht⟩
      · have Hq := Lib.hid (show cmpRV l r = 1 by rw [Ho.out, HE.out, if_neg (by omega), if_pos (by omega)])
        obtain rfl : k = r.length := by omega
        have hqI : (r.length : Int) < (l.length : Int) := by omega
        clear HE Ho hlt
        go_wp2
        go_ret
        exact ⟨ret_int Hq.out.symm, ht⟩
end Go.Proofs.YtngoiphknffplaaDoor
