/- Part 24 of the texts of this proof, one behind the other; each begins with its own sentence. No condition beyond those that its theorems state. -/
import Derived.Test.YtafoklilkdnepaaGreatDoorRu23
import Derived.Deep.DrawnRows
/- value.Arith and what it calls: two values reckoned. For all. -/
namespace Go.Proofs.YtafoklilkdnepaaGreatDoor
open Go.RowKit

def productV (a b : Int) : Int × Bool :=
 if a = 0 ∨ b = 0 then (0, true)
 else if a = -1 ∧ b = -9223372036854775808 ∨ b = -1 ∧ a = -9223372036854775808 then (0, false)
 else (wrap64 (a * b), wrap64 ((wrap64 (a * b)).tdiv b) == a)
def reckonV (o a b : Int) : Int × Bool :=
 if o = 43 then (wrap64 (a + b), (decide (a < wrap64 (a + b)) == decide (0 < b)) || b == 0)
 else if o = 45 then (wrap64 (a - b), (decide (wrap64 (a - b) < a) == decide (0 < b)) || b == 0)
 else if o = 42 then productV a b
 else if o = 47 then (wrap64 (a.tdiv b), a != -9223372036854775808 || b != -1)
 else if b = -1 then (0, true) else (a.tmod b, true)
def arithV (o : Int) (a b : VD) : VD × Int :=
 if o ≠ 43 ∧ o ≠ 45 ∧ o ≠ 42 ∧ o ≠ 47 ∧ o ≠ 37 then (zeroV, 20)
 else if a.kind = 2 ∨ b.kind = 2 then (zeroV, 12)
 else if a.kind = 0 ∨ b.kind = 0 then (zeroV, 0)
 else if b.num = 0 ∧ (o = 47 ∨ o = 37) then (zeroV, 11)
 else if (reckonV o a.num b.num).2 = true then (ofV (reckonV o a.num b.num).1, 0) else (zeroV, 10)

set_option maxRecDepth 20000 in
set_option maxHeartbeats 800000 in
theorem product_any (a b : Int) (w : World) :
  Calls Tryz.prog 205 #[.int .i64 a, .int .i64 b] w fun e w' => e = .returned (.tuple #[.int .i64 (productV a b).1, .bool (productV a b).2]) ∧ Touch [] w w' := by
 by_cases h0 : a = 0 ∨ b = 0
 ·have hp : productV a b = (0, true) := by unfold productV; rw [if_pos h0]
  have Hp := Lib.hid hp
  clear hp
  by_cases ha : a = 0
  ·subst ha
   go_enter Tryz.func205, Tryz.ntmps205
   go_wp2_with fail
   go_ret2
   exact ⟨by rw [Hp.out]; rfl, Touch.refl _ _⟩
  ·have hb : b = 0 := h0.resolve_left ha
   have qa : (a == 0) = false := by simpa using ha
   subst hb
   clear h0 ha
   go_enter Tryz.func205, Tryz.ntmps205
   go_wp2_with fail
   go_ret2
   exact ⟨by rw [Hp.out]; rfl, Touch.refl _ _⟩
 have ha0 : a ≠ 0 := fun h => h0 (.inl h)
 have hb0 : b ≠ 0 := fun h => h0 (.inr h)
 have qa : (a == 0) = false := by simpa using ha0
 have qb : (b == 0) = false := by simpa using hb0
 by_cases h1 : a = -1 ∧ b = -9223372036854775808 ∨ b = -1 ∧ a = -9223372036854775808
 ·have Hp := Lib.hid (show productV a b = (0, false) by unfold productV; rw [if_neg h0, if_pos h1])
  clear ha0 hb0 qa qb h0
  rcases h1 with ⟨rfl, rfl⟩ | ⟨rfl, rfl⟩
  ·go_enter Tryz.func205, Tryz.ntmps205
   go_wp2_with fail
   go_ret2
   exact ⟨by rw [Hp.out]; rfl, Touch.refl _ _⟩
  ·go_enter Tryz.func205, Tryz.ntmps205
   go_wp2_with fail
   go_ret2
   exact ⟨by rw [Hp.out]; rfl, Touch.refl _ _⟩
 ·have Hp := Lib.hid (show productV a b = (wrap64 (a * b), wrap64 ((wrap64 (a * b)).tdiv b) == a) by unfold productV; rw [if_neg h0, if_neg h1])
  have hnot : ((a == -1 && b == -9223372036854775808) || (b == -1 && a == -9223372036854775808)) = false := by
   rw [Bool.eq_false_iff]
   intro h
   simp only [Bool.or_eq_true, Bool.and_eq_true, beq_iff_eq] at h
   exact h1 h
  have key : ∀ (W : World), Touch [] w W → True := fun _ _ => trivial
  clear h0 h1 ha0 key
  rcases e1 : (a == -1) with _ | _ <;> rcases e2 : (b == -9223372036854775808) with _ | _ <;> rcases e3 : (b == -1) with _ | _ <;> rcases e4 : (a == -9223372036854775808) with _ | _ <;> (try (exfalso; simp [e1, e2, e3, e4] at hnot; done))
  all_goals
   clear hnot
   go_enter Tryz.func205, Tryz.ntmps205
   go_wp2_with fail
   refine wp_region_tw w (Touch.refl _ _) (by kernel_rfl) (by kernel_rfl) ?_
   repeat (go_big_quiet_step (fail))
   refine wpQuiet_nil ?_
   rintro _ ⟨y, rfl⟩
   go_wp2
   go_ret2
   exact ⟨by rw [Hp.out]; rfl, y.t⟩

set_option maxRecDepth 20000 in
set_option maxHeartbeats 800000 in
theorem reckon_any (o a b : Int) (hb : o = 47 ∨ o = 37 → b ≠ 0) (ho : o = 43 ∨ o = 45 ∨ o = 42 ∨ o = 47 ∨ o = 37) (w : World) :
  Calls Tryz.prog 188 #[.int .u8 o, .int .i64 a, .int .i64 b] w fun e w' => e = .returned (.tuple #[.int .i64 (reckonV o a b).1, .bool (reckonV o a b).2]) ∧ Touch [] w w' := by
 rcases ho with rfl | rfl | rfl | rfl | rfl
 ·clear hb
  go_enter Tryz.func188, Tryz.ntmps188
  go_wp2_with fail
  all_goals
   go_ret2
   refine ⟨?_, Touch.refl _ _⟩
   simp [reckonV, *]
 ·clear hb
  go_enter Tryz.func188, Tryz.ntmps188
  go_wp2_with fail
  all_goals
   go_ret2
   refine ⟨?_, Touch.refl _ _⟩
   simp [reckonV, *]
 ·have Hp := Lib.hid fun w' => product_any a b w'
  have hr : reckonV 42 a b = productV a b := by simp [reckonV]
  have Hr := Lib.hid hr
  clear hb hr
  go_enter Tryz.func188, Tryz.ntmps188
  go_wp2_with fail
  refine (Hp.out _).mono ?_
  rintro e w1 ⟨rfl, t1⟩
  go_wp2_with fail
  go_ret2
  exact ⟨by rw [Hr.out]; rfl, t1⟩
 ·have hb0 := hb (.inl rfl)
  have qb : (b == 0) = false := by simpa using hb0
  clear hb
  go_enter Tryz.func188, Tryz.ntmps188
  go_wp2_with fail
  all_goals
   go_ret2
   refine ⟨?_, Touch.refl _ _⟩
   simp [reckonV, *]
 ·have hb0 := hb (.inr rfl)
  have qb : (b == 0) = false := by simpa using hb0
  clear hb
  by_cases h1 : b = -1
  ·subst h1
   go_enter Tryz.func188, Tryz.ntmps188
   go_wp2_with fail
   all_goals
    go_ret2
    refine ⟨?_, Touch.refl _ _⟩
    simp [reckonV]
  ·have q1 : (b == -1) = false := by simpa using h1
   go_enter Tryz.func188, Tryz.ntmps188
   go_wp2_with fail
   all_goals
    go_ret2
    refine ⟨?_, Touch.refl _ _⟩
    simp [reckonV, h1]

theorem idx_ops {o : Int} (ho : o = 43 ∨ o = 45 ∨ o = 42 ∨ o = 47 ∨ o = 37) : ∃ n : Nat, Lib.indexByte (S [43, 45, 42, 47, 37]).data.toList o.toNat.toUInt8 = (n : Int) := by
 rcases ho with rfl | rfl | rfl | rfl | rfl
 ·exact ⟨0, by decide +kernel⟩
 ·exact ⟨1, by decide +kernel⟩
 ·exact ⟨2, by decide +kernel⟩
 ·exact ⟨3, by decide +kernel⟩
 ·exact ⟨4, by decide +kernel⟩

set_option maxRecDepth 20000 in
set_option maxHeartbeats 3200000 in
theorem arith_any (o : Int) (ho : o = 43 ∨ o = 45 ∨ o = 42 ∨ o = 47 ∨ o = 37) (a b : VD) (w : World) :
  Calls Tryz.prog 153 #[.int .u8 o, a.val, b.val] w fun e w' => e = .returned (.tuple #[(arithV o a b).1.val, .int .i64 (arithV o a b).2]) ∧ Touch [] w w' := by
 obtain ⟨k1, n1, s1⟩ := a
 obtain ⟨k2, n2, s2⟩ := b
 dsimp only [VD.val]
 have t0 := (((Touch.refl [] w).alloc (.cells #[.int .i64 k1, .int .i64 n1, .string s1] 31)).alloc (.cells #[.int .i64 k2, .int .i64 n2, .string s2] 31)).alloc (.cells #[.int .i64 0, .int .i64 0, .string ⟨#[]⟩] 31)
 have hb1 := (((Touch.refl [] (w.alloc (.cells #[.int .i64 k1, .int .i64 n1, .string s1] 31))).alloc (.cells #[.int .i64 k2, .int .i64 n2, .string s2] 31)).alloc (.cells #[.int .i64 0, .int .i64 0, .string ⟨#[]⟩] 31)).blk (heap_alloc_new w (.cells #[.int .i64 k1, .int .i64 n1, .string s1] 31)) (by simp)
 have hb2 := ((Touch.refl [] ((w.alloc (.cells #[.int .i64 k1, .int .i64 n1, .string s1] 31)).alloc (.cells #[.int .i64 k2, .int .i64 n2, .string s2] 31))).alloc (.cells #[.int .i64 0, .int .i64 0, .string ⟨#[]⟩] 31)).blk (heap_alloc_new (w.alloc (.cells #[.int .i64 k1, .int .i64 n1, .string s1] 31)) (.cells #[.int .i64 k2, .int .i64 n2, .string s2] 31)) (by simp)
 have hbr := heap_alloc_new ((w.alloc (.cells #[.int .i64 k1, .int .i64 n1, .string s1] 31)).alloc (.cells #[.int .i64 k2, .int .i64 n2, .string s2] 31)) (.cells #[.int .i64 0, .int .i64 0, .string ⟨#[]⟩] 31)
 simp only [World.size_alloc] at hb2 hbr
 obtain ⟨W, hW⟩ : ∃ W, W = ((w.alloc (.cells #[.int .i64 k1, .int .i64 n1, .string s1] 31)).alloc (.cells #[.int .i64 k2, .int .i64 n2, .string s2] 31)).alloc (.cells #[.int .i64 0, .int .i64 0, .string ⟨#[]⟩] 31) := ⟨_, rfl⟩
 rw [← hW] at hb1 hb2 hbr t0
 have HW := Lib.hid hW; have Hb1 := Lib.hid hb1; have Hb2 := Lib.hid hb2; have Hbr := Lib.hid hbr; have T0 := Lib.hid t0
 have Hnull := Lib.hid fun w' => vnull_any w'
 have Hof := Lib.hid fun n w' => of_any n w'
 simp only [VD.val, zeroV, ofV, S] at Hnull Hof
 clear hW hb1 hb2 hbr t0
 have hib := fun w' => Tryz.strings_IndexByte (S [43, 45, 42, 47, 37]) o w'
 obtain ⟨ix, hix⟩ := idx_ops ho
 rw [hix] at hib
 have Hib := Lib.hid hib
 have hno : ¬ (o ≠ 43 ∧ o ≠ 45 ∧ o ≠ 42 ∧ o ≠ 47 ∧ o ≠ 37) := by omega
 clear hix hib
 by_cases h1 : k1 = 2
 ·have Hf := Lib.hid (show arithV o ⟨k1, n1, s1⟩ ⟨k2, n2, s2⟩ = (zeroV, 12) by unfold arithV; rw [if_neg hno, if_pos (.inl h1)])
  subst h1
  go_enter Tryz.func153, Tryz.ntmps153
  go_wp2_with fail
  rw [← HW.out]
  refine (Hib.out _).mono ?_
  rintro e w' ⟨rfl, rfl⟩
  obtain ⟨a0, a1, a2, _⟩ := blk3x Hb1.out
  obtain ⟨b0, b1, b2, _⟩ := blk3x Hb2.out
  have hbr0 := Hbr.out
  obtain ⟨r0, r1, r2, f0, f1, f2⟩ := blk3x Hbr.out
  go_wp2_with fail
  obtain ⟨q1, q2⟩ := out3 Hbr.out (.int .i64 0) (.int .i64 0) (.string ⟨#[]⟩)
  obtain ⟨d0, d1, d2, _⟩ := blk3x q1
  refine bodyPost_ret (v := .tuple #[.agg #[.int .i64 0, .int .i64 0, .string ⟨#[]⟩], .int .i64 (12)]) (by simp [results, Tryz.results153, go_sem, d0, d1, d2]) rfl ⟨?_, T0.out.trans q2 (fun b hb => .inr (by simp at hb; omega))⟩
  rw [Hf.out]; rfl
 have q1 : (k1 == 2) = false := by simpa using h1
 by_cases h2 : k2 = 2
 ·have Hf := Lib.hid (show arithV o ⟨k1, n1, s1⟩ ⟨k2, n2, s2⟩ = (zeroV, 12) by unfold arithV; rw [if_neg hno, if_pos (.inr h2)])
  subst h2
  go_enter Tryz.func153, Tryz.ntmps153
  go_wp2_with fail
  rw [← HW.out]
  refine (Hib.out _).mono ?_
  rintro e w' ⟨rfl, rfl⟩
  obtain ⟨a0, a1, a2, _⟩ := blk3x Hb1.out
  obtain ⟨b0, b1, b2, _⟩ := blk3x Hb2.out
  have hbr0 := Hbr.out
  obtain ⟨r0, r1, r2, f0, f1, f2⟩ := blk3x Hbr.out
  go_wp2_with fail
  obtain ⟨q1, q2⟩ := out3 Hbr.out (.int .i64 0) (.int .i64 0) (.string ⟨#[]⟩)
  obtain ⟨d0, d1, d2, _⟩ := blk3x q1
  refine bodyPost_ret (v := .tuple #[.agg #[.int .i64 0, .int .i64 0, .string ⟨#[]⟩], .int .i64 (12)]) (by simp [results, Tryz.results153, go_sem, d0, d1, d2]) rfl ⟨?_, T0.out.trans q2 (fun b hb => .inr (by simp at hb; omega))⟩
  rw [Hf.out]; rfl
 have q2' : (k2 == 2) = false := by simpa using h2
 by_cases h3 : k1 = 0
 ·have Hf := Lib.hid (show arithV o ⟨k1, n1, s1⟩ ⟨k2, n2, s2⟩ = (zeroV, 0) by unfold arithV; rw [if_neg hno, if_neg (by rintro (h | h); exact h1 h; exact h2 h), if_pos (.inl h3)])
  subst h3
  clear h1 h2
  go_enter Tryz.func153, Tryz.ntmps153
  go_wp2_with fail
  rw [← HW.out]
  refine (Hib.out _).mono ?_
  rintro e w' ⟨rfl, rfl⟩
  obtain ⟨a0, a1, a2, _⟩ := blk3x Hb1.out
  obtain ⟨b0, b1, b2, _⟩ := blk3x Hb2.out
  have hbr0 := Hbr.out
  obtain ⟨r0, r1, r2, f0, f1, f2⟩ := blk3x Hbr.out
  go_wp2_with fail
  clear a0 a1 a2 b0 b1 b2 r0 r1 r2 f0 f1 f2
  refine (Hnull.out _).mono ?_
  rintro e w1 ⟨rfl, u1⟩
  obtain ⟨a0, a1, a2, _⟩ := blk3x (u1.blk Hb1.out (by simp))
  obtain ⟨b0, b1, b2, _⟩ := blk3x (u1.blk Hb2.out (by simp))
  have hbr1 := (u1.blk Hbr.out (by simp))
  obtain ⟨r0, r1, r2, f0, f1, f2⟩ := blk3x (u1.blk Hbr.out (by simp))
  go_wp2_with fail
  obtain ⟨q1, q2⟩ := out3 (u1.blk Hbr.out (by simp)) (.int .i64 0) (.int .i64 0) (.string ⟨#[]⟩)
  obtain ⟨d0, d1, d2, _⟩ := blk3x q1
  refine bodyPost_ret (v := .tuple #[.agg #[.int .i64 0, .int .i64 0, .string ⟨#[]⟩], .int .i64 (0)]) (by simp [results, Tryz.results153, go_sem, d0, d1, d2]) rfl ⟨?_, (T0.out.trans0 u1).trans q2 (fun b hb => .inr (by simp at hb; omega))⟩
  rw [Hf.out]; rfl
 have q3 : (k1 == 0) = false := by simpa using h3
 by_cases h4 : k2 = 0
 ·have Hf := Lib.hid (show arithV o ⟨k1, n1, s1⟩ ⟨k2, n2, s2⟩ = (zeroV, 0) by unfold arithV; rw [if_neg hno, if_neg (by rintro (h | h); exact h1 h; exact h2 h), if_pos (.inr h4)])
  subst h4
  clear h1 h2 h3
  go_enter Tryz.func153, Tryz.ntmps153
  go_wp2_with fail
  rw [← HW.out]
  refine (Hib.out _).mono ?_
  rintro e w' ⟨rfl, rfl⟩
  obtain ⟨a0, a1, a2, _⟩ := blk3x Hb1.out
  obtain ⟨b0, b1, b2, _⟩ := blk3x Hb2.out
  have hbr0 := Hbr.out
  obtain ⟨r0, r1, r2, f0, f1, f2⟩ := blk3x Hbr.out
  go_wp2_with fail
  clear a0 a1 a2 b0 b1 b2 r0 r1 r2 f0 f1 f2
  refine (Hnull.out _).mono ?_
  rintro e w1 ⟨rfl, u1⟩
  obtain ⟨a0, a1, a2, _⟩ := blk3x (u1.blk Hb1.out (by simp))
  obtain ⟨b0, b1, b2, _⟩ := blk3x (u1.blk Hb2.out (by simp))
  have hbr1 := (u1.blk Hbr.out (by simp))
  obtain ⟨r0, r1, r2, f0, f1, f2⟩ := blk3x (u1.blk Hbr.out (by simp))
  go_wp2_with fail
  obtain ⟨q1, q2⟩ := out3 (u1.blk Hbr.out (by simp)) (.int .i64 0) (.int .i64 0) (.string ⟨#[]⟩)
  obtain ⟨d0, d1, d2, _⟩ := blk3x q1
  refine bodyPost_ret (v := .tuple #[.agg #[.int .i64 0, .int .i64 0, .string ⟨#[]⟩], .int .i64 (0)]) (by simp [results, Tryz.results153, go_sem, d0, d1, d2]) rfl ⟨?_, (T0.out.trans0 u1).trans q2 (fun b hb => .inr (by simp at hb; omega))⟩
  rw [Hf.out]; rfl
 have q4 : (k2 == 0) = false := by simpa using h4
 have harith : arithV o ⟨k1, n1, s1⟩ ⟨k2, n2, s2⟩ = if n2 = 0 ∧ (o = 47 ∨ o = 37) then (zeroV, 11) else if (reckonV o n1 n2).2 = true then (ofV (reckonV o n1 n2).1, 0) else (zeroV, 10) := by
  unfold arithV; rw [if_neg hno, if_neg (by rintro (h | h); exact h1 h; exact h2 h), if_neg (by rintro (h | h); exact h3 h; exact h4 h)]
 clear h1 h2 h3 h4 hno
 by_cases h5 : n2 = 0 ∧ (o = 47 ∨ o = 37)
 ·have Hf := Lib.hid (show arithV o ⟨k1, n1, s1⟩ ⟨k2, n2, s2⟩ = (zeroV, 11) by rw [harith, if_pos h5])
  obtain ⟨rfl, h6⟩ := h5
  clear harith
  rcases h6 with rfl | rfl
  ·clear ho
   go_enter Tryz.func153, Tryz.ntmps153
   go_wp2_with fail
   rw [← HW.out]
   refine (Hib.out _).mono ?_
   rintro e w' ⟨rfl, rfl⟩
   obtain ⟨a0, a1, a2, _⟩ := blk3x Hb1.out
   obtain ⟨b0, b1, b2, _⟩ := blk3x Hb2.out
   have hbr0 := Hbr.out
   obtain ⟨r0, r1, r2, f0, f1, f2⟩ := blk3x Hbr.out
   go_wp2_with fail
   obtain ⟨q1, q2⟩ := out3 Hbr.out (.int .i64 0) (.int .i64 0) (.string ⟨#[]⟩)
   obtain ⟨d0, d1, d2, _⟩ := blk3x q1
   refine bodyPost_ret (v := .tuple #[.agg #[.int .i64 0, .int .i64 0, .string ⟨#[]⟩], .int .i64 (11)]) (by simp [results, Tryz.results153, go_sem, d0, d1, d2]) rfl ⟨?_, T0.out.trans q2 (fun b hb => .inr (by simp at hb; omega))⟩
   rw [Hf.out]; rfl
  ·clear ho
   go_enter Tryz.func153, Tryz.ntmps153
   go_wp2_with fail
   rw [← HW.out]
   refine (Hib.out _).mono ?_
   rintro e w' ⟨rfl, rfl⟩
   obtain ⟨a0, a1, a2, _⟩ := blk3x Hb1.out
   obtain ⟨b0, b1, b2, _⟩ := blk3x Hb2.out
   have hbr0 := Hbr.out
   obtain ⟨r0, r1, r2, f0, f1, f2⟩ := blk3x Hbr.out
   go_wp2_with fail
   obtain ⟨q1, q2⟩ := out3 Hbr.out (.int .i64 0) (.int .i64 0) (.string ⟨#[]⟩)
   obtain ⟨d0, d1, d2, _⟩ := blk3x q1
   refine bodyPost_ret (v := .tuple #[.agg #[.int .i64 0, .int .i64 0, .string ⟨#[]⟩], .int .i64 (11)]) (by simp [results, Tryz.results153, go_sem, d0, d1, d2]) rfl ⟨?_, T0.out.trans q2 (fun b hb => .inr (by simp at hb; omega))⟩
   rw [Hf.out]; rfl
 rw [if_neg h5] at harith
 have hrk := fun w' => reckon_any o n1 n2 (fun h hn => h5 ⟨hn, h⟩) ho w'
 have hd : (n2 == 0) = true → (o == 47) = false ∧ (o == 37) = false := fun h => by
  have hn : n2 = 0 := by simpa using h
  exact ⟨by simpa using fun h' => h5 ⟨hn, .inl h'⟩, by simpa using fun h' => h5 ⟨hn, .inr h'⟩⟩
 obtain ⟨rv, hrv⟩ : ∃ rv, rv = reckonV o n1 n2 := ⟨_, rfl⟩
 rw [← hrv] at hrk harith
 obtain ⟨rn, rb⟩ := rv
 simp only at hrk harith
 have Hrk := Lib.hid hrk
 have Hha := Lib.hid harith
 clear hrk hrv h5 ho harith
 rcases hz : (n2 == 0) with _ | _
 ·clear hd
  cases rb
  ·have Hf := Lib.hid (show arithV o ⟨k1, n1, s1⟩ ⟨k2, n2, s2⟩ = (zeroV, 10) by rw [Hha.out, if_neg (by simp)])
   go_enter Tryz.func153, Tryz.ntmps153
   go_wp2_with fail
   rw [← HW.out]
   refine (Hib.out _).mono ?_
   rintro e w' ⟨rfl, rfl⟩
   obtain ⟨a0, a1, a2, _⟩ := blk3x Hb1.out
   obtain ⟨b0, b1, b2, _⟩ := blk3x Hb2.out
   have hbr0 := Hbr.out
   obtain ⟨r0, r1, r2, f0, f1, f2⟩ := blk3x Hbr.out
   go_wp2_with fail
   clear a0 a1 a2 b0 b1 b2 r0 r1 r2 f0 f1 f2
   refine (Hrk.out _).mono ?_
   rintro e w1 ⟨rfl, u1⟩
   obtain ⟨a0, a1, a2, _⟩ := blk3x (u1.blk Hb1.out (by simp))
   obtain ⟨b0, b1, b2, _⟩ := blk3x (u1.blk Hb2.out (by simp))
   have hbr1 := (u1.blk Hbr.out (by simp))
   obtain ⟨r0, r1, r2, f0, f1, f2⟩ := blk3x (u1.blk Hbr.out (by simp))
   go_wp2_with fail
   obtain ⟨q1, q2⟩ := out3 (u1.blk Hbr.out (by simp)) (.int .i64 0) (.int .i64 0) (.string ⟨#[]⟩)
   obtain ⟨d0, d1, d2, _⟩ := blk3x q1
   refine bodyPost_ret (v := .tuple #[.agg #[.int .i64 0, .int .i64 0, .string ⟨#[]⟩], .int .i64 (10)]) (by simp [results, Tryz.results153, go_sem, d0, d1, d2]) rfl ⟨?_, (T0.out.trans0 u1).trans q2 (fun b hb => .inr (by simp at hb; omega))⟩
   rw [Hf.out]; rfl
  ·have Hf := Lib.hid (show arithV o ⟨k1, n1, s1⟩ ⟨k2, n2, s2⟩ = (ofV rn, 0) by rw [Hha.out, if_pos rfl])
   go_enter Tryz.func153, Tryz.ntmps153
   go_wp2_with fail
   rw [← HW.out]
   refine (Hib.out _).mono ?_
   rintro e w' ⟨rfl, rfl⟩
   obtain ⟨a0, a1, a2, _⟩ := blk3x Hb1.out
   obtain ⟨b0, b1, b2, _⟩ := blk3x Hb2.out
   have hbr0 := Hbr.out
   obtain ⟨r0, r1, r2, f0, f1, f2⟩ := blk3x Hbr.out
   go_wp2_with fail
   clear a0 a1 a2 b0 b1 b2 r0 r1 r2 f0 f1 f2
   refine (Hrk.out _).mono ?_
   rintro e w1 ⟨rfl, u1⟩
   obtain ⟨a0, a1, a2, _⟩ := blk3x (u1.blk Hb1.out (by simp))
   obtain ⟨b0, b1, b2, _⟩ := blk3x (u1.blk Hb2.out (by simp))
   have hbr1 := (u1.blk Hbr.out (by simp))
   obtain ⟨r0, r1, r2, f0, f1, f2⟩ := blk3x (u1.blk Hbr.out (by simp))
   go_wp2_with fail
   clear a0 a1 a2 b0 b1 b2 r0 r1 r2 f0 f1 f2
   refine (Hof.out _ _).mono ?_
   rintro e w2 ⟨rfl, u2⟩
   obtain ⟨a0, a1, a2, _⟩ := blk3x (u2.blk (u1.blk Hb1.out (by simp)) (by simp))
   obtain ⟨b0, b1, b2, _⟩ := blk3x (u2.blk (u1.blk Hb2.out (by simp)) (by simp))
   have hbr2 := (u2.blk (u1.blk Hbr.out (by simp)) (by simp))
   obtain ⟨r0, r1, r2, f0, f1, f2⟩ := blk3x (u2.blk (u1.blk Hbr.out (by simp)) (by simp))
   go_wp2_with fail
   obtain ⟨q1, q2⟩ := out3 (u2.blk (u1.blk Hbr.out (by simp)) (by simp)) (.int .i64 1) (.int .i64 rn) (.string ⟨#[]⟩)
   obtain ⟨d0, d1, d2, _⟩ := blk3x q1
   refine bodyPost_ret (v := .tuple #[.agg #[.int .i64 1, .int .i64 rn, .string ⟨#[]⟩], .int .i64 (0)]) (by simp [results, Tryz.results153, go_sem, d0, d1, d2]) rfl ⟨?_, ((T0.out.trans0 u1).trans0 u2).trans q2 (fun b hb => .inr (by simp at hb; omega))⟩
   rw [Hf.out]; rfl
 ·obtain ⟨e1, e2⟩ := hd hz
  cases rb
  ·have Hf := Lib.hid (show arithV o ⟨k1, n1, s1⟩ ⟨k2, n2, s2⟩ = (zeroV, 10) by rw [Hha.out, if_neg (by simp)])
   go_enter Tryz.func153, Tryz.ntmps153
   go_wp2_with fail
   rw [← HW.out]
   refine (Hib.out _).mono ?_
   rintro e w' ⟨rfl, rfl⟩
   obtain ⟨a0, a1, a2, _⟩ := blk3x Hb1.out
   obtain ⟨b0, b1, b2, _⟩ := blk3x Hb2.out
   have hbr0 := Hbr.out
   obtain ⟨r0, r1, r2, f0, f1, f2⟩ := blk3x Hbr.out
   go_wp2_with fail
   clear a0 a1 a2 b0 b1 b2 r0 r1 r2 f0 f1 f2
   refine (Hrk.out _).mono ?_
   rintro e w1 ⟨rfl, u1⟩
   obtain ⟨a0, a1, a2, _⟩ := blk3x (u1.blk Hb1.out (by simp))
   obtain ⟨b0, b1, b2, _⟩ := blk3x (u1.blk Hb2.out (by simp))
   have hbr1 := (u1.blk Hbr.out (by simp))
   obtain ⟨r0, r1, r2, f0, f1, f2⟩ := blk3x (u1.blk Hbr.out (by simp))
   go_wp2_with fail
   obtain ⟨q1, q2⟩ := out3 (u1.blk Hbr.out (by simp)) (.int .i64 0) (.int .i64 0) (.string ⟨#[]⟩)
   obtain ⟨d0, d1, d2, _⟩ := blk3x q1
   refine bodyPost_ret (v := .tuple #[.agg #[.int .i64 0, .int .i64 0, .string ⟨#[]⟩], .int .i64 (10)]) (by simp [results, Tryz.results153, go_sem, d0, d1, d2]) rfl ⟨?_, (T0.out.trans0 u1).trans q2 (fun b hb => .inr (by simp at hb; omega))⟩
   rw [Hf.out]; rfl
  ·have Hf := Lib.hid (show arithV o ⟨k1, n1, s1⟩ ⟨k2, n2, s2⟩ = (ofV rn, 0) by rw [Hha.out, if_pos rfl])
   go_enter Tryz.func153, Tryz.ntmps153
   go_wp2_with fail
   rw [← HW.out]
   refine (Hib.out _).mono ?_
   rintro e w' ⟨rfl, rfl⟩
   obtain ⟨a0, a1, a2, _⟩ := blk3x Hb1.out
   obtain ⟨b0, b1, b2, _⟩ := blk3x Hb2.out
   have hbr0 := Hbr.out
   obtain ⟨r0, r1, r2, f0, f1, f2⟩ := blk3x Hbr.out
   go_wp2_with fail
   clear a0 a1 a2 b0 b1 b2 r0 r1 r2 f0 f1 f2
   refine (Hrk.out _).mono ?_
   rintro e w1 ⟨rfl, u1⟩
   obtain ⟨a0, a1, a2, _⟩ := blk3x (u1.blk Hb1.out (by simp))
   obtain ⟨b0, b1, b2, _⟩ := blk3x (u1.blk Hb2.out (by simp))
   have hbr1 := (u1.blk Hbr.out (by simp))
   obtain ⟨r0, r1, r2, f0, f1, f2⟩ := blk3x (u1.blk Hbr.out (by simp))
   go_wp2_with fail
   clear a0 a1 a2 b0 b1 b2 r0 r1 r2 f0 f1 f2
   refine (Hof.out _ _).mono ?_
   rintro e w2 ⟨rfl, u2⟩
   obtain ⟨a0, a1, a2, _⟩ := blk3x (u2.blk (u1.blk Hb1.out (by simp)) (by simp))
   obtain ⟨b0, b1, b2, _⟩ := blk3x (u2.blk (u1.blk Hb2.out (by simp)) (by simp))
   have hbr2 := (u2.blk (u1.blk Hbr.out (by simp)) (by simp))
   obtain ⟨r0, r1, r2, f0, f1, f2⟩ := blk3x (u2.blk (u1.blk Hbr.out (by simp)) (by simp))
   go_wp2_with fail
   obtain ⟨q1, q2⟩ := out3 (u2.blk (u1.blk Hbr.out (by simp)) (by simp)) (.int .i64 1) (.int .i64 rn) (.string ⟨#[]⟩)
   obtain ⟨d0, d1, d2, _⟩ := blk3x q1
   refine bodyPost_ret (v := .tuple #[.agg #[.int .i64 1, .int .i64 rn, .string ⟨#[]⟩], .int .i64 (0)]) (by simp [results, Tryz.results153, go_sem, d0, d1, d2]) rfl ⟨?_, ((T0.out.trans0 u1).trans0 u2).trans q2 (fun b hb => .inr (by simp at hb; omega))⟩
   rw [Hf.out]; rfl
end Go.Proofs.YtafoklilkdnepaaGreatDoor

/- value.holds, value.Compare, expr.cat, expr.comparing, expr.Expr.alone. For all. -/
namespace Go.Proofs.YtafoklilkdnepaaGreatDoor
open Go.RowKit
attribute [local go_sem ↓] Go.wp_at_zero Go.wp_at_succ

def holdsV (o c : Int) : Bool := if o = 1 then c == 0 else if o = 2 then c != 0 else if o = 3 then decide (c < 0) else if o = 4 then decide (c ≤ 0) else if o = 5 then decide (0 < c) else decide (0 ≤ c)
def compareV (o : Int) (a b : VD) : VD := if a.kind = 0 ∨ b.kind = 0 then zeroV else bitV (holdsV o (cmpVV a b))
def catV (a b : VD) : VD × Int := if a.kind = 0 ∨ b.kind = 0 then (zeroV, 0) else if 64 < a.text.size + b.text.size then (zeroV, 10) else (⟨2, 0, a.text ++ b.text⟩, 0)
def wIsnull : ByteArray := S [105, 115, 110, 117, 108, 108]
def wLen : ByteArray := S [108, 101, 110]
def wAbs : ByteArray := S [97, 98, 115]
def wNot : ByteArray := S [110, 111, 116]
def aloneV (d : ND) (v : VD) : VD × Int :=
 if d.op = wNot then (bitV (!v.tru), 0)
 else if d.name = wIsnull then (bitV (decide (v.kind = 0)), 0)
 else if v.kind = 0 then (v, 0)
 else if d.name = wLen then (ofV v.text.size, 0)
 else if d.name = wAbs ∧ 0 ≤ v.num then (v, 0)
 else arithV 45 (ofV 0) v

set_option maxRecDepth 20000 in
theorem holds_any (o c : Int) (w : World) : Calls Tryz.prog 186 #[.int .i64 o, .int .i64 c] w fun e w' => e = .returned (.bool (holdsV o c)) ∧ w' = w := by
 by_cases h1 : o = 1
 ·subst h1
  go_enter Tryz.func186, Tryz.ntmps186
  go_wp2_with fail
  go_ret
  exact ⟨rfl, rfl⟩
 by_cases h2 : o = 2
 ·subst h2
  go_enter Tryz.func186, Tryz.ntmps186
  go_wp2_with fail
  go_ret
  exact ⟨rfl, rfl⟩
 by_cases h3 : o = 3
 ·subst h3
  go_enter Tryz.func186, Tryz.ntmps186
  go_wp2_with fail
  go_ret
  exact ⟨rfl, rfl⟩
 by_cases h4 : o = 4
 ·subst h4
  go_enter Tryz.func186, Tryz.ntmps186
  go_wp2_with fail
  go_ret
  exact ⟨rfl, rfl⟩
 by_cases h5 : o = 5
 ·subst h5
  go_enter Tryz.func186, Tryz.ntmps186
  go_wp2_with fail
  go_ret
  exact ⟨rfl, rfl⟩
 ·have q1 : (o == 1) = false := by simpa using h1
  have q2 : (o == 2) = false := by simpa using h2
  have q3 : (o == 3) = false := by simpa using h3
  have q4 : (o == 4) = false := by simpa using h4
  have q5 : (o == 5) = false := by simpa using h5
  have Hf := Lib.hid (show holdsV o c = decide (0 ≤ c) by unfold holdsV; rw [if_neg h1, if_neg h2, if_neg h3, if_neg h4, if_neg h5])
  clear h1 h2 h3 h4 h5
  go_enter Tryz.func186, Tryz.ntmps186
  go_wp2_with fail
  go_ret
  exact ⟨by rw [Hf.out]; rfl, rfl⟩

set_option maxRecDepth 20000 in
set_option maxHeartbeats 3200000 in
theorem compare_any (o : Int) (ho : 1 ≤ o ∧ o ≤ 6) (a b : VD) (w : World) :
  Calls Tryz.prog 152 #[.int .i64 o, a.val, b.val] w fun e w' => e = .returned (compareV o a b).val ∧ Touch [] w w' := by
 have hcmp := fun w' => cmpVal_any a b w'
 obtain ⟨k1, n1, s1⟩ := a
 obtain ⟨k2, n2, s2⟩ := b
 dsimp only [VD.val] at hcmp ⊢
 have t0 := (((Touch.refl [] w).alloc (.cells #[.int .i64 k1, .int .i64 n1, .string s1] 31)).alloc (.cells #[.int .i64 k2, .int .i64 n2, .string s2] 31)).alloc (.cells #[.int .i64 0, .int .i64 0, .string ⟨#[]⟩] 31)
 have hb1 := (((Touch.refl [] (w.alloc (.cells #[.int .i64 k1, .int .i64 n1, .string s1] 31))).alloc (.cells #[.int .i64 k2, .int .i64 n2, .string s2] 31)).alloc (.cells #[.int .i64 0, .int .i64 0, .string ⟨#[]⟩] 31)).blk (heap_alloc_new w (.cells #[.int .i64 k1, .int .i64 n1, .string s1] 31)) (by simp)
 have hb2 := ((Touch.refl [] ((w.alloc (.cells #[.int .i64 k1, .int .i64 n1, .string s1] 31)).alloc (.cells #[.int .i64 k2, .int .i64 n2, .string s2] 31))).alloc (.cells #[.int .i64 0, .int .i64 0, .string ⟨#[]⟩] 31)).blk (heap_alloc_new (w.alloc (.cells #[.int .i64 k1, .int .i64 n1, .string s1] 31)) (.cells #[.int .i64 k2, .int .i64 n2, .string s2] 31)) (by simp)
 have hbr := heap_alloc_new ((w.alloc (.cells #[.int .i64 k1, .int .i64 n1, .string s1] 31)).alloc (.cells #[.int .i64 k2, .int .i64 n2, .string s2] 31)) (.cells #[.int .i64 0, .int .i64 0, .string ⟨#[]⟩] 31)
 simp only [World.size_alloc] at hb2 hbr
 obtain ⟨W, hW⟩ : ∃ W, W = ((w.alloc (.cells #[.int .i64 k1, .int .i64 n1, .string s1] 31)).alloc (.cells #[.int .i64 k2, .int .i64 n2, .string s2] 31)).alloc (.cells #[.int .i64 0, .int .i64 0, .string ⟨#[]⟩] 31) := ⟨_, rfl⟩
 rw [← hW] at hb1 hb2 hbr t0
 have HW := Lib.hid hW; have Hb1 := Lib.hid hb1; have Hb2 := Lib.hid hb2; have Hbr := Lib.hid hbr; have T0 := Lib.hid t0
 have Hnull := Lib.hid fun w' => vnull_any w'
 have Hof := Lib.hid fun n w' => of_any n w'
 simp only [VD.val, zeroV, ofV, S] at Hnull Hof
 clear hW hb1 hb2 hbr t0
 have Hcmp := Lib.hid hcmp
 have Hh := Lib.hid fun w' => holds_any o (cmpVV ⟨k1, n1, s1⟩ ⟨k2, n2, s2⟩) w'
 clear hcmp
 obtain ⟨o1, o2⟩ := ho
 by_cases h3 : k1 = 0
 ·have Hf := Lib.hid (show compareV o ⟨k1, n1, s1⟩ ⟨k2, n2, s2⟩ = zeroV by unfold compareV; rw [if_pos (.inl h3)])
  subst h3
  go_enter Tryz.func152, Tryz.ntmps152
  go_wp2_with fail
  rw [← HW.out]
  refine (Hnull.out _).mono ?_
  rintro e w1 ⟨rfl, u1⟩
  obtain ⟨a0, a1, a2, _⟩ := blk3x (u1.blk Hb1.out (by simp))
  obtain ⟨b0, b1, b2, _⟩ := blk3x (u1.blk Hb2.out (by simp))
  obtain ⟨r0, r1, r2, f0, f1, f2⟩ := blk3x (u1.blk Hbr.out (by simp))
  go_wp2_with fail
  obtain ⟨q1, q2⟩ := out3 (u1.blk Hbr.out (by simp)) (.int .i64 0) (.int .i64 0) (.string ⟨#[]⟩)
  refine bodyPost_ret (results_cell_row rfl _ _ (w.heap.size + 1 + 1) _ _ _ _ rfl q1 Tryz.underlying31 rfl rfl) rfl ⟨?_, (T0.out.trans0 u1).trans q2 (fun b hb => .inr (by simp at hb; omega))⟩
  rw [Hf.out]; rfl
 have q3 : (k1 == 0) = false := by simpa using h3
 by_cases h4 : k2 = 0
 ·have Hf := Lib.hid (show compareV o ⟨k1, n1, s1⟩ ⟨k2, n2, s2⟩ = zeroV by unfold compareV; rw [if_pos (.inr h4)])
  subst h4
  clear h3
  go_enter Tryz.func152, Tryz.ntmps152
  go_wp2_with fail
  rw [← HW.out]
  refine (Hnull.out _).mono ?_
  rintro e w1 ⟨rfl, u1⟩
  obtain ⟨a0, a1, a2, _⟩ := blk3x (u1.blk Hb1.out (by simp))
  obtain ⟨b0, b1, b2, _⟩ := blk3x (u1.blk Hb2.out (by simp))
  obtain ⟨r0, r1, r2, f0, f1, f2⟩ := blk3x (u1.blk Hbr.out (by simp))
  go_wp2_with fail
  obtain ⟨q1, q2⟩ := out3 (u1.blk Hbr.out (by simp)) (.int .i64 0) (.int .i64 0) (.string ⟨#[]⟩)
  refine bodyPost_ret (results_cell_row rfl _ _ (w.heap.size + 1 + 1) _ _ _ _ rfl q1 Tryz.underlying31 rfl rfl) rfl ⟨?_, (T0.out.trans0 u1).trans q2 (fun b hb => .inr (by simp at hb; omega))⟩
  rw [Hf.out]; rfl
 have q4 : (k2 == 0) = false := by simpa using h4
 have hf : compareV o ⟨k1, n1, s1⟩ ⟨k2, n2, s2⟩ = bitV (holdsV o (cmpVV ⟨k1, n1, s1⟩ ⟨k2, n2, s2⟩)) := by unfold compareV; rw [if_neg (by rintro (h | h); exact h3 h; exact h4 h)]
 obtain ⟨hb, hhb⟩ : ∃ hb, hb = holdsV o (cmpVV ⟨k1, n1, s1⟩ ⟨k2, n2, s2⟩) := ⟨_, rfl⟩
 rw [← hhb] at Hh hf
 have Hf := Lib.hid hf
 clear h3 h4 hf hhb
 cases hb
 ·go_enter Tryz.func152, Tryz.ntmps152
  go_wp2_with fail
  rw [← HW.out]
  refine (Hcmp.out _).mono ?_
  rintro e w1 ⟨rfl, u1⟩
  obtain ⟨a0, a1, a2, _⟩ := blk3x (u1.blk Hb1.out (by simp))
  obtain ⟨b0, b1, b2, _⟩ := blk3x (u1.blk Hb2.out (by simp))
  obtain ⟨r0, r1, r2, f0, f1, f2⟩ := blk3x (u1.blk Hbr.out (by simp))
  go_wp2_with fail
  clear a0 a1 a2 b0 b1 b2 r0 r1 r2 f0 f1 f2
  refine (Hh.out _).mono ?_
  rintro e w' ⟨rfl, rfl⟩
  obtain ⟨a0, a1, a2, _⟩ := blk3x (u1.blk Hb1.out (by simp))
  obtain ⟨b0, b1, b2, _⟩ := blk3x (u1.blk Hb2.out (by simp))
  obtain ⟨r0, r1, r2, f0, f1, f2⟩ := blk3x (u1.blk Hbr.out (by simp))
  go_wp2_with fail
  clear a0 a1 a2 b0 b1 b2 r0 r1 r2 f0 f1 f2
  refine (Hof.out 0 _).mono ?_
  rintro e w2 ⟨rfl, u2⟩
  obtain ⟨a0, a1, a2, _⟩ := blk3x (u2.blk (u1.blk Hb1.out (by simp)) (by simp))
  obtain ⟨b0, b1, b2, _⟩ := blk3x (u2.blk (u1.blk Hb2.out (by simp)) (by simp))
  obtain ⟨r0, r1, r2, f0, f1, f2⟩ := blk3x (u2.blk (u1.blk Hbr.out (by simp)) (by simp))
  go_wp2_with fail
  obtain ⟨q1, q2⟩ := out3 (u2.blk (u1.blk Hbr.out (by simp)) (by simp)) (.int .i64 1) (.int .i64 0) (.string ⟨#[]⟩)
  refine bodyPost_ret (results_cell_row rfl _ _ (w.heap.size + 1 + 1) _ _ _ _ rfl q1 Tryz.underlying31 rfl rfl) rfl ⟨?_, ((T0.out.trans0 u1).trans0 u2).trans q2 (fun b hb => .inr (by simp at hb; omega))⟩
  rw [Hf.out]; rfl
 ·go_enter Tryz.func152, Tryz.ntmps152
  go_wp2_with fail
  rw [← HW.out]
  refine (Hcmp.out _).mono ?_
  rintro e w1 ⟨rfl, u1⟩
  obtain ⟨a0, a1, a2, _⟩ := blk3x (u1.blk Hb1.out (by simp))
  obtain ⟨b0, b1, b2, _⟩ := blk3x (u1.blk Hb2.out (by simp))
  obtain ⟨r0, r1, r2, f0, f1, f2⟩ := blk3x (u1.blk Hbr.out (by simp))
  go_wp2_with fail
  clear a0 a1 a2 b0 b1 b2 r0 r1 r2 f0 f1 f2
  refine (Hh.out _).mono ?_
  rintro e w' ⟨rfl, rfl⟩
  obtain ⟨a0, a1, a2, _⟩ := blk3x (u1.blk Hb1.out (by simp))
  obtain ⟨b0, b1, b2, _⟩ := blk3x (u1.blk Hb2.out (by simp))
  obtain ⟨r0, r1, r2, f0, f1, f2⟩ := blk3x (u1.blk Hbr.out (by simp))
  go_wp2_with fail
  clear a0 a1 a2 b0 b1 b2 r0 r1 r2 f0 f1 f2
  refine (Hof.out 1 _).mono ?_
  rintro e w2 ⟨rfl, u2⟩
  obtain ⟨a0, a1, a2, _⟩ := blk3x (u2.blk (u1.blk Hb1.out (by simp)) (by simp))
  obtain ⟨b0, b1, b2, _⟩ := blk3x (u2.blk (u1.blk Hb2.out (by simp)) (by simp))
  obtain ⟨r0, r1, r2, f0, f1, f2⟩ := blk3x (u2.blk (u1.blk Hbr.out (by simp)) (by simp))
  go_wp2_with fail
  obtain ⟨q1, q2⟩ := out3 (u2.blk (u1.blk Hbr.out (by simp)) (by simp)) (.int .i64 1) (.int .i64 1) (.string ⟨#[]⟩)
  refine bodyPost_ret (results_cell_row rfl _ _ (w.heap.size + 1 + 1) _ _ _ _ rfl q1 Tryz.underlying31 rfl rfl) rfl ⟨?_, ((T0.out.trans0 u1).trans0 u2).trans q2 (fun b hb => .inr (by simp at hb; omega))⟩
  rw [Hf.out]; rfl

set_option maxRecDepth 20000 in
set_option maxHeartbeats 3200000 in
theorem cat_any (a b : VD) (ha : a.text.size ≤ 140737000000000) (hb : b.text.size ≤ 140737000000000) (w : World) :
  Calls Tryz.prog 151 #[a.val, b.val] w fun e w' => e = .returned (.tuple #[(catV a b).1.val, .int .i64 (catV a b).2]) ∧ Touch [] w w' := by
 obtain ⟨k1, n1, s1⟩ := a
 obtain ⟨k2, n2, s2⟩ := b
 dsimp only [VD.val] at ha hb ⊢
 have t0 := (((Touch.refl [] w).alloc (.cells #[.int .i64 k1, .int .i64 n1, .string s1] 31)).alloc (.cells #[.int .i64 k2, .int .i64 n2, .string s2] 31)).alloc (.cells #[.int .i64 0, .int .i64 0, .string ⟨#[]⟩] 31)
 have hb1 := (((Touch.refl [] (w.alloc (.cells #[.int .i64 k1, .int .i64 n1, .string s1] 31))).alloc (.cells #[.int .i64 k2, .int .i64 n2, .string s2] 31)).alloc (.cells #[.int .i64 0, .int .i64 0, .string ⟨#[]⟩] 31)).blk (heap_alloc_new w (.cells #[.int .i64 k1, .int .i64 n1, .string s1] 31)) (by simp)
 have hb2 := ((Touch.refl [] ((w.alloc (.cells #[.int .i64 k1, .int .i64 n1, .string s1] 31)).alloc (.cells #[.int .i64 k2, .int .i64 n2, .string s2] 31))).alloc (.cells #[.int .i64 0, .int .i64 0, .string ⟨#[]⟩] 31)).blk (heap_alloc_new (w.alloc (.cells #[.int .i64 k1, .int .i64 n1, .string s1] 31)) (.cells #[.int .i64 k2, .int .i64 n2, .string s2] 31)) (by simp)
 have hbr := heap_alloc_new ((w.alloc (.cells #[.int .i64 k1, .int .i64 n1, .string s1] 31)).alloc (.cells #[.int .i64 k2, .int .i64 n2, .string s2] 31)) (.cells #[.int .i64 0, .int .i64 0, .string ⟨#[]⟩] 31)
 simp only [World.size_alloc] at hb2 hbr
 obtain ⟨W, hW⟩ : ∃ W, W = ((w.alloc (.cells #[.int .i64 k1, .int .i64 n1, .string s1] 31)).alloc (.cells #[.int .i64 k2, .int .i64 n2, .string s2] 31)).alloc (.cells #[.int .i64 0, .int .i64 0, .string ⟨#[]⟩] 31) := ⟨_, rfl⟩
 rw [← hW] at hb1 hb2 hbr t0
 have HW := Lib.hid hW; have Hb1 := Lib.hid hb1; have Hb2 := Lib.hid hb2; have Hbr := Lib.hid hbr; have T0 := Lib.hid t0
 have Hnull := Lib.hid fun w' => vnull_any w'
 have Hof := Lib.hid fun n w' => of_any n w'
 simp only [VD.val, zeroV, ofV, S] at Hnull Hof
 clear hW hb1 hb2 hbr t0
 have Htx := Lib.hid fun s w' => text_any s w'
 simp only [VD.val] at Htx
 by_cases h3 : k1 = 0
 ·have Hf := Lib.hid (show catV ⟨k1, n1, s1⟩ ⟨k2, n2, s2⟩ = (zeroV, 0) by unfold catV; rw [if_pos (.inl h3)])
  subst h3
  go_enter Tryz.func151, Tryz.ntmps151
  go_wp2_with fail
  rw [← HW.out]
  refine (Hnull.out _).mono ?_
  rintro e w1 ⟨rfl, u1⟩
  obtain ⟨a0, a1, a2, _⟩ := blk3x (u1.blk Hb1.out (by simp))
  obtain ⟨b0, b1, b2, _⟩ := blk3x (u1.blk Hb2.out (by simp))
  obtain ⟨r0, r1, r2, f0, f1, f2⟩ := blk3x (u1.blk Hbr.out (by simp))
  go_wp2_with fail
  obtain ⟨q1, q2⟩ := out3 (u1.blk Hbr.out (by simp)) (.int .i64 0) (.int .i64 0) (.string ⟨#[]⟩)
  obtain ⟨d0, d1, d2, _⟩ := blk3x q1
  refine bodyPost_ret (v := .tuple #[.agg #[.int .i64 0, .int .i64 0, .string ⟨#[]⟩], .int .i64 (0)]) (by simp [results, Tryz.results151, go_sem, d0, d1, d2]) rfl ⟨?_, (T0.out.trans0 u1).trans q2 (fun b hb => .inr (by simp at hb; omega))⟩
  rw [Hf.out]; rfl
 have q3 : (k1 == 0) = false := by simpa using h3
 by_cases h4 : k2 = 0
 ·have Hf := Lib.hid (show catV ⟨k1, n1, s1⟩ ⟨k2, n2, s2⟩ = (zeroV, 0) by unfold catV; rw [if_pos (.inr h4)])
  subst h4
  clear h3
  go_enter Tryz.func151, Tryz.ntmps151
  go_wp2_with fail
  rw [← HW.out]
  refine (Hnull.out _).mono ?_
  rintro e w1 ⟨rfl, u1⟩
  obtain ⟨a0, a1, a2, _⟩ := blk3x (u1.blk Hb1.out (by simp))
  obtain ⟨b0, b1, b2, _⟩ := blk3x (u1.blk Hb2.out (by simp))
  obtain ⟨r0, r1, r2, f0, f1, f2⟩ := blk3x (u1.blk Hbr.out (by simp))
  go_wp2_with fail
  obtain ⟨q1, q2⟩ := out3 (u1.blk Hbr.out (by simp)) (.int .i64 0) (.int .i64 0) (.string ⟨#[]⟩)
  obtain ⟨d0, d1, d2, _⟩ := blk3x q1
  refine bodyPost_ret (v := .tuple #[.agg #[.int .i64 0, .int .i64 0, .string ⟨#[]⟩], .int .i64 (0)]) (by simp [results, Tryz.results151, go_sem, d0, d1, d2]) rfl ⟨?_, (T0.out.trans0 u1).trans q2 (fun b hb => .inr (by simp at hb; omega))⟩
  rw [Hf.out]; rfl
 have q4 : (k2 == 0) = false := by simpa using h4
 have hne : ¬ (k1 = 0 ∨ k2 = 0) := by rintro (h | h); exact h3 h; exact h4 h
 clear h3 h4
 by_cases h6 : 64 < s1.size + s2.size
 ·have Hf := Lib.hid (show catV ⟨k1, n1, s1⟩ ⟨k2, n2, s2⟩ = (zeroV, 10) by unfold catV; rw [if_neg hne, if_pos h6])
  have h6I : (64 : Int) < (s1.size : Int) + (s2.size : Int) := by omega
  go_enter Tryz.func151, Tryz.ntmps151
  go_wp2_with fail
  rw [← HW.out]
  have q1 := Hbr.out
  have q2 := Touch.refl [w.heap.size + 1 + 1] W
  obtain ⟨d0, d1, d2, _⟩ := blk3x q1
  refine bodyPost_ret (v := .tuple #[.agg #[.int .i64 0, .int .i64 0, .string ⟨#[]⟩], .int .i64 (10)]) (by simp [results, Tryz.results151, go_sem, d0, d1, d2]) rfl ⟨?_, T0.out.trans q2 (fun b hb => .inr (by simp at hb; omega))⟩
  rw [Hf.out]; rfl
 ·have Hf := Lib.hid (show catV ⟨k1, n1, s1⟩ ⟨k2, n2, s2⟩ = (⟨2, 0, s1 ++ s2⟩, 0) by unfold catV; rw [if_neg hne, if_neg h6])
  have h6I : ¬ (64 : Int) < (s1.size : Int) + (s2.size : Int) := by omega
  go_enter Tryz.func151, Tryz.ntmps151
  go_wp2_with fail
  rw [← HW.out]
  refine (Htx.out _ _).mono ?_
  rintro e w1 ⟨rfl, u1⟩
  obtain ⟨a0, a1, a2, _⟩ := blk3x (u1.blk Hb1.out (by simp))
  obtain ⟨b0, b1, b2, _⟩ := blk3x (u1.blk Hb2.out (by simp))
  obtain ⟨r0, r1, r2, f0, f1, f2⟩ := blk3x (u1.blk Hbr.out (by simp))
  go_wp2_with fail
  obtain ⟨q1, q2⟩ := out3 (u1.blk Hbr.out (by simp)) (.int .i64 2) (.int .i64 0) (.string (s1 ++ s2))
  obtain ⟨d0, d1, d2, _⟩ := blk3x q1
  refine bodyPost_ret (v := .tuple #[.agg #[.int .i64 2, .int .i64 0, .string (s1 ++ s2)], .int .i64 (0)]) (by simp [results, Tryz.results151, go_sem, d0, d1, d2]) rfl ⟨?_, (T0.out.trans0 u1).trans q2 (fun b hb => .inr (by simp at hb; omega))⟩
  rw [Hf.out]
end Go.Proofs.YtafoklilkdnepaaGreatDoor
