/- Part 25 of the texts of this proof, one behind the other; each begins with its own sentence. No condition beyond those that its theorems state. -/
import Derived.Test.YtafoklilkdnepaaGreatDoorRu24
/- expr.Expr.alone: an operation of one. For every expression and value. -/
namespace Go.Proofs.YtafoklilkdnepaaGreatDoor
open Go.RowKit
attribute [local go_sem ↓] Go.wp_at_zero Go.wp_at_succ

theorem beq_S (x : ByteArray) (l : List UInt8) : (x.toList == l) = decide (x = S l) := by
 have := bs_beq x (S l)
 rwa [S_list] at this

set_option maxRecDepth 20000 in
set_option maxHeartbeats 3200000 in
theorem alone_any (x : XC) (v : VD) (w : World) :
  Calls Tryz.prog 149 #[x.val, v.val] w fun e w' => e = .returned (.tuple #[(aloneV x.nd v).1.val, .int .i64 (aloneV x.nd v).2]) ∧ Touch [] w w' := by
 have htr := fun w' => true_any v w'
 have har := fun w' => arith_any 45 (by simp) (ofV 0) v w'
 obtain ⟨tr, htre⟩ : ∃ tr, tr = v.tru := ⟨_, rfl⟩
 rw [← htre] at htr
 obtain ⟨ar, hare⟩ : ∃ ar, ar = arithV 45 (ofV 0) v := ⟨_, rfl⟩
 rw [← hare] at har
 obtain ⟨⟨k, nm, ⟨vk, vn, vt⟩, op⟩, A, m, c⟩ := x
 obtain ⟨k1, n1, s1⟩ := v
 dsimp only [XC.val, VD.val]
 have t0 := (((Touch.refl [] w).alloc (.cells #[.int .i64 k, .string nm, .int .i64 vk, .int .i64 vn, .string vt, .string op, .slice A m c] 44)).alloc (.cells #[.int .i64 k1, .int .i64 n1, .string s1] 31)).alloc (.cells #[.int .i64 0, .int .i64 0, .string ⟨#[]⟩] 31)
 have hb1 := (((Touch.refl [] (w.alloc (.cells #[.int .i64 k, .string nm, .int .i64 vk, .int .i64 vn, .string vt, .string op, .slice A m c] 44))).alloc (.cells #[.int .i64 k1, .int .i64 n1, .string s1] 31)).alloc (.cells #[.int .i64 0, .int .i64 0, .string ⟨#[]⟩] 31)).blk (heap_alloc_new w (.cells #[.int .i64 k, .string nm, .int .i64 vk, .int .i64 vn, .string vt, .string op, .slice A m c] 44)) (by simp)
 have hb2 := ((Touch.refl [] ((w.alloc (.cells #[.int .i64 k, .string nm, .int .i64 vk, .int .i64 vn, .string vt, .string op, .slice A m c] 44)).alloc (.cells #[.int .i64 k1, .int .i64 n1, .string s1] 31))).alloc (.cells #[.int .i64 0, .int .i64 0, .string ⟨#[]⟩] 31)).blk (heap_alloc_new (w.alloc (.cells #[.int .i64 k, .string nm, .int .i64 vk, .int .i64 vn, .string vt, .string op, .slice A m c] 44)) (.cells #[.int .i64 k1, .int .i64 n1, .string s1] 31)) (by simp)
 have hbr := heap_alloc_new ((w.alloc (.cells #[.int .i64 k, .string nm, .int .i64 vk, .int .i64 vn, .string vt, .string op, .slice A m c] 44)).alloc (.cells #[.int .i64 k1, .int .i64 n1, .string s1] 31)) (.cells #[.int .i64 0, .int .i64 0, .string ⟨#[]⟩] 31)
 simp only [World.size_alloc] at hb2 hbr
 obtain ⟨W, hW⟩ : ∃ W, W = ((w.alloc (.cells #[.int .i64 k, .string nm, .int .i64 vk, .int .i64 vn, .string vt, .string op, .slice A m c] 44)).alloc (.cells #[.int .i64 k1, .int .i64 n1, .string s1] 31)).alloc (.cells #[.int .i64 0, .int .i64 0, .string ⟨#[]⟩] 31) := ⟨_, rfl⟩
 rw [← hW] at hb1 hb2 hbr t0
 have HW := Lib.hid hW; have Hb1 := Lib.hid hb1; have Hb2 := Lib.hid hb2; have Hbr := Lib.hid hbr; have T0 := Lib.hid t0
 have Hnull := Lib.hid fun w' => vnull_any w'
 have Hof := Lib.hid fun n w' => of_any n w'
 simp only [VD.val, zeroV, ofV, S] at Hnull Hof
 clear hW hb1 hb2 hbr t0
 simp only [VD.val] at htr
 simp only [VD.val, ofV, S] at har
 have HbT := Lib.hid fun w' => bit_any true w'
 have HbF := Lib.hid fun w' => bit_any false w'
 simp only [bitV, if_true, Bool.false_eq_true, if_false, VD.val, ofV, S] at HbT HbF
 have Htr := Lib.hid htr
 have q1 := beq_S op [110, 111, 116]
 have q2 := beq_S nm [105, 115, 110, 117, 108, 108]
 have q3 := beq_S nm [108, 101, 110]
 have q4 := beq_S nm [97, 98, 115]
 have hst : aloneV ⟨k, nm, ⟨vk, vn, vt⟩, op⟩ ⟨k1, n1, s1⟩ = (if op = wNot then (bitV (!tr), 0) else if nm = wIsnull then (bitV (decide (k1 = 0)), 0) else if k1 = 0 then (⟨k1, n1, s1⟩, 0) else if nm = wLen then (ofV s1.size, 0) else if nm = wAbs ∧ 0 ≤ n1 then (⟨k1, n1, s1⟩, 0) else ar) := by
  rw [htre, hare]; rfl
 clear htre hare htr
 by_cases h1 : op = wNot
 ·rw [decide_eq_true (p := op = S [110, 111, 116]) h1] at q1
  rw [if_pos h1] at hst
  have Hf := Lib.hid hst
  clear hst h1 har
  cases tr
  ·simp only [bitV, Bool.not_false, if_true] at Hf
   go_enter Tryz.func149, Tryz.ntmps149
   go_wp2_with fail
   rw [← HW.out]
   refine (Htr.out _).mono ?_
   rintro e w1 ⟨rfl, u1⟩
   obtain ⟨a0, a1, a2, a3, a4, a5, a6, _⟩ := blk7 (u1.blk Hb1.out (by simp))
   obtain ⟨b0, b1, b2, _⟩ := blk3x (u1.blk Hb2.out (by simp))
   obtain ⟨r0, r1, r2, f0, f1, f2⟩ := blk3x (u1.blk Hbr.out (by simp))
   go_wp2_with fail
   clear a0 a1 a2 b0 b1 b2 r0 r1 r2 f0 f1 f2 a3 a4 a5 a6
   refine (HbT.out _).mono ?_
   rintro e w2 ⟨rfl, u2⟩
   obtain ⟨a0, a1, a2, a3, a4, a5, a6, _⟩ := blk7 (u2.blk (u1.blk Hb1.out (by simp)) (by simp))
   obtain ⟨b0, b1, b2, _⟩ := blk3x (u2.blk (u1.blk Hb2.out (by simp)) (by simp))
   obtain ⟨r0, r1, r2, f0, f1, f2⟩ := blk3x (u2.blk (u1.blk Hbr.out (by simp)) (by simp))
   go_wp2_with fail
   obtain ⟨q1, q2⟩ := out3 (u2.blk (u1.blk Hbr.out (by simp)) (by simp)) (.int .i64 1) (.int .i64 1) (.string ⟨#[]⟩)
   obtain ⟨d0, d1, d2, _⟩ := blk3x q1
   refine bodyPost_ret (v := .tuple #[.agg #[.int .i64 1, .int .i64 1, .string ⟨#[]⟩], .int .i64 (0)]) (by simp [results, Tryz.results149, go_sem, d0, d1, d2]) rfl ⟨?_, ((T0.out.trans0 u1).trans0 u2).trans q2 (fun b hb => .inr (by simp at hb; omega))⟩
   rw [Hf.out]; rfl
  ·simp only [bitV, Bool.not_true, Bool.false_eq_true, if_false] at Hf
   go_enter Tryz.func149, Tryz.ntmps149
   go_wp2_with fail
   rw [← HW.out]
   refine (Htr.out _).mono ?_
   rintro e w1 ⟨rfl, u1⟩
   obtain ⟨a0, a1, a2, a3, a4, a5, a6, _⟩ := blk7 (u1.blk Hb1.out (by simp))
   obtain ⟨b0, b1, b2, _⟩ := blk3x (u1.blk Hb2.out (by simp))
   obtain ⟨r0, r1, r2, f0, f1, f2⟩ := blk3x (u1.blk Hbr.out (by simp))
   go_wp2_with fail
   clear a0 a1 a2 b0 b1 b2 r0 r1 r2 f0 f1 f2 a3 a4 a5 a6
   refine (HbF.out _).mono ?_
   rintro e w2 ⟨rfl, u2⟩
   obtain ⟨a0, a1, a2, a3, a4, a5, a6, _⟩ := blk7 (u2.blk (u1.blk Hb1.out (by simp)) (by simp))
   obtain ⟨b0, b1, b2, _⟩ := blk3x (u2.blk (u1.blk Hb2.out (by simp)) (by simp))
   obtain ⟨r0, r1, r2, f0, f1, f2⟩ := blk3x (u2.blk (u1.blk Hbr.out (by simp)) (by simp))
   go_wp2_with fail
   obtain ⟨q1, q2⟩ := out3 (u2.blk (u1.blk Hbr.out (by simp)) (by simp)) (.int .i64 1) (.int .i64 0) (.string ⟨#[]⟩)
   obtain ⟨d0, d1, d2, _⟩ := blk3x q1
   refine bodyPost_ret (v := .tuple #[.agg #[.int .i64 1, .int .i64 0, .string ⟨#[]⟩], .int .i64 (0)]) (by simp [results, Tryz.results149, go_sem, d0, d1, d2]) rfl ⟨?_, ((T0.out.trans0 u1).trans0 u2).trans q2 (fun b hb => .inr (by simp at hb; omega))⟩
   rw [Hf.out]; rfl
 rw [decide_eq_false (p := op = S [110, 111, 116]) h1] at q1
 rw [if_neg h1] at hst
 clear h1 Htr
 by_cases h2 : nm = wIsnull
 ·rw [decide_eq_true (p := nm = S [105, 115, 110, 117, 108, 108]) h2] at q2
  rw [if_pos h2] at hst
  have Hf := Lib.hid hst
  clear hst h2 har q3 q4
  by_cases h5 : k1 = 0
  ·subst h5
   simp only [decide_true, bitV, if_true] at Hf
   go_enter Tryz.func149, Tryz.ntmps149
   go_wp2_with fail
   rw [← HW.out]
   refine (HbT.out _).mono ?_
   rintro e w1 ⟨rfl, u1⟩
   obtain ⟨a0, a1, a2, a3, a4, a5, a6, _⟩ := blk7 (u1.blk Hb1.out (by simp))
   obtain ⟨b0, b1, b2, _⟩ := blk3x (u1.blk Hb2.out (by simp))
   obtain ⟨r0, r1, r2, f0, f1, f2⟩ := blk3x (u1.blk Hbr.out (by simp))
   go_wp2_with fail
   obtain ⟨q1, q2⟩ := out3 (u1.blk Hbr.out (by simp)) (.int .i64 1) (.int .i64 1) (.string ⟨#[]⟩)
   obtain ⟨d0, d1, d2, _⟩ := blk3x q1
   refine bodyPost_ret (v := .tuple #[.agg #[.int .i64 1, .int .i64 1, .string ⟨#[]⟩], .int .i64 (0)]) (by simp [results, Tryz.results149, go_sem, d0, d1, d2]) rfl ⟨?_, (T0.out.trans0 u1).trans q2 (fun b hb => .inr (by simp at hb; omega))⟩
   rw [Hf.out]; rfl
  ·have q5 : (k1 == 0) = false := by simpa using h5
   simp only [h5, decide_false, bitV, Bool.false_eq_true, if_false] at Hf
   go_enter Tryz.func149, Tryz.ntmps149
   go_wp2_with fail
   rw [← HW.out]
   refine (HbF.out _).mono ?_
   rintro e w1 ⟨rfl, u1⟩
   obtain ⟨a0, a1, a2, a3, a4, a5, a6, _⟩ := blk7 (u1.blk Hb1.out (by simp))
   obtain ⟨b0, b1, b2, _⟩ := blk3x (u1.blk Hb2.out (by simp))
   obtain ⟨r0, r1, r2, f0, f1, f2⟩ := blk3x (u1.blk Hbr.out (by simp))
   go_wp2_with fail
   obtain ⟨q1, q2⟩ := out3 (u1.blk Hbr.out (by simp)) (.int .i64 1) (.int .i64 0) (.string ⟨#[]⟩)
   obtain ⟨d0, d1, d2, _⟩ := blk3x q1
   refine bodyPost_ret (v := .tuple #[.agg #[.int .i64 1, .int .i64 0, .string ⟨#[]⟩], .int .i64 (0)]) (by simp [results, Tryz.results149, go_sem, d0, d1, d2]) rfl ⟨?_, (T0.out.trans0 u1).trans q2 (fun b hb => .inr (by simp at hb; omega))⟩
   rw [Hf.out]; rfl
 rw [decide_eq_false (p := nm = S [105, 115, 110, 117, 108, 108]) h2] at q2
 rw [if_neg h2] at hst
 clear h2 HbT HbF
 by_cases h5 : k1 = 0
 ·rw [if_pos h5] at hst
  have Hf := Lib.hid hst
  clear hst har
  subst h5
  go_enter Tryz.func149, Tryz.ntmps149
  go_wp2_with fail
  have q1 := heap_alloc_new ((w.alloc (.cells #[.int .i64 k, .string nm, .int .i64 vk, .int .i64 vn, .string vt, .string op, .slice A m c] 44)).alloc (.cells #[.int .i64 0, .int .i64 n1, .string s1] 31)) (.cells #[.int .i64 0, .int .i64 n1, .string s1] 31)
  simp only [World.size_alloc] at q1
  obtain ⟨d0, d1, d2, _⟩ := blk3x q1
  refine bodyPost_ret (v := .tuple #[.agg #[.int .i64 0, .int .i64 n1, .string s1], .int .i64 (0)]) (by simp [results, Tryz.results149, go_sem, d0, d1, d2]) rfl ⟨?_, (((Touch.refl [] w).alloc (.cells #[.int .i64 k, .string nm, .int .i64 vk, .int .i64 vn, .string vt, .string op, .slice A m c] 44)).alloc (.cells #[.int .i64 0, .int .i64 n1, .string s1] 31)).alloc _⟩
  rw [Hf.out]
 have q5 : (k1 == 0) = false := by simpa using h5
 rw [if_neg h5] at hst
 clear h5
 by_cases h3 : nm = wLen
 ·rw [decide_eq_true (p := nm = S [108, 101, 110]) h3] at q3
  rw [if_pos h3] at hst
  have Hf := Lib.hid hst
  clear hst h3 har q4
  go_enter Tryz.func149, Tryz.ntmps149
  go_wp2_with fail
  rw [← HW.out]
  refine (Hof.out _ _).mono ?_
  rintro e w1 ⟨rfl, u1⟩
  obtain ⟨a0, a1, a2, a3, a4, a5, a6, _⟩ := blk7 (u1.blk Hb1.out (by simp))
  obtain ⟨b0, b1, b2, _⟩ := blk3x (u1.blk Hb2.out (by simp))
  obtain ⟨r0, r1, r2, f0, f1, f2⟩ := blk3x (u1.blk Hbr.out (by simp))
  go_wp2_with fail
  obtain ⟨q1, q2⟩ := out3 (u1.blk Hbr.out (by simp)) (.int .i64 1) (.int .i64 s1.size) (.string ⟨#[]⟩)
  obtain ⟨d0, d1, d2, _⟩ := blk3x q1
  refine bodyPost_ret (v := .tuple #[.agg #[.int .i64 1, .int .i64 s1.size, .string ⟨#[]⟩], .int .i64 (0)]) (by simp [results, Tryz.results149, go_sem, d0, d1, d2]) rfl ⟨?_, (T0.out.trans0 u1).trans q2 (fun b hb => .inr (by simp at hb; omega))⟩
  rw [Hf.out]; rfl
 rw [decide_eq_false (p := nm = S [108, 101, 110]) h3] at q3
 rw [if_neg h3] at hst
 clear h3
 by_cases h4 : nm = wAbs ∧ 0 ≤ n1
 ·rw [if_pos h4] at hst
  obtain ⟨h4a, h4b⟩ := h4
  rw [decide_eq_true (p := nm = S [97, 98, 115]) h4a] at q4
  have Hf := Lib.hid hst
  clear hst h4a har
  go_enter Tryz.func149, Tryz.ntmps149
  go_wp2_with fail
  have q1 := heap_alloc_new ((w.alloc (.cells #[.int .i64 k, .string nm, .int .i64 vk, .int .i64 vn, .string vt, .string op, .slice A m c] 44)).alloc (.cells #[.int .i64 k1, .int .i64 n1, .string s1] 31)) (.cells #[.int .i64 k1, .int .i64 n1, .string s1] 31)
  simp only [World.size_alloc] at q1
  obtain ⟨d0, d1, d2, _⟩ := blk3x q1
  refine bodyPost_ret (v := .tuple #[.agg #[.int .i64 k1, .int .i64 n1, .string s1], .int .i64 (0)]) (by simp [results, Tryz.results149, go_sem, d0, d1, d2]) rfl ⟨?_, (((Touch.refl [] w).alloc (.cells #[.int .i64 k, .string nm, .int .i64 vk, .int .i64 vn, .string vt, .string op, .slice A m c] 44)).alloc (.cells #[.int .i64 k1, .int .i64 n1, .string s1] 31)).alloc _⟩
  rw [Hf.out]
 rw [if_neg h4] at hst
 have Har := Lib.hid har
 have Hf := Lib.hid hst
 clear hst har
 have td := (Touch.refl [] W).drew
 obtain ⟨v0, v1, v2, _⟩ := blk3x (td.blk Hb2.out (by simp))
 obtain ⟨⟨rk, rn, rs⟩, rx⟩ := ar
 simp only at Har Hf
 by_cases h4a : nm = wAbs
 ·have h4b : ¬ 0 ≤ n1 := fun h => h4 ⟨h4a, h⟩
  rw [decide_eq_true (p := nm = S [97, 98, 115]) h4a] at q4
  clear h4 h4a
  go_enter Tryz.func149, Tryz.ntmps149
  go_wp2_with fail
  rw [← HW.out]
  refine wp_region_held_drew (S := fun w' => w'.cell? ⟨w.heap.size + 1, 0, none⟩ = some (.int .i64 k1) ∧ w'.cell? ⟨w.heap.size + 1, 1, none⟩ = some (.int .i64 n1) ∧ w'.cell? ⟨w.heap.size + 1, 2, none⟩ = some (.string s1)) (by kernel_rfl) ⟨v0, v1, v2⟩ (fun hHeld => ?_)
  refine take_d (i := 1) (d := 46) (v := ?_) rfl rfl (by kernel_rfl) (by kernel_rfl) (by kernel_rfl) (fun _ _ _ h => h) (Or.inl ⟨by rfl, ?_⟩) (by assumption) ?_
  rotate_left
  ·intro w hSw; (try dsimp only at hSw); go_simp; (try with_reducible rfl)
  try simp only [Act.put, List.setIfInBounds_toArray, List.set_cons_zero, List.set_cons_succ]
  refine wpAnyH_ready (rs := [0]) (by kernel_rfl) (by simp) ?_
  refine AllReadyH.cons rfl (fun K hK => ?_) AllReadyH.nil
  go_simp
  go_at_call 11
  refine (Hof.out 0 _).mono ?_
  rintro e w1 ⟨rfl, u1⟩
  have v0' := u1.cell v0 (by simp)
  have v1' := u1.cell v1 (by simp)
  have v2' := u1.cell v2 (by simp)
  (try go_wp2_with fail)
  refine hK.out _ _ ⟨v0', v1', v2'⟩ (fun _hH => ?_)
  clear hK K
  try simp only [Act.put, List.setIfInBounds_toArray, List.set_cons_zero, List.set_cons_succ]
  refine wpAnyH_ready (rs := [2]) (by kernel_rfl) (by simp) ?_
  refine AllReadyH.cons rfl (fun K hK => ?_) AllReadyH.nil
  go_simp
  go_at_call 153
  refine (Har.out _).mono ?_
  rintro e w2 ⟨rfl, u2⟩
  have v0'' := u2.cell v0' (by simp)
  have v1'' := u2.cell v1' (by simp)
  have v2'' := u2.cell v2' (by simp)
  (try go_wp2_with fail)
  refine hK.out _ _ ⟨v0'', v1'', v2''⟩ (fun _hH => ?_)
  clear hK K
  try simp only [Act.put, List.setIfInBounds_toArray, List.set_cons_zero, List.set_cons_succ]
  refine take_d (i := 3) (d := 48) (v := ?_) rfl rfl (by kernel_rfl) (by kernel_rfl) (by kernel_rfl) (fun _ _ _ h => h) (Or.inl ⟨by rfl, ?_⟩) (by assumption) ?_
  rotate_left
  ·intro w hSw; (try dsimp only at hSw); go_simp; (try with_reducible rfl)
  try simp only [Act.put, List.setIfInBounds_toArray, List.set_cons_zero, List.set_cons_succ]
  refine take_d (i := 4) (d := 49) (v := ?_) rfl rfl (by kernel_rfl) (by kernel_rfl) (by kernel_rfl) (fun _ _ _ h => h) (Or.inl ⟨by rfl, ?_⟩) (by assumption) ?_
  rotate_left
  ·intro w hSw; (try dsimp only at hSw); go_simp; (try with_reducible rfl)
  try simp only [Act.put, List.setIfInBounds_toArray, List.set_cons_zero, List.set_cons_succ]
  have hbr2 := (td.trans0 (u1.trans0 u2)).blk Hbr.out (by simp)
  obtain ⟨r0, r1, r2, f0, f1, f2⟩ := blk3x hbr2
  obtain ⟨q1, q2⟩ := out3 hbr2 (.int .i64 rk) (.int .i64 rn) (.string rs)
  have z0 := q2.cell v0'' (by simp only [List.mem_singleton]; omega)
  have z1 := q2.cell v1'' (by simp only [List.mem_singleton]; omega)
  have z2 := q2.cell v2'' (by simp only [List.mem_singleton]; omega)
  refine wpAnyH_ready (rs := [5]) (by kernel_rfl) (by simp) ?_
  refine AllReadyH.cons rfl (fun K hK => ?_) AllReadyH.nil
  go_simp
  (try go_wp2_with fail)
  refine hK.out _ _ ⟨z0, z1, z2⟩ (fun _hH => ?_)
  clear hK K
  try simp only [Act.put, List.setIfInBounds_toArray, List.set_cons_zero, List.set_cons_succ]
  refine take_d (i := 6) (d := 5) (v := ?_) rfl rfl (by kernel_rfl) (by kernel_rfl) (by kernel_rfl) (fun _ _ _ h => h) (Or.inl ⟨by rfl, ?_⟩) (by assumption) ?_
  rotate_left
  ·intro w hSw; (try dsimp only at hSw); go_simp; (try with_reducible rfl)
  try simp only [Act.put, List.setIfInBounds_toArray, List.set_cons_zero, List.set_cons_succ]
  refine wpAnyH_done (by kernel_rfl) ?_ _
  go_wp2_with fail
  obtain ⟨d0, d1, d2, _⟩ := blk3x q1
  refine bodyPost_ret (v := .tuple #[.agg #[.int .i64 rk, .int .i64 rn, .string rs], .int .i64 rx]) (by simp [results, Tryz.results149, go_sem, d0, d1, d2]) rfl ⟨?_, (T0.out.trans0 (td.trans0 (u1.trans0 u2))).trans q2 (fun b hb => .inr (by simp at hb; omega))⟩
  rw [Hf.out]
 ·rw [decide_eq_false (p := nm = S [97, 98, 115]) h4a] at q4
  clear h4 h4a
  go_enter Tryz.func149, Tryz.ntmps149
  go_wp2_with fail
  rw [← HW.out]
  refine wp_region_held_drew (S := fun w' => w'.cell? ⟨w.heap.size + 1, 0, none⟩ = some (.int .i64 k1) ∧ w'.cell? ⟨w.heap.size + 1, 1, none⟩ = some (.int .i64 n1) ∧ w'.cell? ⟨w.heap.size + 1, 2, none⟩ = some (.string s1)) (by kernel_rfl) ⟨v0, v1, v2⟩ (fun hHeld => ?_)
  refine take_d (i := 1) (d := 46) (v := ?_) rfl rfl (by kernel_rfl) (by kernel_rfl) (by kernel_rfl) (fun _ _ _ h => h) (Or.inl ⟨by rfl, ?_⟩) (by assumption) ?_
  rotate_left
  ·intro w hSw; (try dsimp only at hSw); go_simp; (try with_reducible rfl)
  try simp only [Act.put, List.setIfInBounds_toArray, List.set_cons_zero, List.set_cons_succ]
  refine wpAnyH_ready (rs := [0]) (by kernel_rfl) (by simp) ?_
  refine AllReadyH.cons rfl (fun K hK => ?_) AllReadyH.nil
  go_simp
  go_at_call 11
  refine (Hof.out 0 _).mono ?_
  rintro e w1 ⟨rfl, u1⟩
  have v0' := u1.cell v0 (by simp)
  have v1' := u1.cell v1 (by simp)
  have v2' := u1.cell v2 (by simp)
  (try go_wp2_with fail)
  refine hK.out _ _ ⟨v0', v1', v2'⟩ (fun _hH => ?_)
  clear hK K
  try simp only [Act.put, List.setIfInBounds_toArray, List.set_cons_zero, List.set_cons_succ]
  refine wpAnyH_ready (rs := [2]) (by kernel_rfl) (by simp) ?_
  refine AllReadyH.cons rfl (fun K hK => ?_) AllReadyH.nil
  go_simp
  go_at_call 153
  refine (Har.out _).mono ?_
  rintro e w2 ⟨rfl, u2⟩
  have v0'' := u2.cell v0' (by simp)
  have v1'' := u2.cell v1' (by simp)
  have v2'' := u2.cell v2' (by simp)
  (try go_wp2_with fail)
  refine hK.out _ _ ⟨v0'', v1'', v2''⟩ (fun _hH => ?_)
  clear hK K
  try simp only [Act.put, List.setIfInBounds_toArray, List.set_cons_zero, List.set_cons_succ]
  refine take_d (i := 3) (d := 48) (v := ?_) rfl rfl (by kernel_rfl) (by kernel_rfl) (by kernel_rfl) (fun _ _ _ h => h) (Or.inl ⟨by rfl, ?_⟩) (by assumption) ?_
  rotate_left
  ·intro w hSw; (try dsimp only at hSw); go_simp; (try with_reducible rfl)
  try simp only [Act.put, List.setIfInBounds_toArray, List.set_cons_zero, List.set_cons_succ]
  refine take_d (i := 4) (d := 49) (v := ?_) rfl rfl (by kernel_rfl) (by kernel_rfl) (by kernel_rfl) (fun _ _ _ h => h) (Or.inl ⟨by rfl, ?_⟩) (by assumption) ?_
  rotate_left
  ·intro w hSw; (try dsimp only at hSw); go_simp; (try with_reducible rfl)
  try simp only [Act.put, List.setIfInBounds_toArray, List.set_cons_zero, List.set_cons_succ]
  have hbr2 := (td.trans0 (u1.trans0 u2)).blk Hbr.out (by simp)
  obtain ⟨r0, r1, r2, f0, f1, f2⟩ := blk3x hbr2
  obtain ⟨q1, q2⟩ := out3 hbr2 (.int .i64 rk) (.int .i64 rn) (.string rs)
  have z0 := q2.cell v0'' (by simp only [List.mem_singleton]; omega)
  have z1 := q2.cell v1'' (by simp only [List.mem_singleton]; omega)
  have z2 := q2.cell v2'' (by simp only [List.mem_singleton]; omega)
  refine wpAnyH_ready (rs := [5]) (by kernel_rfl) (by simp) ?_
  refine AllReadyH.cons rfl (fun K hK => ?_) AllReadyH.nil
  go_simp
  (try go_wp2_with fail)
  refine hK.out _ _ ⟨z0, z1, z2⟩ (fun _hH => ?_)
  clear hK K
  try simp only [Act.put, List.setIfInBounds_toArray, List.set_cons_zero, List.set_cons_succ]
  refine take_d (i := 6) (d := 5) (v := ?_) rfl rfl (by kernel_rfl) (by kernel_rfl) (by kernel_rfl) (fun _ _ _ h => h) (Or.inl ⟨by rfl, ?_⟩) (by assumption) ?_
  rotate_left
  ·intro w hSw; (try dsimp only at hSw); go_simp; (try with_reducible rfl)
  try simp only [Act.put, List.setIfInBounds_toArray, List.set_cons_zero, List.set_cons_succ]
  refine wpAnyH_done (by kernel_rfl) ?_ _
  go_wp2_with fail
  obtain ⟨d0, d1, d2, _⟩ := blk3x q1
  refine bodyPost_ret (v := .tuple #[.agg #[.int .i64 rk, .int .i64 rn, .string rs], .int .i64 rx]) (by simp [results, Tryz.results149, go_sem, d0, d1, d2]) rfl ⟨?_, (T0.out.trans0 (td.trans0 (u1.trans0 u2))).trans q2 (fun b hb => .inr (by simp at hb; omega))⟩
  rw [Hf.out]
end Go.Proofs.YtafoklilkdnepaaGreatDoor

/- What an expression's value is, as the program reckons it; which shapes a right form has. No walk. -/
namespace Go.Proofs.YtafoklilkdnepaaGreatDoor
open Go.RowKit

def wAnd : ByteArray := S [97, 110, 100]
def wOr : ByteArray := S [111, 114]
def wEither : ByteArray := S [101, 105, 116, 104, 101, 114]
def wIf : ByteArray := S [105, 102]
def wCat : ByteArray := S [99, 97, 116]
/-- the ways of comparing, by their texts -/
def cmpI (s : ByteArray) : Int := Lib.idxOfS [S [], S [61], S [33, 61], S [60], S [60, 61], S [62], S [62, 61]] s
/-- what is told by the first Arg alone, or which Arg tells it; nothing: all are asked -/
def lazyV (d : ND) (f : VD) : Option (VD ⊕ Nat) :=
 if d.op = wAnd then (if f.tru = true then some (.inr 1) else some (.inl (ofV 0)))
 else if d.op = wOr then (if f.tru = true then some (.inl (ofV 1)) else some (.inr 1))
 else if d.name = wEither then (if f.kind = 0 then some (.inr 1) else some (.inl f))
 else if d.name = wIf then some (.inr (if f.tru = true then 1 else 2))
 else none
def bitIf (k : Int) (r : VD × Int) : VD × Int := if r.2 = 0 ∧ k = 4 then (bitV r.1.tru, 0) else r
def lazyX {α : Type} (ev : α → VD × Int) (d : ND) (args : List α) (f : VD) : Option (VD × Int) :=
 match lazyV d f with
 | none => none
 | some (.inl v) => some (v, 0)
 | some (.inr q) => match args[q]? with
  | none => some (zeroV, 0)
  | some a => some (bitIf d.kind (ev a))
/-- two values, by an operation or a call that asks for both -/
def bothV (d : ND) (f s : VD) : VD × Int :=
 if d.name = wCat then catV f s else if 0 < cmpI d.op then (compareV (cmpI d.op) f s, 0) else arithV ((d.op.data.toList.headD 0).toNat : Int) f s
def evalX (cs : List CD) (row : List VD) : (n : Nat) → TX n → VD × Int
 | 0, _ => (zeroV, 0)
 | n + 1, e =>
  if e.1.kind = 1 then (row.getD ((placeV cs e.1.name).getD 0) zeroV, 0)
  else if e.1.kind = 2 then (e.1.v, 0)
  else match e.2 with
   | [] => (zeroV, 0)
   | a :: r =>
    if (evalX cs row n a).2 ≠ 0 then (zeroV, (evalX cs row n a).2)
    else match lazyX (evalX cs row n) e.1 (a :: r) (evalX cs row n a).1 with
     | some z => z
     | none => match r with
      | [] => aloneV e.1 (evalX cs row n a).1
      | b :: _ => if (evalX cs row n b).2 ≠ 0 then (zeroV, (evalX cs row n b).2) else bothV e.1 (evalX cs row n a).1 (evalX cs row n b).1
theorem evalX_succ (cs : List CD) (row : List VD) (n : Nat) (e : TX (n + 1)) : evalX cs row (n + 1) e =
  if e.1.kind = 1 then (row.getD ((placeV cs e.1.name).getD 0) zeroV, 0)
  else if e.1.kind = 2 then (e.1.v, 0)
  else match e.2 with
   | [] => (zeroV, 0)
   | a :: r =>
    if (evalX cs row n a).2 ≠ 0 then (zeroV, (evalX cs row n a).2)
    else match lazyX (evalX cs row n) e.1 (a :: r) (evalX cs row n a).1 with
     | some z => z
     | none => match r with
      | [] => aloneV e.1 (evalX cs row n a).1
      | b :: _ => if (evalX cs row n b).2 ≠ 0 then (zeroV, (evalX cs row n b).2) else bothV e.1 (evalX cs row n a).1 (evalX cs row n b).1 := rfl
/-- right all the way down -/
def okX (cs : List CD) : (n : Nat) → TX n → Prop
 | 0, _ => True
 | n + 1, e => formV e.1 e.2.length = true ∧ (e.1.kind = 1 → (placeV cs e.1.name).isSome = true) ∧ ∀ a ∈ e.2, okX cs n a
theorem okX_of (cs : List CD) : ∀ (n d : Nat) (e : TX n), (typedX cs n d e).2 = 0 → okX cs n e
 | 0, _, e => e.elim
 | n + 1, d, e => fun h => by
  rw [typedX_succ] at h
  by_cases h1 : 32 < d
  ·rw [if_pos h1] at h; cases h
  rw [if_neg h1] at h
  by_cases h2 : formV e.1 e.2.length = false
  ·rw [if_pos h2] at h; cases h
  rw [if_neg h2] at h
  have h2' : formV e.1 e.2.length = true := by simpa using h2
  by_cases h3 : e.1.kind = 2
  ·refine ⟨h2', fun h4 => by omega, fun a ha => ?_⟩
   unfold formV at h2'
   rw [if_neg (by omega), if_pos h3, Bool.and_eq_true, Bool.and_eq_true, Bool.and_eq_true] at h2'
   have := of_decide_eq_true h2'.2.2.1
   rw [List.eq_nil_of_length_eq_zero this] at ha
   cases ha
  rw [if_neg h3] at h
  by_cases h4 : e.1.kind = 1
  ·rw [if_pos h4] at h
   refine ⟨h2', fun _ => ?_, fun a ha => ?_⟩
   ·rcases hp : placeV cs e.1.name with _ | q
    ·unfold colT at h; rw [hp] at h; cases h
    ·rfl
   ·unfold formV at h2'
    rw [if_pos h4, Bool.and_eq_true, Bool.and_eq_true] at h2'
    have := of_decide_eq_true h2'.2.1
    rw [List.eq_nil_of_length_eq_zero this] at ha
    cases ha
  rw [if_neg h4] at h
  refine ⟨h2', fun h => absurd h h4, fun a ha => ?_⟩
  rcases hf : e.2.find? (fun a => decide ((typedX cs n (d + 1) a).2 ≠ 0)) with _ | b
  ·have := List.find?_eq_none.1 hf a ha
   exact okX_of cs n (d + 1) a (by simpa using this)
  ·rw [hf] at h
   have := List.find?_some hf
   simp only [decide_eq_true_eq] at this
   exact absurd h this

/-- a right form that is no column and no constant -/
theorem shape {d : ND} {n : Nat} (h : formV d n = true) (h1 : d.kind ≠ 1) (h2 : d.kind ≠ 2) :
  (d.kind = 3 ∧ n = 1 ∧ d.name = S [] ∧ (d.op = S [45] ∨ d.op = wNot)) ∨
  (d.kind = 4 ∧ n = 2 ∧ d.name = S [] ∧ (d.op = S [43] ∨ d.op = S [45] ∨ d.op = S [42] ∨ d.op = S [47] ∨ d.op = S [37] ∨ d.op = S [61] ∨ d.op = S [33, 61] ∨ d.op = S [60] ∨ d.op = S [60, 61] ∨ d.op = S [62] ∨ d.op = S [62, 61] ∨ d.op = wAnd ∨ d.op = wOr)) ∨
  (d.kind = 5 ∧ d.op = S [] ∧ ((n = 1 ∧ (d.name = wLen ∨ d.name = wAbs ∨ d.name = wIsnull)) ∨ (n = 2 ∧ (d.name = wCat ∨ d.name = wEither)) ∨ (n = 3 ∧ d.name = wIf))) := by
 unfold formV at h
 rw [if_neg h1, if_neg h2, Bool.and_eq_true, Bool.and_eq_true] at h
 obtain ⟨ha, _, hc⟩ := h
 have hr : ∃ r ∈ rulesV d.kind, r.name = keyN d ∧ n = r.args.length := by
  unfold ruleV at ha
  rcases hi : ruleI d with _ | k
  ·rw [hi] at ha; cases ha
  ·rw [hi] at ha
   unfold ruleI at hi
   rw [List.findIdx?_eq_some_iff_getElem] at hi
   obtain ⟨hk, hp, _⟩ := hi
   simp only at ha
   rw [List.getElem?_eq_getElem hk] at ha
   exact ⟨_, List.getElem_mem hk, of_decide_eq_true hp, of_decide_eq_true ha⟩
 obtain ⟨r, hm, hn, hl⟩ := hr
 unfold rulesV at hm
 unfold keyN at hn
 by_cases k3 : d.kind = 3
 ·left
  rw [if_neg (by omega)] at hc hn
  have hc' := of_decide_eq_true hc
  rw [if_pos k3] at hm
  simp only [List.mem_cons, List.not_mem_nil, or_false] at hm
  rcases hm with rfl | rfl
  ·exact ⟨k3, hl, hc', .inl hn.symm⟩
  ·exact ⟨k3, hl, hc', .inr hn.symm⟩
 rw [if_neg k3] at hm
 by_cases k4 : d.kind = 4
 ·right; left
  rw [if_neg (by omega)] at hc hn
  have hc' := of_decide_eq_true hc
  rw [if_pos k4] at hm
  simp only [List.mem_cons, List.not_mem_nil, or_false] at hm
  refine ⟨k4, ?_, hc', ?_⟩
  ·rcases hm with rfl | rfl | rfl | rfl | rfl | rfl | rfl | rfl | rfl | rfl | rfl | rfl | rfl <;> exact hl
  ·rcases hm with rfl | rfl | rfl | rfl | rfl | rfl | rfl | rfl | rfl | rfl | rfl | rfl | rfl <;> simp only at hn <;> rw [← hn] <;> simp [wAnd, wOr]
 rw [if_neg k4] at hm
 by_cases k5 : d.kind = 5
 ·right; right
  rw [if_pos k5] at hc hn
  have hc' := of_decide_eq_true hc
  rw [if_pos k5] at hm
  simp only [List.mem_cons, List.not_mem_nil, or_false] at hm
  refine ⟨k5, hc', ?_⟩
  rcases hm with rfl | rfl | rfl | rfl | rfl | rfl
  ·exact .inl ⟨hl, .inl hn.symm⟩
  ·exact .inl ⟨hl, .inr (.inl hn.symm)⟩
  ·exact .inl ⟨hl, .inr (.inr hn.symm)⟩
  ·exact .inr (.inl ⟨hl, .inl hn.symm⟩)
  ·exact .inr (.inl ⟨hl, .inr hn.symm⟩)
  ·exact .inr (.inr ⟨hl, hn.symm⟩)
 ·rw [if_neg k5] at hm; cases hm

/-- texts stay short -/
theorem arith_text (o : Int) (a b : VD) (M : Nat) : (arithV o a b).1.text.size ≤ M := by
 have h0 : (S []).size = 0 := rfl
 unfold arithV
 (repeat' split) <;> simp [zeroV, ofV, h0]
theorem bit_text (b : Bool) (M : Nat) : (bitV b).text.size ≤ M := by
 have h0 : (S []).size = 0 := rfl
 cases b <;> simp [bitV, ofV, h0]
theorem alone_text (d : ND) (v : VD) (M : Nat) (h : v.text.size ≤ M) : (aloneV d v).1.text.size ≤ M := by
 unfold aloneV
 split
 ·exact bit_text _ _
 ·split
  ·exact bit_text _ _
  ·split
   ·exact h
   ·split
    ·exact Nat.zero_le _
    ·split
     ·exact h
     ·exact arith_text _ _ _ _
theorem both_text (d : ND) (f s : VD) (M : Nat) (hM : 64 ≤ M) : (bothV d f s).1.text.size ≤ M := by
 have h0 : (S []).size = 0 := rfl
 unfold bothV
 split
 ·unfold catV
  split
  ·exact Nat.zero_le _
  ·split
   ·exact Nat.zero_le _
   ·show (f.text ++ s.text).size ≤ M
    rw [ByteArray.size_append]; omega
 ·split
  ·unfold compareV
   split
   ·exact Nat.zero_le _
   ·exact bit_text _ _
  ·exact arith_text _ _ _ _
theorem eval_text (cs : List CD) (row : List VD) (M : Nat) (hM : 64 ≤ M) (hr : ∀ v ∈ row, v.text.size ≤ M) : ∀ (n : Nat) (e : TX n), allX (fun q => q.v.text.size ≤ M) n e → (evalX cs row n e).1.text.size ≤ M
 | 0, e => e.elim
 | n + 1, e => fun ha => by
  obtain ⟨h1, h2⟩ := ha
  rw [evalX_succ]
  generalize e.1 = d at h1 h2 ⊢
  generalize e.2 = args at h1 h2 ⊢
  split
  ·simp only
   rw [List.getD_eq_getElem?_getD]
   rcases hg : row[(placeV cs d.name).getD 0]? with _ | v
   ·exact Nat.zero_le _
   ·exact hr v (List.mem_of_getElem? hg)
  ·split
   ·exact h1
   ·cases args with
    | nil => exact Nat.zero_le _
    | cons a r =>
     have e1 := eval_text cs row M hM hr n a (h2 a List.mem_cons_self)
     simp only
     split
     ·exact Nat.zero_le _
     ·rcases hl : lazyX (evalX cs row n) d (a :: r) (evalX cs row n a).1 with _ | z
      ·simp only
       cases r with
       | nil => exact alone_text _ _ _ e1
       | cons b r =>
        simp only
        split
        ·exact Nat.zero_le _
        ·exact both_text _ _ _ _ hM
      ·simp only
       unfold lazyX at hl
       rcases hv : lazyV d (evalX cs row n a).1 with _ | v
       ·rw [hv] at hl; cases hl
       ·rw [hv] at hl
        cases v with
        | inl v =>
         cases hl
         unfold lazyV at hv
         (repeat' split at hv) <;> simp at hv <;> subst hv <;> first | exact e1 | exact Nat.zero_le _
        | inr q =>
         simp only at hl
         rcases hq : (a :: r)[q]? with _ | x
         ·rw [hq] at hl; cases hl; exact Nat.zero_le _
         ·rw [hq] at hl
          cases hl
          have := eval_text cs row M hM hr n x (h2 x (List.mem_of_getElem? hq))
          unfold bitIf
          split
          ·exact bit_text _ _
          ·exact this
end Go.Proofs.YtafoklilkdnepaaGreatDoor
