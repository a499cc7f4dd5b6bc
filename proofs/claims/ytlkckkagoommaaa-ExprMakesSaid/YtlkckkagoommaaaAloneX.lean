/- expr.Expr.alone: an operation of one. For every expression and value. -/
import Derived.Test.YtlkckkagoommaaaCmpX
namespace Go.Proofs.Ytlkckkagoommaaa
open Go.RowKit
attribute [local go_sem ↓] Go.wp_at_zero Go.wp_at_succ

theorem beq_S (x : ByteArray) (l : List UInt8) : (x.toList == l) = decide (x = S l) := by
  have := bs_beq x (S l)
  rwa [S_list] at this

set_option maxRecDepth 20000 in
set_option maxHeartbeats 3200000 in
theorem alone_any (x : XC) (v : VD) (w : World) :
    Calls Try.prog 52 #[x.val, v.val] w fun e w' => e = .returned (.tuple #[(aloneV x.nd v).1.val, .int .i64 (aloneV x.nd v).2]) ∧ Touch [] w w' := by
  have htr := fun w' => true_any v w'
  have har := fun w' => arith_any 45 (by simp) (ofV 0) v w'
  obtain ⟨tr, htre⟩ : ∃ tr, tr = v.tru := ⟨_, rfl⟩
  rw [← htre] at htr
  obtain ⟨ar, hare⟩ : ∃ ar, ar = arithV 45 (ofV 0) v := ⟨_, rfl⟩
  rw [← hare] at har
  obtain ⟨⟨k, nm, ⟨vk, vn, vt⟩, op⟩, A, m, c⟩ := x
  obtain ⟨k1, n1, s1⟩ := v
  dsimp only [XC.val, VD.val]
  have t0 := (((Touch.refl [] w).alloc (.cells #[.int .i64 k, .string nm, .int .i64 vk, .int .i64 vn, .string vt, .string op, .slice A m c] 33)).alloc (.cells #[.int .i64 k1, .int .i64 n1, .string s1] 30)).alloc (.cells #[.int .i64 0, .int .i64 0, .string ⟨#[]⟩] 30)
  have hb1 := (((Touch.refl [] (w.alloc (.cells #[.int .i64 k, .string nm, .int .i64 vk, .int .i64 vn, .string vt, .string op, .slice A m c] 33))).alloc (.cells #[.int .i64 k1, .int .i64 n1, .string s1] 30)).alloc (.cells #[.int .i64 0, .int .i64 0, .string ⟨#[]⟩] 30)).blk (heap_alloc_new w (.cells #[.int .i64 k, .string nm, .int .i64 vk, .int .i64 vn, .string vt, .string op, .slice A m c] 33)) (by simp)
  have hb2 := ((Touch.refl [] ((w.alloc (.cells #[.int .i64 k, .string nm, .int .i64 vk, .int .i64 vn, .string vt, .string op, .slice A m c] 33)).alloc (.cells #[.int .i64 k1, .int .i64 n1, .string s1] 30))).alloc (.cells #[.int .i64 0, .int .i64 0, .string ⟨#[]⟩] 30)).blk (heap_alloc_new (w.alloc (.cells #[.int .i64 k, .string nm, .int .i64 vk, .int .i64 vn, .string vt, .string op, .slice A m c] 33)) (.cells #[.int .i64 k1, .int .i64 n1, .string s1] 30)) (by simp)
  have hbr := heap_alloc_new ((w.alloc (.cells #[.int .i64 k, .string nm, .int .i64 vk, .int .i64 vn, .string vt, .string op, .slice A m c] 33)).alloc (.cells #[.int .i64 k1, .int .i64 n1, .string s1] 30)) (.cells #[.int .i64 0, .int .i64 0, .string ⟨#[]⟩] 30)
  simp only [World.size_alloc] at hb2 hbr
  obtain ⟨W, hW⟩ : ∃ W, W = ((w.alloc (.cells #[.int .i64 k, .string nm, .int .i64 vk, .int .i64 vn, .string vt, .string op, .slice A m c] 33)).alloc (.cells #[.int .i64 k1, .int .i64 n1, .string s1] 30)).alloc (.cells #[.int .i64 0, .int .i64 0, .string ⟨#[]⟩] 30) := ⟨_, rfl⟩
  rw [← hW] at hb1 hb2 hbr t0
  have HW := Lib.hid hW; have Hb1 := Lib.hid hb1; have Hb2 := Lib.hid hb2; have Hbr := Lib.hid hbr; have T0 := Lib.hid t0
  have Hnull := Lib.hid fun w' => null_any w'
  have Hof := Lib.hid fun n w' => of_any n w'
  simp only [VD.val, zeroV, ofV, S] at Hnull Hof
  clear hW hb1 hb2 hbr t0
  simp only [VD.val] at htr
  simp only [VD.val, ofV, S] at har
  have HbT := Lib.hid fun w' => bit_any true w'
  have HbF := Lib.hid fun w' => bit_any false w'
  simp only [bitV, if_true, Bool.false_eq_true, if_false, VD.val, ofV, S] at HbT HbF
  have Htr := Lib.hid htr
  have q1 := beq_S op [110, 111, 116]
  have q2 := beq_S nm [105, 115, 110, 117, 108, 108]
  have q3 := beq_S nm [108, 101, 110]
  have q4 := beq_S nm [97, 98, 115]
  have hst : aloneV ⟨k, nm, ⟨vk, vn, vt⟩, op⟩ ⟨k1, n1, s1⟩ = (if op = wNot then (bitV (!tr), 0) else if nm = wIsnull then (bitV (decide (k1 = 0)), 0) else if k1 = 0 then (⟨k1, n1, s1⟩, 0) else if nm = wLen then (ofV s1.size, 0) else if nm = wAbs ∧ 0 ≤ n1 then (⟨k1, n1, s1⟩, 0) else ar) := by
    rw [htre, hare]; rfl
  clear htre hare htr
  by_cases h1 : op = wNot
  · rw [decide_eq_true (p := op = S [110, 111, 116]) h1] at q1
    rw [if_pos h1] at hst
    have Hf := Lib.hid hst
    clear hst h1 har
    cases tr
    · simp only [bitV, Bool.not_false, if_true] at Hf
      go_enter Try.func52, Try.ntmps52
      go_wp2_with fail
      rw [← HW.out]
      refine (Htr.out _).mono ?_
      rintro e w1 ⟨rfl, u1⟩
      obtain ⟨a0, a1, a2, a3, a4, a5, a6, _⟩ := blk7 (u1.blk Hb1.out (by simp))
      obtain ⟨b0, b1, b2, _⟩ := blk3 (u1.blk Hb2.out (by simp))
      obtain ⟨r0, r1, r2, f0, f1, f2⟩ := blk3 (u1.blk Hbr.out (by simp))
      go_wp2_with fail
      clear a0 a1 a2 b0 b1 b2 r0 r1 r2 f0 f1 f2 a3 a4 a5 a6
      refine (HbT.out _).mono ?_
      rintro e w2 ⟨rfl, u2⟩
      obtain ⟨a0, a1, a2, a3, a4, a5, a6, _⟩ := blk7 (u2.blk (u1.blk Hb1.out (by simp)) (by simp))
      obtain ⟨b0, b1, b2, _⟩ := blk3 (u2.blk (u1.blk Hb2.out (by simp)) (by simp))
      obtain ⟨r0, r1, r2, f0, f1, f2⟩ := blk3 (u2.blk (u1.blk Hbr.out (by simp)) (by simp))
      go_wp2_with fail
      obtain ⟨q1, q2⟩ := out3 (u2.blk (u1.blk Hbr.out (by simp)) (by simp)) (.int .i64 1) (.int .i64 1) (.string ⟨#[]⟩)
      obtain ⟨d0, d1, d2, _⟩ := blk3 q1
      refine bodyPost_ret (v := .tuple #[.agg #[.int .i64 1, .int .i64 1, .string ⟨#[]⟩], .int .i64 (0)]) (by simp [results, Try.results52, go_sem, d0, d1, d2]) rfl ⟨?_, ((T0.out.trans0 u1).trans0 u2).trans q2 (fun b hb => .inr (by simp at hb; omega))⟩
      rw [Hf.out]; rfl
    · simp only [bitV, Bool.not_true, Bool.false_eq_true, if_false] at Hf
      go_enter Try.func52, Try.ntmps52
      go_wp2_with fail
      rw [← HW.out]
      refine (Htr.out _).mono ?_
      rintro e w1 ⟨rfl, u1⟩
      obtain ⟨a0, a1, a2, a3, a4, a5, a6, _⟩ := blk7 (u1.blk Hb1.out (by simp))
      obtain ⟨b0, b1, b2, _⟩ := blk3 (u1.blk Hb2.out (by simp))
      obtain ⟨r0, r1, r2, f0, f1, f2⟩ := blk3 (u1.blk Hbr.out (by simp))
      go_wp2_with fail
      clear a0 a1 a2 b0 b1 b2 r0 r1 r2 f0 f1 f2 a3 a4 a5 a6
      refine (HbF.out _).mono ?_
      rintro e w2 ⟨rfl, u2⟩
      obtain ⟨a0, a1, a2, a3, a4, a5, a6, _⟩ := blk7 (u2.blk (u1.blk Hb1.out (by simp)) (by simp))
      obtain ⟨b0, b1, b2, _⟩ := blk3 (u2.blk (u1.blk Hb2.out (by simp)) (by simp))
      obtain ⟨r0, r1, r2, f0, f1, f2⟩ := blk3 (u2.blk (u1.blk Hbr.out (by simp)) (by simp))
      go_wp2_with fail
      obtain ⟨q1, q2⟩ := out3 (u2.blk (u1.blk Hbr.out (by simp)) (by simp)) (.int .i64 1) (.int .i64 0) (.string ⟨#[]⟩)
      obtain ⟨d0, d1, d2, _⟩ := blk3 q1
      refine bodyPost_ret (v := .tuple #[.agg #[.int .i64 1, .int .i64 0, .string ⟨#[]⟩], .int .i64 (0)]) (by simp [results, Try.results52, go_sem, d0, d1, d2]) rfl ⟨?_, ((T0.out.trans0 u1).trans0 u2).trans q2 (fun b hb => .inr (by simp at hb; omega))⟩
      rw [Hf.out]; rfl
  rw [decide_eq_false (p := op = S [110, 111, 116]) h1] at q1
  rw [if_neg h1] at hst
  clear h1 Htr
  by_cases h2 : nm = wIsnull
  · rw [decide_eq_true (p := nm = S [105, 115, 110, 117, 108, 108]) h2] at q2
    rw [if_pos h2] at hst
    have Hf := Lib.hid hst
    clear hst h2 har q3 q4
    by_cases h5 : k1 = 0
    · subst h5
      simp only [decide_true, bitV, if_true] at Hf
      go_enter Try.func52, Try.ntmps52
      go_wp2_with fail
      rw [← HW.out]
      refine (HbT.out _).mono ?_
      rintro e w1 ⟨rfl, u1⟩
      obtain ⟨a0, a1, a2, a3, a4, a5, a6, _⟩ := blk7 (u1.blk Hb1.out (by simp))
      obtain ⟨b0, b1, b2, _⟩ := blk3 (u1.blk Hb2.out (by simp))
      obtain ⟨r0, r1, r2, f0, f1, f2⟩ := blk3 (u1.blk Hbr.out (by simp))
      go_wp2_with fail
      obtain ⟨q1, q2⟩ := out3 (u1.blk Hbr.out (by simp)) (.int .i64 1) (.int .i64 1) (.string ⟨#[]⟩)
      obtain ⟨d0, d1, d2, _⟩ := blk3 q1
      refine bodyPost_ret (v := .tuple #[.agg #[.int .i64 1, .int .i64 1, .string ⟨#[]⟩], .int .i64 (0)]) (by simp [results, Try.results52, go_sem, d0, d1, d2]) rfl ⟨?_, (T0.out.trans0 u1).trans q2 (fun b hb => .inr (by simp at hb; omega))⟩
      rw [Hf.out]; rfl
    · have q5 : (k1 == 0) = false := by simpa using h5
      simp only [h5, decide_false, bitV, Bool.false_eq_true, if_false] at Hf
      go_enter Try.func52, Try.ntmps52
      go_wp2_with fail
      rw [← HW.out]
      refine (HbF.out _).mono ?_
      rintro e w1 ⟨rfl, u1⟩
      obtain ⟨a0, a1, a2, a3, a4, a5, a6, _⟩ := blk7 (u1.blk Hb1.out (by simp))
      obtain ⟨b0, b1, b2, _⟩ := blk3 (u1.blk Hb2.out (by simp))
      obtain ⟨r0, r1, r2, f0, f1, f2⟩ := blk3 (u1.blk Hbr.out (by simp))
      go_wp2_with fail
      obtain ⟨q1, q2⟩ := out3 (u1.blk Hbr.out (by simp)) (.int .i64 1) (.int .i64 0) (.string ⟨#[]⟩)
      obtain ⟨d0, d1, d2, _⟩ := blk3 q1
      refine bodyPost_ret (v := .tuple #[.agg #[.int .i64 1, .int .i64 0, .string ⟨#[]⟩], .int .i64 (0)]) (by simp [results, Try.results52, go_sem, d0, d1, d2]) rfl ⟨?_, (T0.out.trans0 u1).trans q2 (fun b hb => .inr (by simp at hb; omega))⟩
      rw [Hf.out]; rfl
  rw [decide_eq_false (p := nm = S [105, 115, 110, 117, 108, 108]) h2] at q2
  rw [if_neg h2] at hst
  clear h2 HbT HbF
  by_cases h5 : k1 = 0
  · rw [if_pos h5] at hst
    have Hf := Lib.hid hst
    clear hst har
    subst h5
    go_enter Try.func52, Try.ntmps52
    go_wp2_with fail
    have q1 := heap_alloc_new ((w.alloc (.cells #[.int .i64 k, .string nm, .int .i64 vk, .int .i64 vn, .string vt, .string op, .slice A m c] 33)).alloc (.cells #[.int .i64 0, .int .i64 n1, .string s1] 30)) (.cells #[.int .i64 0, .int .i64 n1, .string s1] 30)
    simp only [World.size_alloc] at q1
    obtain ⟨d0, d1, d2, _⟩ := blk3 q1
    refine bodyPost_ret (v := .tuple #[.agg #[.int .i64 0, .int .i64 n1, .string s1], .int .i64 (0)]) (by simp [results, Try.results52, go_sem, d0, d1, d2]) rfl ⟨?_, (((Touch.refl [] w).alloc (.cells #[.int .i64 k, .string nm, .int .i64 vk, .int .i64 vn, .string vt, .string op, .slice A m c] 33)).alloc (.cells #[.int .i64 0, .int .i64 n1, .string s1] 30)).alloc _⟩
    rw [Hf.out]
  have q5 : (k1 == 0) = false := by simpa using h5
  rw [if_neg h5] at hst
  clear h5
  by_cases h3 : nm = wLen
  · rw [decide_eq_true (p := nm = S [108, 101, 110]) h3] at q3
    rw [if_pos h3] at hst
    have Hf := Lib.hid hst
    clear hst h3 har q4
    go_enter Try.func52, Try.ntmps52
    go_wp2_with fail
    rw [← HW.out]
    refine (Hof.out _ _).mono ?_
    rintro e w1 ⟨rfl, u1⟩
    obtain ⟨a0, a1, a2, a3, a4, a5, a6, _⟩ := blk7 (u1.blk Hb1.out (by simp))
    obtain ⟨b0, b1, b2, _⟩ := blk3 (u1.blk Hb2.out (by simp))
    obtain ⟨r0, r1, r2, f0, f1, f2⟩ := blk3 (u1.blk Hbr.out (by simp))
    go_wp2_with fail
    obtain ⟨q1, q2⟩ := out3 (u1.blk Hbr.out (by simp)) (.int .i64 1) (.int .i64 s1.size) (.string ⟨#[]⟩)
    obtain ⟨d0, d1, d2, _⟩ := blk3 q1
    refine bodyPost_ret (v := .tuple #[.agg #[.int .i64 1, .int .i64 s1.size, .string ⟨#[]⟩], .int .i64 (0)]) (by simp [results, Try.results52, go_sem, d0, d1, d2]) rfl ⟨?_, (T0.out.trans0 u1).trans q2 (fun b hb => .inr (by simp at hb; omega))⟩
    rw [Hf.out]; rfl
  rw [decide_eq_false (p := nm = S [108, 101, 110]) h3] at q3
  rw [if_neg h3] at hst
  clear h3
  by_cases h4 : nm = wAbs ∧ 0 ≤ n1
  · rw [if_pos h4] at hst
    obtain ⟨h4a, h4b⟩ := h4
    rw [decide_eq_true (p := nm = S [97, 98, 115]) h4a] at q4
    have Hf := Lib.hid hst
    clear hst h4a har
    go_enter Try.func52, Try.ntmps52
    go_wp2_with fail
    have q1 := heap_alloc_new ((w.alloc (.cells #[.int .i64 k, .string nm, .int .i64 vk, .int .i64 vn, .string vt, .string op, .slice A m c] 33)).alloc (.cells #[.int .i64 k1, .int .i64 n1, .string s1] 30)) (.cells #[.int .i64 k1, .int .i64 n1, .string s1] 30)
    simp only [World.size_alloc] at q1
    obtain ⟨d0, d1, d2, _⟩ := blk3 q1
    refine bodyPost_ret (v := .tuple #[.agg #[.int .i64 k1, .int .i64 n1, .string s1], .int .i64 (0)]) (by simp [results, Try.results52, go_sem, d0, d1, d2]) rfl ⟨?_, (((Touch.refl [] w).alloc (.cells #[.int .i64 k, .string nm, .int .i64 vk, .int .i64 vn, .string vt, .string op, .slice A m c] 33)).alloc (.cells #[.int .i64 k1, .int .i64 n1, .string s1] 30)).alloc _⟩
    rw [Hf.out]
  rw [if_neg h4] at hst
  have Har := Lib.hid har
  have Hf := Lib.hid hst
  clear hst har
  have td := (Touch.refl [] W).drew
  obtain ⟨v0, v1, v2, _⟩ := blk3 (td.blk Hb2.out (by simp))
  obtain ⟨⟨rk, rn, rs⟩, rx⟩ := ar
  simp only at Har Hf
  by_cases h4a : nm = wAbs
  · have h4b : ¬ 0 ≤ n1 := fun h => h4 ⟨h4a, h⟩
    rw [decide_eq_true (p := nm = S [97, 98, 115]) h4a] at q4
    clear h4 h4a
    go_enter Try.func52, Try.ntmps52
    go_wp2_with fail
    rw [← HW.out]
    refine wp_region_held_drew (S := fun w' => w'.cell? ⟨w.heap.size + 1, 0, none⟩ = some (.int .i64 k1) ∧ w'.cell? ⟨w.heap.size + 1, 1, none⟩ = some (.int .i64 n1) ∧ w'.cell? ⟨w.heap.size + 1, 2, none⟩ = some (.string s1)) (by kernel_rfl) ⟨v0, v1, v2⟩ (fun hHeld => ?_)
    refine take_d (i := 1) (d := 46) (v := ?_) rfl rfl (by kernel_rfl) (by kernel_rfl) (by kernel_rfl) (fun _ _ _ h => h) (Or.inl ⟨by rfl, ?_⟩) (by assumption) ?_
    rotate_left
    · intro w hSw; (try dsimp only at hSw); go_simp; (try with_reducible rfl)
    try simp only [Act.put, List.setIfInBounds_toArray, List.set_cons_zero, List.set_cons_succ]
    refine wpAnyH_ready (rs := [0]) (by kernel_rfl) (by simp) ?_
    refine AllReadyH.cons rfl (fun K hK => ?_) AllReadyH.nil
    go_simp
    go_at_call 23
    refine (Hof.out 0 _).mono ?_
    rintro e w1 ⟨rfl, u1⟩
    have v0' := u1.cell v0 (by simp)
    have v1' := u1.cell v1 (by simp)
    have v2' := u1.cell v2 (by simp)
    (try go_wp2_with fail)
    refine hK.out _ _ ⟨v0', v1', v2'⟩ (fun _hH => ?_)
    clear hK K
    try simp only [Act.put, List.setIfInBounds_toArray, List.set_cons_zero, List.set_cons_succ]
    refine wpAnyH_ready (rs := [2]) (by kernel_rfl) (by simp) ?_
    refine AllReadyH.cons rfl (fun K hK => ?_) AllReadyH.nil
    go_simp
    go_at_call 56
    refine (Har.out _).mono ?_
    rintro e w2 ⟨rfl, u2⟩
    have v0'' := u2.cell v0' (by simp)
    have v1'' := u2.cell v1' (by simp)
    have v2'' := u2.cell v2' (by simp)
    (try go_wp2_with fail)
    refine hK.out _ _ ⟨v0'', v1'', v2''⟩ (fun _hH => ?_)
    clear hK K
    try simp only [Act.put, List.setIfInBounds_toArray, List.set_cons_zero, List.set_cons_succ]
    refine take_d (i := 3) (d := 48) (v := ?_) rfl rfl (by kernel_rfl) (by kernel_rfl) (by kernel_rfl) (fun _ _ _ h => h) (Or.inl ⟨by rfl, ?_⟩) (by assumption) ?_
    rotate_left
    · intro w hSw; (try dsimp only at hSw); go_simp; (try with_reducible rfl)
    try simp only [Act.put, List.setIfInBounds_toArray, List.set_cons_zero, List.set_cons_succ]
    refine take_d (i := 4) (d := 49) (v := ?_) rfl rfl (by kernel_rfl) (by kernel_rfl) (by kernel_rfl) (fun _ _ _ h => h) (Or.inl ⟨by rfl, ?_⟩) (by assumption) ?_
    rotate_left
    · intro w hSw; (try dsimp only at hSw); go_simp; (try with_reducible rfl)
    try simp only [Act.put, List.setIfInBounds_toArray, List.set_cons_zero, List.set_cons_succ]
    have hbr2 := (td.trans0 (u1.trans0 u2)).blk Hbr.out (by simp)
    obtain ⟨r0, r1, r2, f0, f1, f2⟩ := blk3 hbr2
    obtain ⟨q1, q2⟩ := out3 hbr2 (.int .i64 rk) (.int .i64 rn) (.string rs)
    have z0 := q2.cell v0'' (by simp only [List.mem_singleton]; omega)
    have z1 := q2.cell v1'' (by simp only [List.mem_singleton]; omega)
    have z2 := q2.cell v2'' (by simp only [List.mem_singleton]; omega)
    refine wpAnyH_ready (rs := [5]) (by kernel_rfl) (by simp) ?_
    refine AllReadyH.cons rfl (fun K hK => ?_) AllReadyH.nil
    go_simp
    (try go_wp2_with fail)
    refine hK.out _ _ ⟨z0, z1, z2⟩ (fun _hH => ?_)
    clear hK K
    try simp only [Act.put, List.setIfInBounds_toArray, List.set_cons_zero, List.set_cons_succ]
    refine take_d (i := 6) (d := 5) (v := ?_) rfl rfl (by kernel_rfl) (by kernel_rfl) (by kernel_rfl) (fun _ _ _ h => h) (Or.inl ⟨by rfl, ?_⟩) (by assumption) ?_
    rotate_left
    · intro w hSw; (try dsimp only at hSw); go_simp; (try with_reducible rfl)
    try simp only [Act.put, List.setIfInBounds_toArray, List.set_cons_zero, List.set_cons_succ]
    refine wpAnyH_done (by kernel_rfl) ?_ _
    go_wp2_with fail
    obtain ⟨d0, d1, d2, _⟩ := blk3 q1
    refine bodyPost_ret (v := .tuple #[.agg #[.int .i64 rk, .int .i64 rn, .string rs], .int .i64 rx]) (by simp [results, Try.results52, go_sem, d0, d1, d2]) rfl ⟨?_, (T0.out.trans0 (td.trans0 (u1.trans0 u2))).trans q2 (fun b hb => .inr (by simp at hb; omega))⟩
    rw [Hf.out]
  · rw [decide_eq_false (p := nm = S [97, 98, 115]) h4a] at q4
    clear h4 h4a
    go_enter Try.func52, Try.ntmps52
    go_wp2_with fail
    rw [← HW.out]
    refine wp_region_held_drew (S := fun w' => w'.cell? ⟨w.heap.size + 1, 0, none⟩ = some (.int .i64 k1) ∧ w'.cell? ⟨w.heap.size + 1, 1, none⟩ = some (.int .i64 n1) ∧ w'.cell? ⟨w.heap.size + 1, 2, none⟩ = some (.string s1)) (by kernel_rfl) ⟨v0, v1, v2⟩ (fun hHeld => ?_)
    refine take_d (i := 1) (d := 46) (v := ?_) rfl rfl (by kernel_rfl) (by kernel_rfl) (by kernel_rfl) (fun _ _ _ h => h) (Or.inl ⟨by rfl, ?_⟩) (by assumption) ?_
    rotate_left
    · intro w hSw; (try dsimp only at hSw); go_simp; (try with_reducible rfl)
    try simp only [Act.put, List.setIfInBounds_toArray, List.set_cons_zero, List.set_cons_succ]
    refine wpAnyH_ready (rs := [0]) (by kernel_rfl) (by simp) ?_
    refine AllReadyH.cons rfl (fun K hK => ?_) AllReadyH.nil
    go_simp
    go_at_call 23
    refine (Hof.out 0 _).mono ?_
    rintro e w1 ⟨rfl, u1⟩
    have v0' := u1.cell v0 (by simp)
    have v1' := u1.cell v1 (by simp)
    have v2' := u1.cell v2 (by simp)
    (try go_wp2_with fail)
    refine hK.out _ _ ⟨v0', v1', v2'⟩ (fun _hH => ?_)
    clear hK K
    try simp only [Act.put, List.setIfInBounds_toArray, List.set_cons_zero, List.set_cons_succ]
    refine wpAnyH_ready (rs := [2]) (by kernel_rfl) (by simp) ?_
    refine AllReadyH.cons rfl (fun K hK => ?_) AllReadyH.nil
    go_simp
    go_at_call 56
    refine (Har.out _).mono ?_
    rintro e w2 ⟨rfl, u2⟩
    have v0'' := u2.cell v0' (by simp)
    have v1'' := u2.cell v1' (by simp)
    have v2'' := u2.cell v2' (by simp)
    (try go_wp2_with fail)
    refine hK.out _ _ ⟨v0'', v1'', v2''⟩ (fun _hH => ?_)
    clear hK K
    try simp only [Act.put, List.setIfInBounds_toArray, List.set_cons_zero, List.set_cons_succ]
    refine take_d (i := 3) (d := 48) (v := ?_) rfl rfl (by kernel_rfl) (by kernel_rfl) (by kernel_rfl) (fun _ _ _ h => h) (Or.inl ⟨by rfl, ?_⟩) (by assumption) ?_
    rotate_left
    · intro w hSw; (try dsimp only at hSw); go_simp; (try with_reducible rfl)
    try simp only [Act.put, List.setIfInBounds_toArray, List.set_cons_zero, List.set_cons_succ]
    refine take_d (i := 4) (d := 49) (v := ?_) rfl rfl (by kernel_rfl) (by kernel_rfl) (by kernel_rfl) (fun _ _ _ h => h) (Or.inl ⟨by rfl, ?_⟩) (by assumption) ?_
    rotate_left
    · intro w hSw; (try dsimp only at hSw); go_simp; (try with_reducible rfl)
    try simp only [Act.put, List.setIfInBounds_toArray, List.set_cons_zero, List.set_cons_succ]
    have hbr2 := (td.trans0 (u1.trans0 u2)).blk Hbr.out (by simp)
    obtain ⟨r0, r1, r2, f0, f1, f2⟩ := blk3 hbr2
    obtain ⟨q1, q2⟩ := out3 hbr2 (.int .i64 rk) (.int .i64 rn) (.string rs)
    have z0 := q2.cell v0'' (by simp only [List.mem_singleton]; omega)
    have z1 := q2.cell v1'' (by simp only [List.mem_singleton]; omega)
    have z2 := q2.cell v2'' (by simp only [List.mem_singleton]; omega)
    refine wpAnyH_ready (rs := [5]) (by kernel_rfl) (by simp) ?_
    refine AllReadyH.cons rfl (fun K hK => ?_) AllReadyH.nil
    go_simp
    (try go_wp2_with fail)
    refine hK.out _ _ ⟨z0, z1, z2⟩ (fun _hH => ?_)
    clear hK K
    try simp only [Act.put, List.setIfInBounds_toArray, List.set_cons_zero, List.set_cons_succ]
    refine take_d (i := 6) (d := 5) (v := ?_) rfl rfl (by kernel_rfl) (by kernel_rfl) (by kernel_rfl) (fun _ _ _ h => h) (Or.inl ⟨by rfl, ?_⟩) (by assumption) ?_
    rotate_left
    · intro w hSw; (try dsimp only at hSw); go_simp; (try with_reducible rfl)
    try simp only [Act.put, List.setIfInBounds_toArray, List.set_cons_zero, List.set_cons_succ]
    refine wpAnyH_done (by kernel_rfl) ?_ _
    go_wp2_with fail
    obtain ⟨d0, d1, d2, _⟩ := blk3 q1
    refine bodyPost_ret (v := .tuple #[.agg #[.int .i64 rk, .int .i64 rn, .string rs], .int .i64 rx]) (by simp [results, Try.results52, go_sem, d0, d1, d2]) rfl ⟨?_, (T0.out.trans0 (td.trans0 (u1.trans0 u2))).trans q2 (fun b hb => .inr (by simp at hb; omega))⟩
    rw [Hf.out]
end Go.Proofs.Ytlkckkagoommaaa
