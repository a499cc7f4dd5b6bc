/- ExprNulls: the law. -/
import Derived.Test.YtlkckkagoommaaaNullsV
import Derived.Test.YtlkckkagoommaaaAwakeX
namespace Go.Proofs.Ytlkckkagoommaaa
open Go.RowKit
attribute [local go_sem ↓] Go.wp_at_zero Go.wp_at_succ

theorem treeN_all (op : ByteArray) (left : Bool) : allX (fun q => q.v.text.size ≤ 140737000000000) 2 (treeN op left) := by
  cases left
  · exact allX2 (Nat.zero_le _) (allX0 (Nat.zero_le _)) (allX0 (Nat.zero_le _))
  · exact allX2 (Nat.zero_le _) (allX0 (Nat.zero_le _)) (allX0 (Nat.zero_le _))
set_option maxRecDepth 100000 in
set_option maxHeartbeats 12800000 in
theorem nulls_law (op : ByteArray) (n : Int) (hn : -9223372036854775808 ≤ n ∧ n ≤ 9223372036854775807) (left : Bool) (w : World) : Calls Try.prog 4 #[.string op, .int .i64 n, .bool left] w fun e w' => e = .returned (.bool true) ∧ Touch [] w w' := by
  have Haw := Lib.hid fun w' => awakeX_any w'
  have Hnull := Lib.hid fun w' => null_any w'
  by_cases hlen : 20 < op.size
  · have hI : (20 : Int) < (op.size : Int) := by omega
    go_enter Try.func4, Try.ntmps4
    go_wp2_with fail
    refine (Haw.out _).mono ?_
    rintro e w1 ⟨rfl, u1⟩
    go_wp2_with fail
    go_ret
    exact ⟨rfl, u1⟩
  have hI : ¬ (20 : Int) < (op.size : Int) := by omega
  have t0 := (Touch.refl [] w).alloc (.cells #[.string ⟨#[97]⟩, .int .i64 1] 45)
  have hcs : ColsAt (w.alloc (.cells #[.string ⟨#[97]⟩, .int .i64 1] 45)) (some ⟨w.heap.size, 0, none⟩) csA := RdK.row w 45 csA #[.string ⟨#[97]⟩, .int .i64 1] rfl
  have q0 := beq_S op [43]
  have q1 := beq_S op [45]
  have q2 := beq_S op [42]
  have q3 := beq_S op [47]
  have q4 := beq_S op [37]
  have q5 := beq_S op [61]
  have q6 := beq_S op [33, 61]
  have q7 := beq_S op [60]
  have q8 := beq_S op [60, 61]
  have q9 := beq_S op [62]
  have q10 := beq_S op [62, 61]
  have q11 := beq_S op [97, 110, 100]
  have q12 := beq_S op [111, 114]
  have HcT := Lib.hid fun w' => truth_any true w'
  have HcF := Lib.hid fun w' => truth_any false w'
  have Hof := Lib.hid fun w' => of_any 0 w'
  simp only [bitV, if_true, Bool.false_eq_true, if_false, VD.val, ofV, S] at HcT HcF Hof
  clear hlen
  cases left
  · go_enter Try.func4, Try.ntmps4
    go_wp2_with fail
    refine (Hnull.out _).mono ?_
    rintro e w1 ⟨rfl, u1⟩
    go_wp2_with fail
    refine (constX_any 0 zeroV _).mono ?_
    rintro e w2 ⟨x2, rfl, h2, u2⟩
    go_wp2_with fail
    refine (columnX_any 0 (S [97]) _).mono ?_
    rintro e w3 ⟨x3, rfl, h3, u3⟩
    replace h2 := h2.any
    replace h3 := h3.any
    obtain ⟨⟨k1, nm1, ⟨vk1, vn1, vt1⟩, op1⟩, B1, m1, c1⟩ := x2
    obtain ⟨⟨k2, nm2, ⟨vk2, vn2, vt2⟩, op2⟩, B2, m2, c2⟩ := x3
    dsimp only [XC.val]
    go_wp2_with fail
    have ta := ((Touch.refl [] w3).alloc (.cells #[.int .i64 k2, .string nm2, .int .i64 vk2, .int .i64 vn2, .string vt2, .string op2, .slice B2 m2 c2] 33)).alloc (.cells #[.int .i64 k1, .string nm1, .int .i64 vk1, .int .i64 vn1, .string vt1, .string op1, .slice B1 m1 c1] 33)
    refine (binaryX_any 1 op _ _ _ _ _ ((h3).touch0 ta) ((h2.touch0 u3).touch0 ta) (by decide) (by decide)).mono ?_
    rintro e w4 ⟨x4, rfl, h4, u4⟩
    replace h4 := h4.any
    go_wp2_with fail
    refine (of_any n _).mono ?_
    rintro e w5 ⟨rfl, u5⟩
    go_wp2_with fail
    refine (one_any (ofV n) _).mono ?_
    rintro e w6 ⟨⟨A6, rfl, h6⟩, u6⟩
    go_wp2_with fail
    have TT := (((((t0.trans0 u1).trans0 u2).trans0 u3).trans0 ta).trans0 u4).trans0 (u5.trans0 u6)
    have hev := topX_any 2 (treeN op false) x4 (some ⟨w.heap.size, 0, none⟩) 1 1 csA rfl okA A6 1 1 [ofV n] rfl (okV n hn) w6 ((h4.touch0 u5).touch0 u6) (hcs.touch0 (((((u1.trans0 u2).trans0 u3).trans0 ta).trans0 u4).trans0 (u5.trans0 u6))) h6 (by omega) (by omega) (show sizeX 2 (treeN op false) ≤ 1000000 by rw [show sizeX 2 (treeN op false) = 3 from rfl]; decide) (treeN_all op false)
    clear h2 h3 h4 h6 hcs t0
    by_cases e0 : op = S [43]
    · rw [decide_eq_true (p := op = S [43]) e0] at q0
      rw [show topX csA [ofV n] 2 (treeN op false) = (zeroV, 0) by rw [e0]; exact nulls_sum [43] (by decide) n false] at hev
      refine hev.mono ?_
      rintro e w7 ⟨rfl, u7⟩
      simp only [VD.val, zeroV, S]
      have tv := (Touch.refl [] w7).alloc (.cells #[.int .i64 0, .int .i64 0, .string ⟨#[]⟩] 30)
      clear e0
      go_wp2_with fail
      refine (Haw.out _).mono ?_
      rintro e w8 ⟨rfl, u8⟩
      go_wp2_with fail
      go_ret
      exact ⟨rfl, ((TT.trans0 u7).trans0 tv).trans0 u8⟩
    rw [decide_eq_false (p := op = S [43]) e0] at q0
    by_cases e1 : op = S [45]
    · rw [decide_eq_true (p := op = S [45]) e1] at q1
      rw [show topX csA [ofV n] 2 (treeN op false) = (zeroV, 0) by rw [e1]; exact nulls_sum [45] (by decide) n false] at hev
      refine hev.mono ?_
      rintro e w7 ⟨rfl, u7⟩
      simp only [VD.val, zeroV, S]
      have tv := (Touch.refl [] w7).alloc (.cells #[.int .i64 0, .int .i64 0, .string ⟨#[]⟩] 30)
      clear e1
      go_wp2_with fail
      refine (Haw.out _).mono ?_
      rintro e w8 ⟨rfl, u8⟩
      go_wp2_with fail
      go_ret
      exact ⟨rfl, ((TT.trans0 u7).trans0 tv).trans0 u8⟩
    rw [decide_eq_false (p := op = S [45]) e1] at q1
    by_cases e2 : op = S [42]
    · rw [decide_eq_true (p := op = S [42]) e2] at q2
      rw [show topX csA [ofV n] 2 (treeN op false) = (zeroV, 0) by rw [e2]; exact nulls_sum [42] (by decide) n false] at hev
      refine hev.mono ?_
      rintro e w7 ⟨rfl, u7⟩
      simp only [VD.val, zeroV, S]
      have tv := (Touch.refl [] w7).alloc (.cells #[.int .i64 0, .int .i64 0, .string ⟨#[]⟩] 30)
      clear e2
      go_wp2_with fail
      refine (Haw.out _).mono ?_
      rintro e w8 ⟨rfl, u8⟩
      go_wp2_with fail
      go_ret
      exact ⟨rfl, ((TT.trans0 u7).trans0 tv).trans0 u8⟩
    rw [decide_eq_false (p := op = S [42]) e2] at q2
    by_cases e3 : op = S [47]
    · rw [decide_eq_true (p := op = S [47]) e3] at q3
      rw [show topX csA [ofV n] 2 (treeN op false) = (zeroV, 0) by rw [e3]; exact nulls_sum [47] (by decide) n false] at hev
      refine hev.mono ?_
      rintro e w7 ⟨rfl, u7⟩
      simp only [VD.val, zeroV, S]
      have tv := (Touch.refl [] w7).alloc (.cells #[.int .i64 0, .int .i64 0, .string ⟨#[]⟩] 30)
      clear e3
      go_wp2_with fail
      refine (Haw.out _).mono ?_
      rintro e w8 ⟨rfl, u8⟩
      go_wp2_with fail
      go_ret
      exact ⟨rfl, ((TT.trans0 u7).trans0 tv).trans0 u8⟩
    rw [decide_eq_false (p := op = S [47]) e3] at q3
    by_cases e4 : op = S [37]
    · rw [decide_eq_true (p := op = S [37]) e4] at q4
      rw [show topX csA [ofV n] 2 (treeN op false) = (zeroV, 0) by rw [e4]; exact nulls_sum [37] (by decide) n false] at hev
      refine hev.mono ?_
      rintro e w7 ⟨rfl, u7⟩
      simp only [VD.val, zeroV, S]
      have tv := (Touch.refl [] w7).alloc (.cells #[.int .i64 0, .int .i64 0, .string ⟨#[]⟩] 30)
      clear e4
      go_wp2_with fail
      refine (Haw.out _).mono ?_
      rintro e w8 ⟨rfl, u8⟩
      go_wp2_with fail
      go_ret
      exact ⟨rfl, ((TT.trans0 u7).trans0 tv).trans0 u8⟩
    rw [decide_eq_false (p := op = S [37]) e4] at q4
    by_cases e5 : op = S [61]
    · rw [decide_eq_true (p := op = S [61]) e5] at q5
      rw [show topX csA [ofV n] 2 (treeN op false) = (zeroV, 0) by rw [e5]; exact nulls_sum [61] (by decide) n false] at hev
      refine hev.mono ?_
      rintro e w7 ⟨rfl, u7⟩
      simp only [VD.val, zeroV, S]
      have tv := (Touch.refl [] w7).alloc (.cells #[.int .i64 0, .int .i64 0, .string ⟨#[]⟩] 30)
      clear e5
      go_wp2_with fail
      refine (Haw.out _).mono ?_
      rintro e w8 ⟨rfl, u8⟩
      go_wp2_with fail
      go_ret
      exact ⟨rfl, ((TT.trans0 u7).trans0 tv).trans0 u8⟩
    rw [decide_eq_false (p := op = S [61]) e5] at q5
    by_cases e6 : op = S [33, 61]
    · rw [decide_eq_true (p := op = S [33, 61]) e6] at q6
      rw [show topX csA [ofV n] 2 (treeN op false) = (zeroV, 0) by rw [e6]; exact nulls_sum [33, 61] (by decide) n false] at hev
      refine hev.mono ?_
      rintro e w7 ⟨rfl, u7⟩
      simp only [VD.val, zeroV, S]
      have tv := (Touch.refl [] w7).alloc (.cells #[.int .i64 0, .int .i64 0, .string ⟨#[]⟩] 30)
      clear e6
      go_wp2_with fail
      refine (Haw.out _).mono ?_
      rintro e w8 ⟨rfl, u8⟩
      go_wp2_with fail
      go_ret
      exact ⟨rfl, ((TT.trans0 u7).trans0 tv).trans0 u8⟩
    rw [decide_eq_false (p := op = S [33, 61]) e6] at q6
    by_cases e7 : op = S [60]
    · rw [decide_eq_true (p := op = S [60]) e7] at q7
      rw [show topX csA [ofV n] 2 (treeN op false) = (zeroV, 0) by rw [e7]; exact nulls_sum [60] (by decide) n false] at hev
      refine hev.mono ?_
      rintro e w7 ⟨rfl, u7⟩
      simp only [VD.val, zeroV, S]
      have tv := (Touch.refl [] w7).alloc (.cells #[.int .i64 0, .int .i64 0, .string ⟨#[]⟩] 30)
      clear e7
      go_wp2_with fail
      refine (Haw.out _).mono ?_
      rintro e w8 ⟨rfl, u8⟩
      go_wp2_with fail
      go_ret
      exact ⟨rfl, ((TT.trans0 u7).trans0 tv).trans0 u8⟩
    rw [decide_eq_false (p := op = S [60]) e7] at q7
    by_cases e8 : op = S [60, 61]
    · rw [decide_eq_true (p := op = S [60, 61]) e8] at q8
      rw [show topX csA [ofV n] 2 (treeN op false) = (zeroV, 0) by rw [e8]; exact nulls_sum [60, 61] (by decide) n false] at hev
      refine hev.mono ?_
      rintro e w7 ⟨rfl, u7⟩
      simp only [VD.val, zeroV, S]
      have tv := (Touch.refl [] w7).alloc (.cells #[.int .i64 0, .int .i64 0, .string ⟨#[]⟩] 30)
      clear e8
      go_wp2_with fail
      refine (Haw.out _).mono ?_
      rintro e w8 ⟨rfl, u8⟩
      go_wp2_with fail
      go_ret
      exact ⟨rfl, ((TT.trans0 u7).trans0 tv).trans0 u8⟩
    rw [decide_eq_false (p := op = S [60, 61]) e8] at q8
    by_cases e9 : op = S [62]
    · rw [decide_eq_true (p := op = S [62]) e9] at q9
      rw [show topX csA [ofV n] 2 (treeN op false) = (zeroV, 0) by rw [e9]; exact nulls_sum [62] (by decide) n false] at hev
      refine hev.mono ?_
      rintro e w7 ⟨rfl, u7⟩
      simp only [VD.val, zeroV, S]
      have tv := (Touch.refl [] w7).alloc (.cells #[.int .i64 0, .int .i64 0, .string ⟨#[]⟩] 30)
      clear e9
      go_wp2_with fail
      refine (Haw.out _).mono ?_
      rintro e w8 ⟨rfl, u8⟩
      go_wp2_with fail
      go_ret
      exact ⟨rfl, ((TT.trans0 u7).trans0 tv).trans0 u8⟩
    rw [decide_eq_false (p := op = S [62]) e9] at q9
    by_cases e10 : op = S [62, 61]
    · rw [decide_eq_true (p := op = S [62, 61]) e10] at q10
      rw [show topX csA [ofV n] 2 (treeN op false) = (zeroV, 0) by rw [e10]; exact nulls_sum [62, 61] (by decide) n false] at hev
      refine hev.mono ?_
      rintro e w7 ⟨rfl, u7⟩
      simp only [VD.val, zeroV, S]
      have tv := (Touch.refl [] w7).alloc (.cells #[.int .i64 0, .int .i64 0, .string ⟨#[]⟩] 30)
      clear e10
      go_wp2_with fail
      refine (Haw.out _).mono ?_
      rintro e w8 ⟨rfl, u8⟩
      go_wp2_with fail
      go_ret
      exact ⟨rfl, ((TT.trans0 u7).trans0 tv).trans0 u8⟩
    rw [decide_eq_false (p := op = S [62, 61]) e10] at q10
    by_cases e11 : op = S [97, 110, 100]
    · rw [decide_eq_true (p := op = S [97, 110, 100]) e11] at q11
      rw [show topX csA [ofV n] 2 (treeN op false) = (ofV 0, 0) by rw [e11]; exact nulls_and n false] at hev
      refine hev.mono ?_
      rintro e w7 ⟨rfl, u7⟩
      simp only [VD.val, ofV, S]
      clear e11
      have tv := (Touch.refl [] w7).alloc (.cells #[.int .i64 1, .int .i64 0, .string ⟨#[]⟩] 30)
      have hz := heap_alloc_new w7 (.cells #[.int .i64 1, .int .i64 0, .string ⟨#[]⟩] 30)
      obtain ⟨W, hW⟩ : ∃ W, W = w7.alloc (.cells #[.int .i64 1, .int .i64 0, .string ⟨#[]⟩] 30) := ⟨_, rfl⟩
      rw [← hW] at hz tv
      obtain ⟨b0, b1, b2, _⟩ := blk3 hz
      have g0 := TW.cell b0
      have g1 := TW.cell b1
      have g2 := TW.cell b2
      have HW := Lib.hid hW
      clear hW
      go_wp2
      rw [← HW.out]
      refine wp_region_tw W (Touch.refl _ _) (by kernel_rfl) (by kernel_rfl) ?_
      repeat (go_big_quiet_step (first | (go_at_call 23; exact Calls.tw _ (Hof.out _)) | (go_at_call 11; exact Calls.tw _ (Haw.out _))))
      refine wpQuiet_nil ?_
      rintro _ ⟨z, rfl⟩
      go_wp2
      go_ret
      exact ⟨rfl, ((TT.trans0 u7).trans0 tv).trans0 z.t⟩
    rw [decide_eq_false (p := op = S [97, 110, 100]) e11] at q11
    by_cases e12 : op = S [111, 114]
    · rw [decide_eq_true (p := op = S [111, 114]) e12] at q12
      rw [show topX csA [ofV n] 2 (treeN op false) = (bitV (decide (n ≠ 0)), 0) by rw [e12]; exact nulls_or n false] at hev
      clear e12
      by_cases hn0 : n = 0
      · subst hn0
        simp only [ne_eq, not_true_eq_false, decide_false] at hev
        refine hev.mono ?_
        rintro e w7 ⟨rfl, u7⟩
        simp only [VD.val, bitV, Bool.false_eq_true, if_false, ofV, S]
        have tv := (Touch.refl [] w7).alloc (.cells #[.int .i64 1, .int .i64 0, .string ⟨#[]⟩] 30)
        have hz := heap_alloc_new w7 (.cells #[.int .i64 1, .int .i64 0, .string ⟨#[]⟩] 30)
        obtain ⟨W, hW⟩ : ∃ W, W = w7.alloc (.cells #[.int .i64 1, .int .i64 0, .string ⟨#[]⟩] 30) := ⟨_, rfl⟩
        rw [← hW] at hz tv
        obtain ⟨b0, b1, b2, _⟩ := blk3 hz
        have g0 := TW.cell b0
        have g1 := TW.cell b1
        have g2 := TW.cell b2
        have HW := Lib.hid hW
        clear hW
        go_wp2
        rw [← HW.out]
        refine wp_region_tw W (Touch.refl _ _) (by kernel_rfl) (by kernel_rfl) ?_
        repeat (go_big_quiet_step (first | (go_at_call 24; exact Calls.tw _ (HcF.out _)) | (go_at_call 11; exact Calls.tw _ (Haw.out _))))
        refine wpQuiet_nil ?_
        rintro _ ⟨z, rfl⟩
        go_wp2
        go_ret
        exact ⟨rfl, ((TT.trans0 u7).trans0 tv).trans0 z.t⟩
      · have qn : (n != 0) = true := by simpa using hn0
        rw [decide_eq_true hn0] at hev
        clear hn0
        refine hev.mono ?_
        rintro e w7 ⟨rfl, u7⟩
        simp only [VD.val, bitV, if_true, ofV, S]
        have tv := (Touch.refl [] w7).alloc (.cells #[.int .i64 1, .int .i64 1, .string ⟨#[]⟩] 30)
        have hz := heap_alloc_new w7 (.cells #[.int .i64 1, .int .i64 1, .string ⟨#[]⟩] 30)
        obtain ⟨W, hW⟩ : ∃ W, W = w7.alloc (.cells #[.int .i64 1, .int .i64 1, .string ⟨#[]⟩] 30) := ⟨_, rfl⟩
        rw [← hW] at hz tv
        obtain ⟨b0, b1, b2, _⟩ := blk3 hz
        have g0 := TW.cell b0
        have g1 := TW.cell b1
        have g2 := TW.cell b2
        have HW := Lib.hid hW
        clear hW
        go_wp2
        rw [← HW.out]
        refine wp_region_tw W (Touch.refl _ _) (by kernel_rfl) (by kernel_rfl) ?_
        repeat (go_big_quiet_step (first | (go_at_call 24; exact Calls.tw _ (HcT.out _)) | (go_at_call 11; exact Calls.tw _ (Haw.out _))))
        refine wpQuiet_nil ?_
        rintro _ ⟨z, rfl⟩
        go_wp2
        go_ret
        exact ⟨rfl, ((TT.trans0 u7).trans0 tv).trans0 z.t⟩
    rw [decide_eq_false (p := op = S [111, 114]) e12] at q12
    rw [nulls_else op (by
      intro r hr
      simp only [rulesV, show ¬ ((4 : Int) = 3) by decide, if_false, if_true, List.mem_cons, List.not_mem_nil, or_false] at hr
      rcases hr with rfl | rfl | rfl | rfl | rfl | rfl | rfl | rfl | rfl | rfl | rfl | rfl | rfl
      · exact fun h => e0 h.symm
      · exact fun h => e1 h.symm
      · exact fun h => e2 h.symm
      · exact fun h => e3 h.symm
      · exact fun h => e4 h.symm
      · exact fun h => e5 h.symm
      · exact fun h => e6 h.symm
      · exact fun h => e7 h.symm
      · exact fun h => e8 h.symm
      · exact fun h => e9 h.symm
      · exact fun h => e10 h.symm
      · exact fun h => e11 h.symm
      · exact fun h => e12 h.symm) n false] at hev
    refine hev.mono ?_
    rintro e w7 ⟨rfl, u7⟩
    simp only [VD.val, zeroV, S]
    have tv := (Touch.refl [] w7).alloc (.cells #[.int .i64 0, .int .i64 0, .string ⟨#[]⟩] 30)
    clear e0 e1 e2 e3 e4 e5 e6 e7 e8 e9 e10 e11 e12
    go_wp2_with fail
    refine (Haw.out _).mono ?_
    rintro e w8 ⟨rfl, u8⟩
    go_wp2_with fail
    go_ret
    exact ⟨rfl, ((TT.trans0 u7).trans0 tv).trans0 u8⟩
  · go_enter Try.func4, Try.ntmps4
    go_wp2_with fail
    refine (Hnull.out _).mono ?_
    rintro e w1 ⟨rfl, u1⟩
    go_wp2_with fail
    refine (constX_any 0 zeroV _).mono ?_
    rintro e w2 ⟨x2, rfl, h2, u2⟩
    go_wp2_with fail
    refine (columnX_any 0 (S [97]) _).mono ?_
    rintro e w3 ⟨x3, rfl, h3, u3⟩
    replace h2 := h2.any
    replace h3 := h3.any
    obtain ⟨⟨k1, nm1, ⟨vk1, vn1, vt1⟩, op1⟩, B1, m1, c1⟩ := x2
    obtain ⟨⟨k2, nm2, ⟨vk2, vn2, vt2⟩, op2⟩, B2, m2, c2⟩ := x3
    dsimp only [XC.val]
    go_wp2_with fail
    have ta := ((Touch.refl [] w3).alloc (.cells #[.int .i64 k1, .string nm1, .int .i64 vk1, .int .i64 vn1, .string vt1, .string op1, .slice B1 m1 c1] 33)).alloc (.cells #[.int .i64 k2, .string nm2, .int .i64 vk2, .int .i64 vn2, .string vt2, .string op2, .slice B2 m2 c2] 33)
    refine (binaryX_any 1 op _ _ _ _ _ ((h2.touch0 u3).touch0 ta) ((h3).touch0 ta) (by decide) (by decide)).mono ?_
    rintro e w4 ⟨x4, rfl, h4, u4⟩
    replace h4 := h4.any
    go_wp2_with fail
    refine (of_any n _).mono ?_
    rintro e w5 ⟨rfl, u5⟩
    go_wp2_with fail
    refine (one_any (ofV n) _).mono ?_
    rintro e w6 ⟨⟨A6, rfl, h6⟩, u6⟩
    go_wp2_with fail
    have TT := (((((t0.trans0 u1).trans0 u2).trans0 u3).trans0 ta).trans0 u4).trans0 (u5.trans0 u6)
    have hev := topX_any 2 (treeN op true) x4 (some ⟨w.heap.size, 0, none⟩) 1 1 csA rfl okA A6 1 1 [ofV n] rfl (okV n hn) w6 ((h4.touch0 u5).touch0 u6) (hcs.touch0 (((((u1.trans0 u2).trans0 u3).trans0 ta).trans0 u4).trans0 (u5.trans0 u6))) h6 (by omega) (by omega) (show sizeX 2 (treeN op true) ≤ 1000000 by rw [show sizeX 2 (treeN op true) = 3 from rfl]; decide) (treeN_all op true)
    clear h2 h3 h4 h6 hcs t0
    by_cases e0 : op = S [43]
    · rw [decide_eq_true (p := op = S [43]) e0] at q0
      rw [show topX csA [ofV n] 2 (treeN op true) = (zeroV, 0) by rw [e0]; exact nulls_sum [43] (by decide) n true] at hev
      refine hev.mono ?_
      rintro e w7 ⟨rfl, u7⟩
      simp only [VD.val, zeroV, S]
      have tv := (Touch.refl [] w7).alloc (.cells #[.int .i64 0, .int .i64 0, .string ⟨#[]⟩] 30)
      clear e0
      go_wp2_with fail
      refine (Haw.out _).mono ?_
      rintro e w8 ⟨rfl, u8⟩
      go_wp2_with fail
      go_ret
      exact ⟨rfl, ((TT.trans0 u7).trans0 tv).trans0 u8⟩
    rw [decide_eq_false (p := op = S [43]) e0] at q0
    by_cases e1 : op = S [45]
    · rw [decide_eq_true (p := op = S [45]) e1] at q1
      rw [show topX csA [ofV n] 2 (treeN op true) = (zeroV, 0) by rw [e1]; exact nulls_sum [45] (by decide) n true] at hev
      refine hev.mono ?_
      rintro e w7 ⟨rfl, u7⟩
      simp only [VD.val, zeroV, S]
      have tv := (Touch.refl [] w7).alloc (.cells #[.int .i64 0, .int .i64 0, .string ⟨#[]⟩] 30)
      clear e1
      go_wp2_with fail
      refine (Haw.out _).mono ?_
      rintro e w8 ⟨rfl, u8⟩
      go_wp2_with fail
      go_ret
      exact ⟨rfl, ((TT.trans0 u7).trans0 tv).trans0 u8⟩
    rw [decide_eq_false (p := op = S [45]) e1] at q1
    by_cases e2 : op = S [42]
    · rw [decide_eq_true (p := op = S [42]) e2] at q2
      rw [show topX csA [ofV n] 2 (treeN op true) = (zeroV, 0) by rw [e2]; exact nulls_sum [42] (by decide) n true] at hev
      refine hev.mono ?_
      rintro e w7 ⟨rfl, u7⟩
      simp only [VD.val, zeroV, S]
      have tv := (Touch.refl [] w7).alloc (.cells #[.int .i64 0, .int .i64 0, .string ⟨#[]⟩] 30)
      clear e2
      go_wp2_with fail
      refine (Haw.out _).mono ?_
      rintro e w8 ⟨rfl, u8⟩
      go_wp2_with fail
      go_ret
      exact ⟨rfl, ((TT.trans0 u7).trans0 tv).trans0 u8⟩
    rw [decide_eq_false (p := op = S [42]) e2] at q2
    by_cases e3 : op = S [47]
    · rw [decide_eq_true (p := op = S [47]) e3] at q3
      rw [show topX csA [ofV n] 2 (treeN op true) = (zeroV, 0) by rw [e3]; exact nulls_sum [47] (by decide) n true] at hev
      refine hev.mono ?_
      rintro e w7 ⟨rfl, u7⟩
      simp only [VD.val, zeroV, S]
      have tv := (Touch.refl [] w7).alloc (.cells #[.int .i64 0, .int .i64 0, .string ⟨#[]⟩] 30)
      clear e3
      go_wp2_with fail
      refine (Haw.out _).mono ?_
      rintro e w8 ⟨rfl, u8⟩
      go_wp2_with fail
      go_ret
      exact ⟨rfl, ((TT.trans0 u7).trans0 tv).trans0 u8⟩
    rw [decide_eq_false (p := op = S [47]) e3] at q3
    by_cases e4 : op = S [37]
    · rw [decide_eq_true (p := op = S [37]) e4] at q4
      rw [show topX csA [ofV n] 2 (treeN op true) = (zeroV, 0) by rw [e4]; exact nulls_sum [37] (by decide) n true] at hev
      refine hev.mono ?_
      rintro e w7 ⟨rfl, u7⟩
      simp only [VD.val, zeroV, S]
      have tv := (Touch.refl [] w7).alloc (.cells #[.int .i64 0, .int .i64 0, .string ⟨#[]⟩] 30)
      clear e4
      go_wp2_with fail
      refine (Haw.out _).mono ?_
      rintro e w8 ⟨rfl, u8⟩
      go_wp2_with fail
      go_ret
      exact ⟨rfl, ((TT.trans0 u7).trans0 tv).trans0 u8⟩
    rw [decide_eq_false (p := op = S [37]) e4] at q4
    by_cases e5 : op = S [61]
    · rw [decide_eq_true (p := op = S [61]) e5] at q5
      rw [show topX csA [ofV n] 2 (treeN op true) = (zeroV, 0) by rw [e5]; exact nulls_sum [61] (by decide) n true] at hev
      refine hev.mono ?_
      rintro e w7 ⟨rfl, u7⟩
      simp only [VD.val, zeroV, S]
      have tv := (Touch.refl [] w7).alloc (.cells #[.int .i64 0, .int .i64 0, .string ⟨#[]⟩] 30)
      clear e5
      go_wp2_with fail
      refine (Haw.out _).mono ?_
      rintro e w8 ⟨rfl, u8⟩
      go_wp2_with fail
      go_ret
      exact ⟨rfl, ((TT.trans0 u7).trans0 tv).trans0 u8⟩
    rw [decide_eq_false (p := op = S [61]) e5] at q5
    by_cases e6 : op = S [33, 61]
    · rw [decide_eq_true (p := op = S [33, 61]) e6] at q6
      rw [show topX csA [ofV n] 2 (treeN op true) = (zeroV, 0) by rw [e6]; exact nulls_sum [33, 61] (by decide) n true] at hev
      refine hev.mono ?_
      rintro e w7 ⟨rfl, u7⟩
      simp only [VD.val, zeroV, S]
      have tv := (Touch.refl [] w7).alloc (.cells #[.int .i64 0, .int .i64 0, .string ⟨#[]⟩] 30)
      clear e6
      go_wp2_with fail
      refine (Haw.out _).mono ?_
      rintro e w8 ⟨rfl, u8⟩
      go_wp2_with fail
      go_ret
      exact ⟨rfl, ((TT.trans0 u7).trans0 tv).trans0 u8⟩
    rw [decide_eq_false (p := op = S [33, 61]) e6] at q6
    by_cases e7 : op = S [60]
    · rw [decide_eq_true (p := op = S [60]) e7] at q7
      rw [show topX csA [ofV n] 2 (treeN op true) = (zeroV, 0) by rw [e7]; exact nulls_sum [60] (by decide) n true] at hev
      refine hev.mono ?_
      rintro e w7 ⟨rfl, u7⟩
      simp only [VD.val, zeroV, S]
      have tv := (Touch.refl [] w7).alloc (.cells #[.int .i64 0, .int .i64 0, .string ⟨#[]⟩] 30)
      clear e7
      go_wp2_with fail
      refine (Haw.out _).mono ?_
      rintro e w8 ⟨rfl, u8⟩
      go_wp2_with fail
      go_ret
      exact ⟨rfl, ((TT.trans0 u7).trans0 tv).trans0 u8⟩
    rw [decide_eq_false (p := op = S [60]) e7] at q7
    by_cases e8 : op = S [60, 61]
    · rw [decide_eq_true (p := op = S [60, 61]) e8] at q8
      rw [show topX csA [ofV n] 2 (treeN op true) = (zeroV, 0) by rw [e8]; exact nulls_sum [60, 61] (by decide) n true] at hev
      refine hev.mono ?_
      rintro e w7 ⟨rfl, u7⟩
      simp only [VD.val, zeroV, S]
      have tv := (Touch.refl [] w7).alloc (.cells #[.int .i64 0, .int .i64 0, .string ⟨#[]⟩] 30)
      clear e8
      go_wp2_with fail
      refine (Haw.out _).mono ?_
      rintro e w8 ⟨rfl, u8⟩
      go_wp2_with fail
      go_ret
      exact ⟨rfl, ((TT.trans0 u7).trans0 tv).trans0 u8⟩
    rw [decide_eq_false (p := op = S [60, 61]) e8] at q8
    by_cases e9 : op = S [62]
    · rw [decide_eq_true (p := op = S [62]) e9] at q9
      rw [show topX csA [ofV n] 2 (treeN op true) = (zeroV, 0) by rw [e9]; exact nulls_sum [62] (by decide) n true] at hev
      refine hev.mono ?_
      rintro e w7 ⟨rfl, u7⟩
      simp only [VD.val, zeroV, S]
      have tv := (Touch.refl [] w7).alloc (.cells #[.int .i64 0, .int .i64 0, .string ⟨#[]⟩] 30)
      clear e9
      go_wp2_with fail
      refine (Haw.out _).mono ?_
      rintro e w8 ⟨rfl, u8⟩
      go_wp2_with fail
      go_ret
      exact ⟨rfl, ((TT.trans0 u7).trans0 tv).trans0 u8⟩
    rw [decide_eq_false (p := op = S [62]) e9] at q9
    by_cases e10 : op = S [62, 61]
    · rw [decide_eq_true (p := op = S [62, 61]) e10] at q10
      rw [show topX csA [ofV n] 2 (treeN op true) = (zeroV, 0) by rw [e10]; exact nulls_sum [62, 61] (by decide) n true] at hev
      refine hev.mono ?_
      rintro e w7 ⟨rfl, u7⟩
      simp only [VD.val, zeroV, S]
      have tv := (Touch.refl [] w7).alloc (.cells #[.int .i64 0, .int .i64 0, .string ⟨#[]⟩] 30)
      clear e10
      go_wp2_with fail
      refine (Haw.out _).mono ?_
      rintro e w8 ⟨rfl, u8⟩
      go_wp2_with fail
      go_ret
      exact ⟨rfl, ((TT.trans0 u7).trans0 tv).trans0 u8⟩
    rw [decide_eq_false (p := op = S [62, 61]) e10] at q10
    by_cases e11 : op = S [97, 110, 100]
    · rw [decide_eq_true (p := op = S [97, 110, 100]) e11] at q11
      rw [show topX csA [ofV n] 2 (treeN op true) = (ofV 0, 0) by rw [e11]; exact nulls_and n true] at hev
      refine hev.mono ?_
      rintro e w7 ⟨rfl, u7⟩
      simp only [VD.val, ofV, S]
      clear e11
      have tv := (Touch.refl [] w7).alloc (.cells #[.int .i64 1, .int .i64 0, .string ⟨#[]⟩] 30)
      have hz := heap_alloc_new w7 (.cells #[.int .i64 1, .int .i64 0, .string ⟨#[]⟩] 30)
      obtain ⟨W, hW⟩ : ∃ W, W = w7.alloc (.cells #[.int .i64 1, .int .i64 0, .string ⟨#[]⟩] 30) := ⟨_, rfl⟩
      rw [← hW] at hz tv
      obtain ⟨b0, b1, b2, _⟩ := blk3 hz
      have g0 := TW.cell b0
      have g1 := TW.cell b1
      have g2 := TW.cell b2
      have HW := Lib.hid hW
      clear hW
      go_wp2
      rw [← HW.out]
      refine wp_region_tw W (Touch.refl _ _) (by kernel_rfl) (by kernel_rfl) ?_
      repeat (go_big_quiet_step (first | (go_at_call 23; exact Calls.tw _ (Hof.out _)) | (go_at_call 11; exact Calls.tw _ (Haw.out _))))
      refine wpQuiet_nil ?_
      rintro _ ⟨z, rfl⟩
      go_wp2
      go_ret
      exact ⟨rfl, ((TT.trans0 u7).trans0 tv).trans0 z.t⟩
    rw [decide_eq_false (p := op = S [97, 110, 100]) e11] at q11
    by_cases e12 : op = S [111, 114]
    · rw [decide_eq_true (p := op = S [111, 114]) e12] at q12
      rw [show topX csA [ofV n] 2 (treeN op true) = (bitV (decide (n ≠ 0)), 0) by rw [e12]; exact nulls_or n true] at hev
      clear e12
      by_cases hn0 : n = 0
      · subst hn0
        simp only [ne_eq, not_true_eq_false, decide_false] at hev
        refine hev.mono ?_
        rintro e w7 ⟨rfl, u7⟩
        simp only [VD.val, bitV, Bool.false_eq_true, if_false, ofV, S]
        have tv := (Touch.refl [] w7).alloc (.cells #[.int .i64 1, .int .i64 0, .string ⟨#[]⟩] 30)
        have hz := heap_alloc_new w7 (.cells #[.int .i64 1, .int .i64 0, .string ⟨#[]⟩] 30)
        obtain ⟨W, hW⟩ : ∃ W, W = w7.alloc (.cells #[.int .i64 1, .int .i64 0, .string ⟨#[]⟩] 30) := ⟨_, rfl⟩
        rw [← hW] at hz tv
        obtain ⟨b0, b1, b2, _⟩ := blk3 hz
        have g0 := TW.cell b0
        have g1 := TW.cell b1
        have g2 := TW.cell b2
        have HW := Lib.hid hW
        clear hW
        go_wp2
        rw [← HW.out]
        refine wp_region_tw W (Touch.refl _ _) (by kernel_rfl) (by kernel_rfl) ?_
        repeat (go_big_quiet_step (first | (go_at_call 24; exact Calls.tw _ (HcF.out _)) | (go_at_call 11; exact Calls.tw _ (Haw.out _))))
        refine wpQuiet_nil ?_
        rintro _ ⟨z, rfl⟩
        go_wp2
        go_ret
        exact ⟨rfl, ((TT.trans0 u7).trans0 tv).trans0 z.t⟩
      · have qn : (n != 0) = true := by simpa using hn0
        rw [decide_eq_true hn0] at hev
        clear hn0
        refine hev.mono ?_
        rintro e w7 ⟨rfl, u7⟩
        simp only [VD.val, bitV, if_true, ofV, S]
        have tv := (Touch.refl [] w7).alloc (.cells #[.int .i64 1, .int .i64 1, .string ⟨#[]⟩] 30)
        have hz := heap_alloc_new w7 (.cells #[.int .i64 1, .int .i64 1, .string ⟨#[]⟩] 30)
        obtain ⟨W, hW⟩ : ∃ W, W = w7.alloc (.cells #[.int .i64 1, .int .i64 1, .string ⟨#[]⟩] 30) := ⟨_, rfl⟩
        rw [← hW] at hz tv
        obtain ⟨b0, b1, b2, _⟩ := blk3 hz
        have g0 := TW.cell b0
        have g1 := TW.cell b1
        have g2 := TW.cell b2
        have HW := Lib.hid hW
        clear hW
        go_wp2
        rw [← HW.out]
        refine wp_region_tw W (Touch.refl _ _) (by kernel_rfl) (by kernel_rfl) ?_
        repeat (go_big_quiet_step (first | (go_at_call 24; exact Calls.tw _ (HcT.out _)) | (go_at_call 11; exact Calls.tw _ (Haw.out _))))
        refine wpQuiet_nil ?_
        rintro _ ⟨z, rfl⟩
        go_wp2
        go_ret
        exact ⟨rfl, ((TT.trans0 u7).trans0 tv).trans0 z.t⟩
    rw [decide_eq_false (p := op = S [111, 114]) e12] at q12
    rw [nulls_else op (by
      intro r hr
      simp only [rulesV, show ¬ ((4 : Int) = 3) by decide, if_false, if_true, List.mem_cons, List.not_mem_nil, or_false] at hr
      rcases hr with rfl | rfl | rfl | rfl | rfl | rfl | rfl | rfl | rfl | rfl | rfl | rfl | rfl
      · exact fun h => e0 h.symm
      · exact fun h => e1 h.symm
      · exact fun h => e2 h.symm
      · exact fun h => e3 h.symm
      · exact fun h => e4 h.symm
      · exact fun h => e5 h.symm
      · exact fun h => e6 h.symm
      · exact fun h => e7 h.symm
      · exact fun h => e8 h.symm
      · exact fun h => e9 h.symm
      · exact fun h => e10 h.symm
      · exact fun h => e11 h.symm
      · exact fun h => e12 h.symm) n true] at hev
    refine hev.mono ?_
    rintro e w7 ⟨rfl, u7⟩
    simp only [VD.val, zeroV, S]
    have tv := (Touch.refl [] w7).alloc (.cells #[.int .i64 0, .int .i64 0, .string ⟨#[]⟩] 30)
    clear e0 e1 e2 e3 e4 e5 e6 e7 e8 e9 e10 e11 e12
    go_wp2_with fail
    refine (Haw.out _).mono ?_
    rintro e w8 ⟨rfl, u8⟩
    go_wp2_with fail
    go_ret
    exact ⟨rfl, ((TT.trans0 u7).trans0 tv).trans0 u8⟩
end Go.Proofs.Ytlkckkagoommaaa
