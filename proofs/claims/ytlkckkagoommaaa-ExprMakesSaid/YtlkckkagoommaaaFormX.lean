/- expr.Expr.form: is an expression's form right? For every expression. -/
import Derived.Test.YtlkckkagoommaaaRuleX
import Derived.Test.YtlkckkagoommaaaEqX
import Derived.Test.YtlkckkagoommaaaTw
namespace Go.Proofs.Ytlkckkagoommaaa
open Go.RowKit

theorem isEmpty_S (s : ByteArray) : s.toList.isEmpty = decide (s = S []) := by
  rw [Bool.eq_iff_iff, toList_B, List.isEmpty_iff, decide_eq_true_eq]
  exact ⟨fun h => bs_eq (by rw [h]; rfl), fun h => by rw [h]; rfl⟩
theorem isNull_eq (v : VD) : isNull v = eqV3 v zeroV := rfl
theorem nat0 (m : Nat) : ((m : Int) == 0) = decide (m = 0) := by rw [Bool.eq_iff_iff]; simp

set_option maxRecDepth 100000 in
set_option maxHeartbeats 6400000 in
theorem form_any (x : XC) (hv : x.nd.v.text.size ≤ 140737000000000) (w : World) :
    Calls Try.prog 65 #[x.val] w fun e w' => e = .returned (.bool (formV x.nd x.n)) ∧ Touch [] w w' := by
  have hrule := fun w' => rule_any x w'
  obtain ⟨⟨k, nm, ⟨vk, vn, vt⟩, op⟩, A, m, c⟩ := x
  dsimp only at hv
  dsimp only [XC.val] at hrule ⊢
  have Hrule := Lib.hid hrule
  have Hnull := Lib.hid fun w' => null_any w'
  have Hright := Lib.hid fun w' => right_any ⟨vk, vn, vt⟩ hv w'
  simp only [VD.val, zeroV] at Hnull Hright
  have heq := eqIn_val ⟨vk, vn, vt⟩ zeroV
  have hnu := isNull_eq ⟨vk, vn, vt⟩
  rw [← hnu] at heq
  simp only [zeroV] at heq
  have hgd := guard_val
  have hop := isEmpty_S op
  have hnm := isEmpty_S nm
  have hm0 := nat0 m
  obtain ⟨W, hW⟩ : ∃ W, W = w.alloc (.cells #[.int .i64 k, .string nm, .int .i64 vk, .int .i64 vn, .string vt, .string op, .slice A m c] 33) := ⟨_, rfl⟩
  have tb := (Touch.refl [] w).alloc (.cells #[.int .i64 k, .string nm, .int .i64 vk, .int .i64 vn, .string vt, .string op, .slice A m c] 33)
  have hb := heap_alloc_new w (.cells #[.int .i64 k, .string nm, .int .i64 vk, .int .i64 vn, .string vt, .string op, .slice A m c] 33)
  have hsz := World.size_alloc w (.cells #[.int .i64 k, .string nm, .int .i64 vk, .int .i64 vn, .string vt, .string op, .slice A m c] 33)
  rw [← hW] at tb hb hsz
  have HW := Lib.hid hW
  obtain ⟨c0, c1, c2, c3, c4, c5, c6, _⟩ := blk7 hb
  have Hb := Lib.hid hb
  have Hsz := Lib.hid hsz
  clear hrule hW hb hnu hsz
  by_cases h1 : k = 1
  · have Hf := Lib.hid (show formV ⟨k, nm, ⟨vk, vn, vt⟩, op⟩ m = (decide (op = S []) && (decide (m = 0) && isNull ⟨vk, vn, vt⟩)) by unfold formV; rw [if_pos h1])
    subst h1
    have g0 := TW.cell c0; have g1 := TW.cell c1; have g2 := TW.cell c2; have g3 := TW.cell c3; have g4 := TW.cell c4; have g5 := TW.cell c5; have g6 := TW.cell c6
    clear c0 c1 c2 c3 c4 c5 c6
    rcases ho : decide (op = S []) with _ | _
    · rw [ho] at hop
      have Ho := Lib.hid ho
      clear ho
      go_enter Try.func65, Try.ntmps65
      go_wp2
      rw [← HW.out]
      refine wp_region_tw W (Touch.refl _ _) (by kernel_rfl) (by kernel_rfl) ?_
      repeat (go_big_quiet_step (((go_at_call 19; exact Calls.tw _ (Hnull.out _)))))
      refine wpQuiet_nil ?_
      rintro _ ⟨y, rfl⟩
      go_wp2
      go_ret
      exact ⟨ret_bool (by rw [Hf.out, Ho.out, Bool.false_and]), tb.trans0 y.t⟩
    rw [ho] at hop
    have Ho := Lib.hid ho
    clear ho
    rcases hz : decide (m = 0) with _ | _
    · rw [hz] at hm0
      have Hz := Lib.hid hz
      clear hz
      go_enter Try.func65, Try.ntmps65
      go_wp2
      rw [← HW.out]
      refine wp_region_tw W (Touch.refl _ _) (by kernel_rfl) (by kernel_rfl) ?_
      repeat (go_big_quiet_step (((go_at_call 19; exact Calls.tw _ (Hnull.out _)))))
      refine wpQuiet_nil ?_
      rintro _ ⟨y, rfl⟩
      go_wp2
      go_ret
      exact ⟨ret_bool (by rw [Hf.out, Ho.out, Hz.out, Bool.false_and, Bool.and_false]), tb.trans0 y.t⟩
    · rw [hz] at hm0
      have Hz := Lib.hid hz
      clear hz
      go_enter Try.func65, Try.ntmps65
      go_wp2
      rw [← HW.out]
      refine wp_region_tw W (Touch.refl _ _) (by kernel_rfl) (by kernel_rfl) ?_
      repeat (go_big_quiet_step (((go_at_call 19; exact Calls.tw _ (Hnull.out _)))))
      refine wpQuiet_nil ?_
      rintro _ ⟨y, rfl⟩
      go_wp2
      go_ret
      exact ⟨ret_bool (by rw [Hf.out, Ho.out, Hz.out, Bool.true_and, Bool.true_and]), tb.trans0 y.t⟩
  by_cases h2 : k = 2
  · have Hf := Lib.hid (show formV ⟨k, nm, ⟨vk, vn, vt⟩, op⟩ m = (decide (nm = S []) && (decide (op = S []) && (decide (m = 0) && VD.right ⟨vk, vn, vt⟩))) by unfold formV; rw [if_neg h1, if_pos h2])
    subst h2
    clear h1
    rcases ho : decide (nm = S []) with _ | _
    · rw [ho] at hnm
      have Ho := Lib.hid ho
      clear ho
      go_enter Try.func65, Try.ntmps65
      go_wp2_with fail
      rw [← HW.out]
      go_ret
      exact ⟨ret_bool (by rw [Hf.out, Ho.out, Bool.false_and]), tb⟩
    rw [ho] at hnm
    have Ho := Lib.hid ho
    clear ho
    rcases hp : decide (op = S []) with _ | _
    · rw [hp] at hop
      have Hp := Lib.hid hp
      clear hp
      go_enter Try.func65, Try.ntmps65
      go_wp2_with fail
      rw [← HW.out]
      go_ret
      exact ⟨ret_bool (by rw [Hf.out, Ho.out, Hp.out, Bool.false_and, Bool.and_false]), tb⟩
    rw [hp] at hop
    have Hp := Lib.hid hp
    clear hp
    rcases hz : decide (m = 0) with _ | _
    · rw [hz] at hm0
      have Hz := Lib.hid hz
      clear hz
      go_enter Try.func65, Try.ntmps65
      go_wp2_with fail
      rw [← HW.out]
      go_ret
      exact ⟨ret_bool (by rw [Hf.out, Ho.out, Hp.out, Hz.out, Bool.false_and, Bool.and_false, Bool.and_false]), tb⟩
    · rw [hz] at hm0
      have Hz := Lib.hid hz
      clear hz
      go_enter Try.func65, Try.ntmps65
      go_wp2_with fail
      rw [← HW.out]
      refine (Hright.out _).mono ?_
      rintro e w1 ⟨rfl, t1⟩
      go_wp2_with fail
      go_ret
      exact ⟨ret_bool (by rw [Hf.out, Ho.out, Hp.out, Hz.out, Bool.true_and, Bool.true_and, Bool.true_and]), tb.trans0 t1⟩
  have hf : formV ⟨k, nm, ⟨vk, vn, vt⟩, op⟩ m = ((match ruleV ⟨k, nm, ⟨vk, vn, vt⟩, op⟩ with | some r => decide (m = r.args.length) | none => false) && (isNull ⟨vk, vn, vt⟩ && (if k = 5 then decide (op = S []) else decide (nm = S [])))) := by
    unfold formV; rw [if_neg h1, if_neg h2]; rfl
  have q1 : (k == 1) = false := by simpa using h1
  have q2 : (k == 2) = false := by simpa using h2
  clear h1 h2 Hright
  have hpost : ∀ e w1, RulePost ⟨k, nm, ⟨vk, vn, vt⟩, op⟩ m e w1 → ∃ s0 B0 n0 d0 z0 bo, e = .returned (.tuple #[.agg #[.string s0, .slice B0 n0 d0, .int .i64 z0], .bool bo]) ∧ bo = (match ruleV ⟨k, nm, ⟨vk, vn, vt⟩, op⟩ with | some r => decide (m = r.args.length) | none => false) := fun e w1 hp => by
    unfold RulePost at hp
    split at hp
    · rename_i hv0; exact ⟨_, _, _, _, _, _, hp, by rw [hv0]⟩
    · rename_i r hv0; obtain ⟨B, c', he, _⟩ := hp; exact ⟨_, _, _, _, _, _, he, by rw [hv0]⟩
  have Hpost := Lib.hid hpost
  have Hf := Lib.hid hf
  clear hpost hf
  rcases hu : isNull ⟨vk, vn, vt⟩ with _ | _
  · rw [hu] at heq Hf
    clear hu
    go_enter Try.func65, Try.ntmps65
    go_wp2_with fail
    rw [← HW.out]
    refine (Hrule.out _).mono ?_
    rintro e w1 ⟨hp, t1⟩
    obtain ⟨s0, B0, n0, d0, z0, bo, rfl, hbo⟩ := Hpost.out e w1 hp
    have Hbo := Lib.hid hbo
    clear hp hbo
    have g0 := TW.cell ((t1.alloc (.cells #[.string s0, .slice B0 n0 d0, .int .i64 z0] 114)).cell c0 (by simp))
    have g1 := TW.cell ((t1.alloc (.cells #[.string s0, .slice B0 n0 d0, .int .i64 z0] 114)).cell c1 (by simp))
    have g2 := TW.cell ((t1.alloc (.cells #[.string s0, .slice B0 n0 d0, .int .i64 z0] 114)).cell c2 (by simp))
    have g3 := TW.cell ((t1.alloc (.cells #[.string s0, .slice B0 n0 d0, .int .i64 z0] 114)).cell c3 (by simp))
    have g4 := TW.cell ((t1.alloc (.cells #[.string s0, .slice B0 n0 d0, .int .i64 z0] 114)).cell c4 (by simp))
    have g5 := TW.cell ((t1.alloc (.cells #[.string s0, .slice B0 n0 d0, .int .i64 z0] 114)).cell c5 (by simp))
    have g6 := TW.cell ((t1.alloc (.cells #[.string s0, .slice B0 n0 d0, .int .i64 z0] 114)).cell c6 (by simp))
    have T1 := tb.trans0 (t1.alloc (.cells #[.string s0, .slice B0 n0 d0, .int .i64 z0] 114))
    clear c0 c1 c2 c3 c4 c5 c6
    cases bo
    · go_wp2
      refine wp_region_tw (w1.alloc (.cells #[.string s0, .slice B0 n0 d0, .int .i64 z0] 114)) (Touch.refl _ _) (by kernel_rfl) (by kernel_rfl) ?_
      repeat (go_big_quiet_step (((go_at_call 19; exact Calls.tw _ (Hnull.out _)))))
      refine wpQuiet_nil ?_
      rintro _ ⟨y, rfl⟩
      go_wp2
      go_ret
      exact ⟨ret_bool (by rw [Hf.out, ← Hbo.out, Bool.false_and]), T1.trans0 y.t⟩
    · go_wp2
      refine wp_region_tw (w1.alloc (.cells #[.string s0, .slice B0 n0 d0, .int .i64 z0] 114)) (Touch.refl _ _) (by kernel_rfl) (by kernel_rfl) ?_
      repeat (go_big_quiet_step (((go_at_call 19; exact Calls.tw _ (Hnull.out _)))))
      refine wpQuiet_nil ?_
      rintro _ ⟨y, rfl⟩
      go_wp2
      go_ret
      exact ⟨ret_bool (by rw [Hf.out, ← Hbo.out, Bool.true_and, Bool.false_and]), T1.trans0 y.t⟩
  rw [hu] at heq Hf
  clear hu
  by_cases h5 : k = 5
  · have q5 : (k == 5) = true := by simpa using h5
    have q5' : (k != 5) = false := by simpa using h5
    rw [if_pos h5] at Hf
    clear h5
    rcases ho : decide (op = S []) with _ | _
    · rw [ho] at hop Hf
      clear ho
      go_enter Try.func65, Try.ntmps65
      go_wp2_with fail
      rw [← HW.out]
      refine (Hrule.out _).mono ?_
      rintro e w1 ⟨hp, t1⟩
      obtain ⟨s0, B0, n0, d0, z0, bo, rfl, hbo⟩ := Hpost.out e w1 hp
      have Hbo := Lib.hid hbo
      clear hp hbo
      have g0 := TW.cell ((t1.alloc (.cells #[.string s0, .slice B0 n0 d0, .int .i64 z0] 114)).cell c0 (by simp))
      have g1 := TW.cell ((t1.alloc (.cells #[.string s0, .slice B0 n0 d0, .int .i64 z0] 114)).cell c1 (by simp))
      have g2 := TW.cell ((t1.alloc (.cells #[.string s0, .slice B0 n0 d0, .int .i64 z0] 114)).cell c2 (by simp))
      have g3 := TW.cell ((t1.alloc (.cells #[.string s0, .slice B0 n0 d0, .int .i64 z0] 114)).cell c3 (by simp))
      have g4 := TW.cell ((t1.alloc (.cells #[.string s0, .slice B0 n0 d0, .int .i64 z0] 114)).cell c4 (by simp))
      have g5 := TW.cell ((t1.alloc (.cells #[.string s0, .slice B0 n0 d0, .int .i64 z0] 114)).cell c5 (by simp))
      have g6 := TW.cell ((t1.alloc (.cells #[.string s0, .slice B0 n0 d0, .int .i64 z0] 114)).cell c6 (by simp))
      have T1 := tb.trans0 (t1.alloc (.cells #[.string s0, .slice B0 n0 d0, .int .i64 z0] 114))
      clear c0 c1 c2 c3 c4 c5 c6
      cases bo
      · go_wp2
        refine wp_region_tw (w1.alloc (.cells #[.string s0, .slice B0 n0 d0, .int .i64 z0] 114)) (Touch.refl _ _) (by kernel_rfl) (by kernel_rfl) ?_
        repeat (go_big_quiet_step (((go_at_call 19; exact Calls.tw _ (Hnull.out _)))))
        refine wpQuiet_nil ?_
        rintro _ ⟨y, rfl⟩
        go_wp2
        go_ret
        exact ⟨ret_bool (by rw [Hf.out, ← Hbo.out, Bool.false_and]), T1.trans0 y.t⟩
      · go_wp2
        refine wp_region_tw (w1.alloc (.cells #[.string s0, .slice B0 n0 d0, .int .i64 z0] 114)) (Touch.refl _ _) (by kernel_rfl) (by kernel_rfl) ?_
        repeat (go_big_quiet_step (((go_at_call 19; exact Calls.tw _ (Hnull.out _)))))
        refine wpQuiet_nil ?_
        rintro _ ⟨y, rfl⟩
        go_wp2
        go_ret
        exact ⟨ret_bool (by rw [Hf.out, ← Hbo.out, Bool.true_and, Bool.true_and]), T1.trans0 y.t⟩
    · rw [ho] at hop Hf
      clear ho
      go_enter Try.func65, Try.ntmps65
      go_wp2_with fail
      rw [← HW.out]
      refine (Hrule.out _).mono ?_
      rintro e w1 ⟨hp, t1⟩
      obtain ⟨s0, B0, n0, d0, z0, bo, rfl, hbo⟩ := Hpost.out e w1 hp
      have Hbo := Lib.hid hbo
      clear hp hbo
      have g0 := TW.cell ((t1.alloc (.cells #[.string s0, .slice B0 n0 d0, .int .i64 z0] 114)).cell c0 (by simp))
      have g1 := TW.cell ((t1.alloc (.cells #[.string s0, .slice B0 n0 d0, .int .i64 z0] 114)).cell c1 (by simp))
      have g2 := TW.cell ((t1.alloc (.cells #[.string s0, .slice B0 n0 d0, .int .i64 z0] 114)).cell c2 (by simp))
      have g3 := TW.cell ((t1.alloc (.cells #[.string s0, .slice B0 n0 d0, .int .i64 z0] 114)).cell c3 (by simp))
      have g4 := TW.cell ((t1.alloc (.cells #[.string s0, .slice B0 n0 d0, .int .i64 z0] 114)).cell c4 (by simp))
      have g5 := TW.cell ((t1.alloc (.cells #[.string s0, .slice B0 n0 d0, .int .i64 z0] 114)).cell c5 (by simp))
      have g6 := TW.cell ((t1.alloc (.cells #[.string s0, .slice B0 n0 d0, .int .i64 z0] 114)).cell c6 (by simp))
      have T1 := tb.trans0 (t1.alloc (.cells #[.string s0, .slice B0 n0 d0, .int .i64 z0] 114))
      clear c0 c1 c2 c3 c4 c5 c6
      cases bo
      · go_wp2
        refine wp_region_tw (w1.alloc (.cells #[.string s0, .slice B0 n0 d0, .int .i64 z0] 114)) (Touch.refl _ _) (by kernel_rfl) (by kernel_rfl) ?_
        repeat (go_big_quiet_step (((go_at_call 19; exact Calls.tw _ (Hnull.out _)))))
        refine wpQuiet_nil ?_
        rintro _ ⟨y, rfl⟩
        go_wp2
        go_ret
        exact ⟨ret_bool (by rw [Hf.out, ← Hbo.out, Bool.false_and]), T1.trans0 y.t⟩
      · go_wp2
        refine wp_region_tw (w1.alloc (.cells #[.string s0, .slice B0 n0 d0, .int .i64 z0] 114)) (Touch.refl _ _) (by kernel_rfl) (by kernel_rfl) ?_
        repeat (go_big_quiet_step (((go_at_call 19; exact Calls.tw _ (Hnull.out _)))))
        refine wpQuiet_nil ?_
        rintro _ ⟨y, rfl⟩
        go_wp2
        go_ret
        exact ⟨ret_bool (by rw [Hf.out, ← Hbo.out, Bool.true_and, Bool.true_and]), T1.trans0 y.t⟩
  · have q5 : (k == 5) = false := by simpa using h5
    have q5' : (k != 5) = true := by simpa using h5
    rw [if_neg h5] at Hf
    clear h5
    rcases ho : decide (nm = S []) with _ | _
    · rw [ho] at hnm Hf
      clear ho
      go_enter Try.func65, Try.ntmps65
      go_wp2_with fail
      rw [← HW.out]
      refine (Hrule.out _).mono ?_
      rintro e w1 ⟨hp, t1⟩
      obtain ⟨s0, B0, n0, d0, z0, bo, rfl, hbo⟩ := Hpost.out e w1 hp
      have Hbo := Lib.hid hbo
      clear hp hbo
      have g0 := TW.cell ((t1.alloc (.cells #[.string s0, .slice B0 n0 d0, .int .i64 z0] 114)).cell c0 (by simp))
      have g1 := TW.cell ((t1.alloc (.cells #[.string s0, .slice B0 n0 d0, .int .i64 z0] 114)).cell c1 (by simp))
      have g2 := TW.cell ((t1.alloc (.cells #[.string s0, .slice B0 n0 d0, .int .i64 z0] 114)).cell c2 (by simp))
      have g3 := TW.cell ((t1.alloc (.cells #[.string s0, .slice B0 n0 d0, .int .i64 z0] 114)).cell c3 (by simp))
      have g4 := TW.cell ((t1.alloc (.cells #[.string s0, .slice B0 n0 d0, .int .i64 z0] 114)).cell c4 (by simp))
      have g5 := TW.cell ((t1.alloc (.cells #[.string s0, .slice B0 n0 d0, .int .i64 z0] 114)).cell c5 (by simp))
      have g6 := TW.cell ((t1.alloc (.cells #[.string s0, .slice B0 n0 d0, .int .i64 z0] 114)).cell c6 (by simp))
      have T1 := tb.trans0 (t1.alloc (.cells #[.string s0, .slice B0 n0 d0, .int .i64 z0] 114))
      clear c0 c1 c2 c3 c4 c5 c6
      cases bo
      · go_wp2
        refine wp_region_tw (w1.alloc (.cells #[.string s0, .slice B0 n0 d0, .int .i64 z0] 114)) (Touch.refl _ _) (by kernel_rfl) (by kernel_rfl) ?_
        repeat (go_big_quiet_step (((go_at_call 19; exact Calls.tw _ (Hnull.out _)))))
        refine wpQuiet_nil ?_
        rintro _ ⟨y, rfl⟩
        go_wp2
        go_ret
        exact ⟨ret_bool (by rw [Hf.out, ← Hbo.out, Bool.false_and]), T1.trans0 y.t⟩
      · go_wp2
        refine wp_region_tw (w1.alloc (.cells #[.string s0, .slice B0 n0 d0, .int .i64 z0] 114)) (Touch.refl _ _) (by kernel_rfl) (by kernel_rfl) ?_
        repeat (go_big_quiet_step (((go_at_call 19; exact Calls.tw _ (Hnull.out _)))))
        refine wpQuiet_nil ?_
        rintro _ ⟨y, rfl⟩
        go_wp2
        go_ret
        exact ⟨ret_bool (by rw [Hf.out, ← Hbo.out, Bool.true_and, Bool.true_and]), T1.trans0 y.t⟩
    · rw [ho] at hnm Hf
      clear ho
      go_enter Try.func65, Try.ntmps65
      go_wp2_with fail
      rw [← HW.out]
      refine (Hrule.out _).mono ?_
      rintro e w1 ⟨hp, t1⟩
      obtain ⟨s0, B0, n0, d0, z0, bo, rfl, hbo⟩ := Hpost.out e w1 hp
      have Hbo := Lib.hid hbo
      clear hp hbo
      have g0 := TW.cell ((t1.alloc (.cells #[.string s0, .slice B0 n0 d0, .int .i64 z0] 114)).cell c0 (by simp))
      have g1 := TW.cell ((t1.alloc (.cells #[.string s0, .slice B0 n0 d0, .int .i64 z0] 114)).cell c1 (by simp))
      have g2 := TW.cell ((t1.alloc (.cells #[.string s0, .slice B0 n0 d0, .int .i64 z0] 114)).cell c2 (by simp))
      have g3 := TW.cell ((t1.alloc (.cells #[.string s0, .slice B0 n0 d0, .int .i64 z0] 114)).cell c3 (by simp))
      have g4 := TW.cell ((t1.alloc (.cells #[.string s0, .slice B0 n0 d0, .int .i64 z0] 114)).cell c4 (by simp))
      have g5 := TW.cell ((t1.alloc (.cells #[.string s0, .slice B0 n0 d0, .int .i64 z0] 114)).cell c5 (by simp))
      have g6 := TW.cell ((t1.alloc (.cells #[.string s0, .slice B0 n0 d0, .int .i64 z0] 114)).cell c6 (by simp))
      have T1 := tb.trans0 (t1.alloc (.cells #[.string s0, .slice B0 n0 d0, .int .i64 z0] 114))
      clear c0 c1 c2 c3 c4 c5 c6
      cases bo
      · go_wp2
        refine wp_region_tw (w1.alloc (.cells #[.string s0, .slice B0 n0 d0, .int .i64 z0] 114)) (Touch.refl _ _) (by kernel_rfl) (by kernel_rfl) ?_
        repeat (go_big_quiet_step (((go_at_call 19; exact Calls.tw _ (Hnull.out _)))))
        refine wpQuiet_nil ?_
        rintro _ ⟨y, rfl⟩
        go_wp2
        go_ret
        exact ⟨ret_bool (by rw [Hf.out, ← Hbo.out, Bool.false_and]), T1.trans0 y.t⟩
      · go_wp2
        refine wp_region_tw (w1.alloc (.cells #[.string s0, .slice B0 n0 d0, .int .i64 z0] 114)) (Touch.refl _ _) (by kernel_rfl) (by kernel_rfl) ?_
        repeat (go_big_quiet_step (((go_at_call 19; exact Calls.tw _ (Hnull.out _)))))
        refine wpQuiet_nil ?_
        rintro _ ⟨y, rfl⟩
        go_wp2
        go_ret
        exact ⟨ret_bool (by rw [Hf.out, ← Hbo.out, Bool.true_and, Bool.true_and]), T1.trans0 y.t⟩
end Go.Proofs.Ytlkckkagoommaaa
