/- Part 4 of the texts of this proof, one behind the other; each begins with its own sentence. No condition beyond those that its theorems state. -/
import Derived.Test.YtlkckkagoommaaaCo3
import Derived.Deep.DrawnRows
/- expr.Expr.form: is an expression's form right? For every expression. -/
namespace Go.Proofs.Ytlkckkagoommaaa
open Go.RowKit

theorem isEmpty_S (s : ByteArray) : s.toList.isEmpty = decide (s = S []) := by
  rw [Bool.eq_iff_iff, toList_B, List.isEmpty_iff, decide_eq_true_eq]
  exact ⟨fun h => bs_eq (by rw [h]; rfl), fun h => by rw [h]; rfl⟩
theorem isNull_eq (v : VD) : isNull v = eqV3 v zeroV := rfl
theorem nat0 (m : Nat) : ((m : Int) == 0) = decide (m = 0) := by rw [Bool.eq_iff_iff]; simp

set_option maxRecDepth 100000 in
set_option maxHeartbeats 6400000 in
theorem form_any (x : XC) (hv : x.nd.v.text.size ≤ 140737000000000) (w : World) :
    Calls Try.prog 65 #[x.val] w fun e w' => e = .returned (.bool (formV x.nd x.n)) ∧ Touch [] w w' := by
  have hrule := fun w' => rule_any x w'
  obtain ⟨⟨k, nm, ⟨vk, vn, vt⟩, op⟩, A, m, c⟩ := x
  dsimp only at hv
  dsimp only [XC.val] at hrule ⊢
  have Hrule := Lib.hid hrule
  have Hnull := Lib.hid fun w' => null_any w'
  have Hright := Lib.hid fun w' => right_any ⟨vk, vn, vt⟩ hv w'
  simp only [VD.val, zeroV] at Hnull Hright
  have heq := eqIn_val ⟨vk, vn, vt⟩ zeroV
  have hnu := isNull_eq ⟨vk, vn, vt⟩
  rw [← hnu] at heq
  simp only [zeroV] at heq
  have hgd := guard_val
  have hop := isEmpty_S op
  have hnm := isEmpty_S nm
  have hm0 := nat0 m
  obtain ⟨W, hW⟩ : ∃ W, W = w.alloc (.cells #[.int .i64 k, .string nm, .int .i64 vk, .int .i64 vn, .string vt, .string op, .slice A m c] 33) := ⟨_, rfl⟩
  have tb := (Touch.refl [] w).alloc (.cells #[.int .i64 k, .string nm, .int .i64 vk, .int .i64 vn, .string vt, .string op, .slice A m c] 33)
  have hb := heap_alloc_new w (.cells #[.int .i64 k, .string nm, .int .i64 vk, .int .i64 vn, .string vt, .string op, .slice A m c] 33)
  have hsz := World.size_alloc w (.cells #[.int .i64 k, .string nm, .int .i64 vk, .int .i64 vn, .string vt, .string op, .slice A m c] 33)
  rw [← hW] at tb hb hsz
  have HW := Lib.hid hW
  obtain ⟨c0, c1, c2, c3, c4, c5, c6, _⟩ := blk7 hb
  have Hb := Lib.hid hb
  have Hsz := Lib.hid hsz
  clear hrule hW hb hnu hsz
  by_cases h1 : k = 1
  · have Hf := Lib.hid (show formV ⟨k, nm, ⟨vk, vn, vt⟩, op⟩ m = (decide (op = S []) && (decide (m = 0) && isNull ⟨vk, vn, vt⟩)) by unfold formV; rw [if_pos h1])
    subst h1
    have g0 := TW.cell c0; have g1 := TW.cell c1; have g2 := TW.cell c2; have g3 := TW.cell c3; have g4 := TW.cell c4; have g5 := TW.cell c5; have g6 := TW.cell c6
    clear c0 c1 c2 c3 c4 c5 c6
    rcases ho : decide (op = S []) with _ | _
    · rw [ho] at hop
      have Ho := Lib.hid ho
      clear ho
      go_enter Try.func65, Try.ntmps65
      go_wp2
      rw [← HW.out]
      refine wp_region_tw W (Touch.refl _ _) (by kernel_rfl) (by kernel_rfl) ?_
      repeat (go_big_quiet_step (((go_at_call 19; exact Calls.tw _ (Hnull.out _)))))
      refine wpQuiet_nil ?_
      rintro _ ⟨y, rfl⟩
      go_wp2
      go_ret
      exact ⟨ret_bool (by rw [Hf.out, Ho.out, Bool.false_and]), tb.trans0 y.t⟩
    rw [ho] at hop
    have Ho := Lib.hid ho
    clear ho
    rcases hz : decide (m = 0) with _ | _
    · rw [hz] at hm0
      have Hz := Lib.hid hz
      clear hz
      go_enter Try.func65, Try.ntmps65
      go_wp2
      rw [← HW.out]
      refine wp_region_tw W (Touch.refl _ _) (by kernel_rfl) (by kernel_rfl) ?_
      repeat (go_big_quiet_step (((go_at_call 19; exact Calls.tw _ (Hnull.out _)))))
      refine wpQuiet_nil ?_
      rintro _ ⟨y, rfl⟩
      go_wp2
      go_ret
      exact ⟨ret_bool (by rw [Hf.out, Ho.out, Hz.out, Bool.false_and, Bool.and_false]), tb.trans0 y.t⟩
    · rw [hz] at hm0
      have Hz := Lib.hid hz
      clear hz
      go_enter Try.func65, Try.ntmps65
      go_wp2
      rw [← HW.out]
      refine wp_region_tw W (Touch.refl _ _) (by kernel_rfl) (by kernel_rfl) ?_
      repeat (go_big_quiet_step (((go_at_call 19; exact Calls.tw _ (Hnull.out _)))))
      refine wpQuiet_nil ?_
      rintro _ ⟨y, rfl⟩
      go_wp2
      go_ret
      exact ⟨ret_bool (by rw [Hf.out, Ho.out, Hz.out, Bool.true_and, Bool.true_and]), tb.trans0 y.t⟩
  by_cases h2 : k = 2
  · have Hf := Lib.hid (show formV ⟨k, nm, ⟨vk, vn, vt⟩, op⟩ m = (decide (nm = S []) && (decide (op = S []) && (decide (m = 0) && VD.right ⟨vk, vn, vt⟩))) by unfold formV; rw [if_neg h1, if_pos h2])
    subst h2
    clear h1
    rcases ho : decide (nm = S []) with _ | _
    · rw [ho] at hnm
      have Ho := Lib.hid ho
      clear ho
      go_enter Try.func65, Try.ntmps65
      go_wp2_with fail
      rw [← HW.out]
      go_ret
      exact ⟨ret_bool (by rw [Hf.out, Ho.out, Bool.false_and]), tb⟩
    rw [ho] at hnm
    have Ho := Lib.hid ho
    clear ho
    rcases hp : decide (op = S []) with _ | _
    · rw [hp] at hop
      have Hp := Lib.hid hp
      clear hp
      go_enter Try.func65, Try.ntmps65
      go_wp2_with fail
      rw [← HW.out]
      go_ret
      exact ⟨ret_bool (by rw [Hf.out, Ho.out, Hp.out, Bool.false_and, Bool.and_false]), tb⟩
    rw [hp] at hop
    have Hp := Lib.hid hp
    clear hp
    rcases hz : decide (m = 0) with _ | _
    · rw [hz] at hm0
      have Hz := Lib.hid hz
      clear hz
      go_enter Try.func65, Try.ntmps65
      go_wp2_with fail
      rw [← HW.out]
      go_ret
      exact ⟨ret_bool (by rw [Hf.out, Ho.out, Hp.out, Hz.out, Bool.false_and, Bool.and_false, Bool.and_false]), tb⟩
    · rw [hz] at hm0
      have Hz := Lib.hid hz
      clear hz
      go_enter Try.func65, Try.ntmps65
      go_wp2_with fail
      rw [← HW.out]
      refine (Hright.out _).mono ?_
      rintro e w1 ⟨rfl, t1⟩
      go_wp2_with fail
      go_ret
      exact ⟨ret_bool (by rw [Hf.out, Ho.out, Hp.out, Hz.out, Bool.true_and, Bool.true_and, Bool.true_and]), tb.trans0 t1⟩
  have hf : formV ⟨k, nm, ⟨vk, vn, vt⟩, op⟩ m = ((match ruleV ⟨k, nm, ⟨vk, vn, vt⟩, op⟩ with | some r => decide (m = r.args.length) | none => false) && (isNull ⟨vk, vn, vt⟩ && (if k = 5 then decide (op = S []) else decide (nm = S [])))) := by
    unfold formV; rw [if_neg h1, if_neg h2]; rfl
  have q1 : (k == 1) = false := by simpa using h1
  have q2 : (k == 2) = false := by simpa using h2
  clear h1 h2 Hright
  have hpost : ∀ e w1, RulePost ⟨k, nm, ⟨vk, vn, vt⟩, op⟩ m e w1 → ∃ s0 B0 n0 d0 z0 bo, e = .returned (.tuple #[.agg #[.string s0, .slice B0 n0 d0, .int .i64 z0], .bool bo]) ∧ bo = (match ruleV ⟨k, nm, ⟨vk, vn, vt⟩, op⟩ with | some r => decide (m = r.args.length) | none => false) := fun e w1 hp => by
    unfold RulePost at hp
    split at hp
    · rename_i hv0; exact ⟨_, _, _, _, _, _, hp, by rw [hv0]⟩
    · rename_i r hv0; obtain ⟨B, c', he, _⟩ := hp; exact ⟨_, _, _, _, _, _, he, by rw [hv0]⟩
  have Hpost := Lib.hid hpost
  have Hf := Lib.hid hf
  clear hpost hf
  rcases hu : isNull ⟨vk, vn, vt⟩ with _ | _
  · rw [hu] at heq Hf
    clear hu
    go_enter Try.func65, Try.ntmps65
    go_wp2_with fail
    rw [← HW.out]
    refine (Hrule.out _).mono ?_
    rintro e w1 ⟨hp, t1⟩
    obtain ⟨s0, B0, n0, d0, z0, bo, rfl, hbo⟩ := Hpost.out e w1 hp
    have Hbo := Lib.hid hbo
    clear hp hbo
    have g0 := TW.cell ((t1.alloc (.cells #[.string s0, .slice B0 n0 d0, .int .i64 z0] 114)).cell c0 (by simp))
    have g1 := TW.cell ((t1.alloc (.cells #[.string s0, .slice B0 n0 d0, .int .i64 z0] 114)).cell c1 (by simp))
    have g2 := TW.cell ((t1.alloc (.cells #[.string s0, .slice B0 n0 d0, .int .i64 z0] 114)).cell c2 (by simp))
    have g3 := TW.cell ((t1.alloc (.cells #[.string s0, .slice B0 n0 d0, .int .i64 z0] 114)).cell c3 (by simp))
    have g4 := TW.cell ((t1.alloc (.cells #[.string s0, .slice B0 n0 d0, .int .i64 z0] 114)).cell c4 (by simp))
    have g5 := TW.cell ((t1.alloc (.cells #[.string s0, .slice B0 n0 d0, .int .i64 z0] 114)).cell c5 (by simp))
    have g6 := TW.cell ((t1.alloc (.cells #[.string s0, .slice B0 n0 d0, .int .i64 z0] 114)).cell c6 (by simp))
    have T1 := tb.trans0 (t1.alloc (.cells #[.string s0, .slice B0 n0 d0, .int .i64 z0] 114))
    clear c0 c1 c2 c3 c4 c5 c6
    cases bo
    · go_wp2
      refine wp_region_tw (w1.alloc (.cells #[.string s0, .slice B0 n0 d0, .int .i64 z0] 114)) (Touch.refl _ _) (by kernel_rfl) (by kernel_rfl) ?_
      repeat (go_big_quiet_step (((go_at_call 19; exact Calls.tw _ (Hnull.out _)))))
      refine wpQuiet_nil ?_
      rintro _ ⟨y, rfl⟩
      go_wp2
      go_ret
      exact ⟨ret_bool (by rw [Hf.out, ← Hbo.out, Bool.false_and]), T1.trans0 y.t⟩
    · go_wp2
      refine wp_region_tw (w1.alloc (.cells #[.string s0, .slice B0 n0 d0, .int .i64 z0] 114)) (Touch.refl _ _) (by kernel_rfl) (by kernel_rfl) ?_
      repeat (go_big_quiet_step (((go_at_call 19; exact Calls.tw _ (Hnull.out _)))))
      refine wpQuiet_nil ?_
      rintro _ ⟨y, rfl⟩
      go_wp2
      go_ret
      exact ⟨ret_bool (by rw [Hf.out, ← Hbo.out, Bool.true_and, Bool.false_and]), T1.trans0 y.t⟩
  rw [hu] at heq Hf
  clear hu
  by_cases h5 : k = 5
  · have q5 : (k == 5) = true := by simpa using h5
    have q5' : (k != 5) = false := by simpa using h5
    rw [if_pos h5] at Hf
    clear h5
    rcases ho : decide (op = S []) with _ | _
    · rw [ho] at hop Hf
      clear ho
      go_enter Try.func65, Try.ntmps65
      go_wp2_with fail
      rw [← HW.out]
      refine (Hrule.out _).mono ?_
      rintro e w1 ⟨hp, t1⟩
      obtain ⟨s0, B0, n0, d0, z0, bo, rfl, hbo⟩ := Hpost.out e w1 hp
      have Hbo := Lib.hid hbo
      clear hp hbo
      have g0 := TW.cell ((t1.alloc (.cells #[.string s0, .slice B0 n0 d0, .int .i64 z0] 114)).cell c0 (by simp))
      have g1 := TW.cell ((t1.alloc (.cells #[.string s0, .slice B0 n0 d0, .int .i64 z0] 114)).cell c1 (by simp))
      have g2 := TW.cell ((t1.alloc (.cells #[.string s0, .slice B0 n0 d0, .int .i64 z0] 114)).cell c2 (by simp))
      have g3 := TW.cell ((t1.alloc (.cells #[.string s0, .slice B0 n0 d0, .int .i64 z0] 114)).cell c3 (by simp))
      have g4 := TW.cell ((t1.alloc (.cells #[.string s0, .slice B0 n0 d0, .int .i64 z0] 114)).cell c4 (by simp))
      have g5 := TW.cell ((t1.alloc (.cells #[.string s0, .slice B0 n0 d0, .int .i64 z0] 114)).cell c5 (by simp))
      have g6 := TW.cell ((t1.alloc (.cells #[.string s0, .slice B0 n0 d0, .int .i64 z0] 114)).cell c6 (by simp))
      have T1 := tb.trans0 (t1.alloc (.cells #[.string s0, .slice B0 n0 d0, .int .i64 z0] 114))
      clear c0 c1 c2 c3 c4 c5 c6
      cases bo
      · go_wp2
        refine wp_region_tw (w1.alloc (.cells #[.string s0, .slice B0 n0 d0, .int .i64 z0] 114)) (Touch.refl _ _) (by kernel_rfl) (by kernel_rfl) ?_
        repeat (go_big_quiet_step (((go_at_call 19; exact Calls.tw _ (Hnull.out _)))))
        refine wpQuiet_nil ?_
        rintro _ ⟨y, rfl⟩
        go_wp2
        go_ret
        exact ⟨ret_bool (by rw [Hf.out, ← Hbo.out, Bool.false_and]), T1.trans0 y.t⟩
      · go_wp2
        refine wp_region_tw (w1.alloc (.cells #[.string s0, .slice B0 n0 d0, .int .i64 z0] 114)) (Touch.refl _ _) (by kernel_rfl) (by kernel_rfl) ?_
        repeat (go_big_quiet_step (((go_at_call 19; exact Calls.tw _ (Hnull.out _)))))
        refine wpQuiet_nil ?_
        rintro _ ⟨y, rfl⟩
        go_wp2
        go_ret
        exact ⟨ret_bool (by rw [Hf.out, ← Hbo.out, Bool.true_and, Bool.true_and]), T1.trans0 y.t⟩
    · rw [ho] at hop Hf
      clear ho
      go_enter Try.func65, Try.ntmps65
      go_wp2_with fail
      rw [← HW.out]
      refine (Hrule.out _).mono ?_
      rintro e w1 ⟨hp, t1⟩
      obtain ⟨s0, B0, n0, d0, z0, bo, rfl, hbo⟩ := Hpost.out e w1 hp
      have Hbo := Lib.hid hbo
      clear hp hbo
      have g0 := TW.cell ((t1.alloc (.cells #[.string s0, .slice B0 n0 d0, .int .i64 z0] 114)).cell c0 (by simp))
      have g1 := TW.cell ((t1.alloc (.cells #[.string s0, .slice B0 n0 d0, .int .i64 z0] 114)).cell c1 (by simp))
      have g2 := TW.cell ((t1.alloc (.cells #[.string s0, .slice B0 n0 d0, .int .i64 z0] 114)).cell c2 (by simp))
      have g3 := TW.cell ((t1.alloc (.cells #[.string s0, .slice B0 n0 d0, .int .i64 z0] 114)).cell c3 (by simp))
      have g4 := TW.cell ((t1.alloc (.cells #[.string s0, .slice B0 n0 d0, .int .i64 z0] 114)).cell c4 (by simp))
      have g5 := TW.cell ((t1.alloc (.cells #[.string s0, .slice B0 n0 d0, .int .i64 z0] 114)).cell c5 (by simp))
      have g6 := TW.cell ((t1.alloc (.cells #[.string s0, .slice B0 n0 d0, .int .i64 z0] 114)).cell c6 (by simp))
      have T1 := tb.trans0 (t1.alloc (.cells #[.string s0, .slice B0 n0 d0, .int .i64 z0] 114))
      clear c0 c1 c2 c3 c4 c5 c6
      cases bo
      · go_wp2
        refine wp_region_tw (w1.alloc (.cells #[.string s0, .slice B0 n0 d0, .int .i64 z0] 114)) (Touch.refl _ _) (by kernel_rfl) (by kernel_rfl) ?_
        repeat (go_big_quiet_step (((go_at_call 19; exact Calls.tw _ (Hnull.out _)))))
        refine wpQuiet_nil ?_
        rintro _ ⟨y, rfl⟩
        go_wp2
        go_ret
        exact ⟨ret_bool (by rw [Hf.out, ← Hbo.out, Bool.false_and]), T1.trans0 y.t⟩
      · go_wp2
        refine wp_region_tw (w1.alloc (.cells #[.string s0, .slice B0 n0 d0, .int .i64 z0] 114)) (Touch.refl _ _) (by kernel_rfl) (by kernel_rfl) ?_
        repeat (go_big_quiet_step (((go_at_call 19; exact Calls.tw _ (Hnull.out _)))))
        refine wpQuiet_nil ?_
        rintro _ ⟨y, rfl⟩
        go_wp2
        go_ret
        exact ⟨ret_bool (by rw [Hf.out, ← Hbo.out, Bool.true_and, Bool.true_and]), T1.trans0 y.t⟩
  · have q5 : (k == 5) = false := by simpa using h5
    have q5' : (k != 5) = true := by simpa using h5
    rw [if_neg h5] at Hf
    clear h5
    rcases ho : decide (nm = S []) with _ | _
    · rw [ho] at hnm Hf
      clear ho
      go_enter Try.func65, Try.ntmps65
      go_wp2_with fail
      rw [← HW.out]
      refine (Hrule.out _).mono ?_
      rintro e w1 ⟨hp, t1⟩
      obtain ⟨s0, B0, n0, d0, z0, bo, rfl, hbo⟩ := Hpost.out e w1 hp
      have Hbo := Lib.hid hbo
      clear hp hbo
      have g0 := TW.cell ((t1.alloc (.cells #[.string s0, .slice B0 n0 d0, .int .i64 z0] 114)).cell c0 (by simp))
      have g1 := TW.cell ((t1.alloc (.cells #[.string s0, .slice B0 n0 d0, .int .i64 z0] 114)).cell c1 (by simp))
      have g2 := TW.cell ((t1.alloc (.cells #[.string s0, .slice B0 n0 d0, .int .i64 z0] 114)).cell c2 (by simp))
      have g3 := TW.cell ((t1.alloc (.cells #[.string s0, .slice B0 n0 d0, .int .i64 z0] 114)).cell c3 (by simp))
      have g4 := TW.cell ((t1.alloc (.cells #[.string s0, .slice B0 n0 d0, .int .i64 z0] 114)).cell c4 (by simp))
      have g5 := TW.cell ((t1.alloc (.cells #[.string s0, .slice B0 n0 d0, .int .i64 z0] 114)).cell c5 (by simp))
      have g6 := TW.cell ((t1.alloc (.cells #[.string s0, .slice B0 n0 d0, .int .i64 z0] 114)).cell c6 (by simp))
      have T1 := tb.trans0 (t1.alloc (.cells #[.string s0, .slice B0 n0 d0, .int .i64 z0] 114))
      clear c0 c1 c2 c3 c4 c5 c6
      cases bo
      · go_wp2
        refine wp_region_tw (w1.alloc (.cells #[.string s0, .slice B0 n0 d0, .int .i64 z0] 114)) (Touch.refl _ _) (by kernel_rfl) (by kernel_rfl) ?_
        repeat (go_big_quiet_step (((go_at_call 19; exact Calls.tw _ (Hnull.out _)))))
        refine wpQuiet_nil ?_
        rintro _ ⟨y, rfl⟩
        go_wp2
        go_ret
        exact ⟨ret_bool (by rw [Hf.out, ← Hbo.out, Bool.false_and]), T1.trans0 y.t⟩
      · go_wp2
        refine wp_region_tw (w1.alloc (.cells #[.string s0, .slice B0 n0 d0, .int .i64 z0] 114)) (Touch.refl _ _) (by kernel_rfl) (by kernel_rfl) ?_
        repeat (go_big_quiet_step (((go_at_call 19; exact Calls.tw _ (Hnull.out _)))))
        refine wpQuiet_nil ?_
        rintro _ ⟨y, rfl⟩
        go_wp2
        go_ret
        exact ⟨ret_bool (by rw [Hf.out, ← Hbo.out, Bool.true_and, Bool.true_and]), T1.trans0 y.t⟩
    · rw [ho] at hnm Hf
      clear ho
      go_enter Try.func65, Try.ntmps65
      go_wp2_with fail
      rw [← HW.out]
      refine (Hrule.out _).mono ?_
      rintro e w1 ⟨hp, t1⟩
      obtain ⟨s0, B0, n0, d0, z0, bo, rfl, hbo⟩ := Hpost.out e w1 hp
      have Hbo := Lib.hid hbo
      clear hp hbo
      have g0 := TW.cell ((t1.alloc (.cells #[.string s0, .slice B0 n0 d0, .int .i64 z0] 114)).cell c0 (by simp))
      have g1 := TW.cell ((t1.alloc (.cells #[.string s0, .slice B0 n0 d0, .int .i64 z0] 114)).cell c1 (by simp))
      have g2 := TW.cell ((t1.alloc (.cells #[.string s0, .slice B0 n0 d0, .int .i64 z0] 114)).cell c2 (by simp))
      have g3 := TW.cell ((t1.alloc (.cells #[.string s0, .slice B0 n0 d0, .int .i64 z0] 114)).cell c3 (by simp))
      have g4 := TW.cell ((t1.alloc (.cells #[.string s0, .slice B0 n0 d0, .int .i64 z0] 114)).cell c4 (by simp))
      have g5 := TW.cell ((t1.alloc (.cells #[.string s0, .slice B0 n0 d0, .int .i64 z0] 114)).cell c5 (by simp))
      have g6 := TW.cell ((t1.alloc (.cells #[.string s0, .slice B0 n0 d0, .int .i64 z0] 114)).cell c6 (by simp))
      have T1 := tb.trans0 (t1.alloc (.cells #[.string s0, .slice B0 n0 d0, .int .i64 z0] 114))
      clear c0 c1 c2 c3 c4 c5 c6
      cases bo
      · go_wp2
        refine wp_region_tw (w1.alloc (.cells #[.string s0, .slice B0 n0 d0, .int .i64 z0] 114)) (Touch.refl _ _) (by kernel_rfl) (by kernel_rfl) ?_
        repeat (go_big_quiet_step (((go_at_call 19; exact Calls.tw _ (Hnull.out _)))))
        refine wpQuiet_nil ?_
        rintro _ ⟨y, rfl⟩
        go_wp2
        go_ret
        exact ⟨ret_bool (by rw [Hf.out, ← Hbo.out, Bool.false_and]), T1.trans0 y.t⟩
      · go_wp2
        refine wp_region_tw (w1.alloc (.cells #[.string s0, .slice B0 n0 d0, .int .i64 z0] 114)) (Touch.refl _ _) (by kernel_rfl) (by kernel_rfl) ?_
        repeat (go_big_quiet_step (((go_at_call 19; exact Calls.tw _ (Hnull.out _)))))
        refine wpQuiet_nil ?_
        rintro _ ⟨y, rfl⟩
        go_wp2
        go_ret
        exact ⟨ret_bool (by rw [Hf.out, ← Hbo.out, Bool.true_and, Bool.true_and]), T1.trans0 y.t⟩
end Go.Proofs.Ytlkckkagoommaaa

/- value.holds, value.Compare, expr.cat, expr.comparing, expr.Expr.alone. For all. -/
namespace Go.Proofs.Ytlkckkagoommaaa
open Go.RowKit
attribute [local go_sem ↓] Go.wp_at_zero Go.wp_at_succ

def holdsV (o c : Int) : Bool := if o = 1 then c == 0 else if o = 2 then c != 0 else if o = 3 then decide (c < 0) else if o = 4 then decide (c ≤ 0) else if o = 5 then decide (0 < c) else decide (0 ≤ c)
def compareV (o : Int) (a b : VD) : VD := if a.kind = 0 ∨ b.kind = 0 then zeroV else bitV (holdsV o (cmpVV a b))
def catV (a b : VD) : VD × Int := if a.kind = 0 ∨ b.kind = 0 then (zeroV, 0) else if 64 < a.text.size + b.text.size then (zeroV, 10) else (⟨2, 0, a.text ++ b.text⟩, 0)
def wIsnull : ByteArray := S [105, 115, 110, 117, 108, 108]
def wLen : ByteArray := S [108, 101, 110]
def wAbs : ByteArray := S [97, 98, 115]
def wNot : ByteArray := S [110, 111, 116]
def aloneV (d : ND) (v : VD) : VD × Int :=
  if d.op = wNot then (bitV (!v.tru), 0)
  else if d.name = wIsnull then (bitV (decide (v.kind = 0)), 0)
  else if v.kind = 0 then (v, 0)
  else if d.name = wLen then (ofV v.text.size, 0)
  else if d.name = wAbs ∧ 0 ≤ v.num then (v, 0)
  else arithV 45 (ofV 0) v

set_option maxRecDepth 20000 in
theorem holds_any (o c : Int) (w : World) : Calls Try.prog 72 #[.int .i64 o, .int .i64 c] w fun e w' => e = .returned (.bool (holdsV o c)) ∧ w' = w := by
  by_cases h1 : o = 1
  · subst h1
    go_enter Try.func72, Try.ntmps72
    go_wp2_with fail
    go_ret
    exact ⟨rfl, rfl⟩
  by_cases h2 : o = 2
  · subst h2
    go_enter Try.func72, Try.ntmps72
    go_wp2_with fail
    go_ret
    exact ⟨rfl, rfl⟩
  by_cases h3 : o = 3
  · subst h3
    go_enter Try.func72, Try.ntmps72
    go_wp2_with fail
    go_ret
    exact ⟨rfl, rfl⟩
  by_cases h4 : o = 4
  · subst h4
    go_enter Try.func72, Try.ntmps72
    go_wp2_with fail
    go_ret
    exact ⟨rfl, rfl⟩
  by_cases h5 : o = 5
  · subst h5
    go_enter Try.func72, Try.ntmps72
    go_wp2_with fail
    go_ret
    exact ⟨rfl, rfl⟩
  · have q1 : (o == 1) = false := by simpa using h1
    have q2 : (o == 2) = false := by simpa using h2
    have q3 : (o == 3) = false := by simpa using h3
    have q4 : (o == 4) = false := by simpa using h4
    have q5 : (o == 5) = false := by simpa using h5
    have Hf := Lib.hid (show holdsV o c = decide (0 ≤ c) by unfold holdsV; rw [if_neg h1, if_neg h2, if_neg h3, if_neg h4, if_neg h5])
    clear h1 h2 h3 h4 h5
    go_enter Try.func72, Try.ntmps72
    go_wp2_with fail
    go_ret
    exact ⟨by rw [Hf.out]; rfl, rfl⟩

set_option maxRecDepth 20000 in
set_option maxHeartbeats 3200000 in
theorem compare_any (o : Int) (ho : 1 ≤ o ∧ o ≤ 6) (a b : VD) (w : World) :
    Calls Try.prog 55 #[.int .i64 o, a.val, b.val] w fun e w' => e = .returned (compareV o a b).val ∧ Touch [] w w' := by
  have hcmp := fun w' => cmpVal_any a b w'
  obtain ⟨k1, n1, s1⟩ := a
  obtain ⟨k2, n2, s2⟩ := b
  dsimp only [VD.val] at hcmp ⊢
  have t0 := (((Touch.refl [] w).alloc (.cells #[.int .i64 k1, .int .i64 n1, .string s1] 30)).alloc (.cells #[.int .i64 k2, .int .i64 n2, .string s2] 30)).alloc (.cells #[.int .i64 0, .int .i64 0, .string ⟨#[]⟩] 30)
  have hb1 := (((Touch.refl [] (w.alloc (.cells #[.int .i64 k1, .int .i64 n1, .string s1] 30))).alloc (.cells #[.int .i64 k2, .int .i64 n2, .string s2] 30)).alloc (.cells #[.int .i64 0, .int .i64 0, .string ⟨#[]⟩] 30)).blk (heap_alloc_new w (.cells #[.int .i64 k1, .int .i64 n1, .string s1] 30)) (by simp)
  have hb2 := ((Touch.refl [] ((w.alloc (.cells #[.int .i64 k1, .int .i64 n1, .string s1] 30)).alloc (.cells #[.int .i64 k2, .int .i64 n2, .string s2] 30))).alloc (.cells #[.int .i64 0, .int .i64 0, .string ⟨#[]⟩] 30)).blk (heap_alloc_new (w.alloc (.cells #[.int .i64 k1, .int .i64 n1, .string s1] 30)) (.cells #[.int .i64 k2, .int .i64 n2, .string s2] 30)) (by simp)
  have hbr := heap_alloc_new ((w.alloc (.cells #[.int .i64 k1, .int .i64 n1, .string s1] 30)).alloc (.cells #[.int .i64 k2, .int .i64 n2, .string s2] 30)) (.cells #[.int .i64 0, .int .i64 0, .string ⟨#[]⟩] 30)
  simp only [World.size_alloc] at hb2 hbr
  obtain ⟨W, hW⟩ : ∃ W, W = ((w.alloc (.cells #[.int .i64 k1, .int .i64 n1, .string s1] 30)).alloc (.cells #[.int .i64 k2, .int .i64 n2, .string s2] 30)).alloc (.cells #[.int .i64 0, .int .i64 0, .string ⟨#[]⟩] 30) := ⟨_, rfl⟩
  rw [← hW] at hb1 hb2 hbr t0
  have HW := Lib.hid hW; have Hb1 := Lib.hid hb1; have Hb2 := Lib.hid hb2; have Hbr := Lib.hid hbr; have T0 := Lib.hid t0
  have Hnull := Lib.hid fun w' => null_any w'
  have Hof := Lib.hid fun n w' => of_any n w'
  simp only [VD.val, zeroV, ofV, S] at Hnull Hof
  clear hW hb1 hb2 hbr t0
  have Hcmp := Lib.hid hcmp
  have Hh := Lib.hid fun w' => holds_any o (cmpVV ⟨k1, n1, s1⟩ ⟨k2, n2, s2⟩) w'
  clear hcmp
  obtain ⟨o1, o2⟩ := ho
  by_cases h3 : k1 = 0
  · have Hf := Lib.hid (show compareV o ⟨k1, n1, s1⟩ ⟨k2, n2, s2⟩ = zeroV by unfold compareV; rw [if_pos (.inl h3)])
    subst h3
    go_enter Try.func55, Try.ntmps55
    go_wp2_with fail
    rw [← HW.out]
    refine (Hnull.out _).mono ?_
    rintro e w1 ⟨rfl, u1⟩
    obtain ⟨a0, a1, a2, _⟩ := blk3 (u1.blk Hb1.out (by simp))
    obtain ⟨b0, b1, b2, _⟩ := blk3 (u1.blk Hb2.out (by simp))
    obtain ⟨r0, r1, r2, f0, f1, f2⟩ := blk3 (u1.blk Hbr.out (by simp))
    go_wp2_with fail
    obtain ⟨q1, q2⟩ := out3 (u1.blk Hbr.out (by simp)) (.int .i64 0) (.int .i64 0) (.string ⟨#[]⟩)
    refine bodyPost_ret (results_cell_row rfl _ _ (w.heap.size + 1 + 1) _ _ _ _ rfl q1 Try.underlying30 rfl rfl) rfl ⟨?_, (T0.out.trans0 u1).trans q2 (fun b hb => .inr (by simp at hb; omega))⟩
    rw [Hf.out]; rfl
  have q3 : (k1 == 0) = false := by simpa using h3
  by_cases h4 : k2 = 0
  · have Hf := Lib.hid (show compareV o ⟨k1, n1, s1⟩ ⟨k2, n2, s2⟩ = zeroV by unfold compareV; rw [if_pos (.inr h4)])
    subst h4
    clear h3
    go_enter Try.func55, Try.ntmps55
    go_wp2_with fail
    rw [← HW.out]
    refine (Hnull.out _).mono ?_
    rintro e w1 ⟨rfl, u1⟩
    obtain ⟨a0, a1, a2, _⟩ := blk3 (u1.blk Hb1.out (by simp))
    obtain ⟨b0, b1, b2, _⟩ := blk3 (u1.blk Hb2.out (by simp))
    obtain ⟨r0, r1, r2, f0, f1, f2⟩ := blk3 (u1.blk Hbr.out (by simp))
    go_wp2_with fail
    obtain ⟨q1, q2⟩ := out3 (u1.blk Hbr.out (by simp)) (.int .i64 0) (.int .i64 0) (.string ⟨#[]⟩)
    refine bodyPost_ret (results_cell_row rfl _ _ (w.heap.size + 1 + 1) _ _ _ _ rfl q1 Try.underlying30 rfl rfl) rfl ⟨?_, (T0.out.trans0 u1).trans q2 (fun b hb => .inr (by simp at hb; omega))⟩
    rw [Hf.out]; rfl
  have q4 : (k2 == 0) = false := by simpa using h4
  have hf : compareV o ⟨k1, n1, s1⟩ ⟨k2, n2, s2⟩ = bitV (holdsV o (cmpVV ⟨k1, n1, s1⟩ ⟨k2, n2, s2⟩)) := by unfold compareV; rw [if_neg (by rintro (h | h); exact h3 h; exact h4 h)]
  obtain ⟨hb, hhb⟩ : ∃ hb, hb = holdsV o (cmpVV ⟨k1, n1, s1⟩ ⟨k2, n2, s2⟩) := ⟨_, rfl⟩
  rw [← hhb] at Hh hf
  have Hf := Lib.hid hf
  clear h3 h4 hf hhb
  cases hb
  · go_enter Try.func55, Try.ntmps55
    go_wp2_with fail
    rw [← HW.out]
    refine (Hcmp.out _).mono ?_
    rintro e w1 ⟨rfl, u1⟩
    obtain ⟨a0, a1, a2, _⟩ := blk3 (u1.blk Hb1.out (by simp))
    obtain ⟨b0, b1, b2, _⟩ := blk3 (u1.blk Hb2.out (by simp))
    obtain ⟨r0, r1, r2, f0, f1, f2⟩ := blk3 (u1.blk Hbr.out (by simp))
    go_wp2_with fail
    clear a0 a1 a2 b0 b1 b2 r0 r1 r2 f0 f1 f2
    refine (Hh.out _).mono ?_
    rintro e w' ⟨rfl, rfl⟩
    obtain ⟨a0, a1, a2, _⟩ := blk3 (u1.blk Hb1.out (by simp))
    obtain ⟨b0, b1, b2, _⟩ := blk3 (u1.blk Hb2.out (by simp))
    obtain ⟨r0, r1, r2, f0, f1, f2⟩ := blk3 (u1.blk Hbr.out (by simp))
    go_wp2_with fail
    clear a0 a1 a2 b0 b1 b2 r0 r1 r2 f0 f1 f2
    refine (Hof.out 0 _).mono ?_
    rintro e w2 ⟨rfl, u2⟩
    obtain ⟨a0, a1, a2, _⟩ := blk3 (u2.blk (u1.blk Hb1.out (by simp)) (by simp))
    obtain ⟨b0, b1, b2, _⟩ := blk3 (u2.blk (u1.blk Hb2.out (by simp)) (by simp))
    obtain ⟨r0, r1, r2, f0, f1, f2⟩ := blk3 (u2.blk (u1.blk Hbr.out (by simp)) (by simp))
    go_wp2_with fail
    obtain ⟨q1, q2⟩ := out3 (u2.blk (u1.blk Hbr.out (by simp)) (by simp)) (.int .i64 1) (.int .i64 0) (.string ⟨#[]⟩)
    refine bodyPost_ret (results_cell_row rfl _ _ (w.heap.size + 1 + 1) _ _ _ _ rfl q1 Try.underlying30 rfl rfl) rfl ⟨?_, ((T0.out.trans0 u1).trans0 u2).trans q2 (fun b hb => .inr (by simp at hb; omega))⟩
    rw [Hf.out]; rfl
  · go_enter Try.func55, Try.ntmps55
    go_wp2_with fail
    rw [← HW.out]
    refine (Hcmp.out _).mono ?_
    rintro e w1 ⟨rfl, u1⟩
    obtain ⟨a0, a1, a2, _⟩ := blk3 (u1.blk Hb1.out (by simp))
    obtain ⟨b0, b1, b2, _⟩ := blk3 (u1.blk Hb2.out (by simp))
    obtain ⟨r0, r1, r2, f0, f1, f2⟩ := blk3 (u1.blk Hbr.out (by simp))
    go_wp2_with fail
    clear a0 a1 a2 b0 b1 b2 r0 r1 r2 f0 f1 f2
    refine (Hh.out _).mono ?_
    rintro e w' ⟨rfl, rfl⟩
    obtain ⟨a0, a1, a2, _⟩ := blk3 (u1.blk Hb1.out (by simp))
    obtain ⟨b0, b1, b2, _⟩ := blk3 (u1.blk Hb2.out (by simp))
    obtain ⟨r0, r1, r2, f0, f1, f2⟩ := blk3 (u1.blk Hbr.out (by simp))
    go_wp2_with fail
    clear a0 a1 a2 b0 b1 b2 r0 r1 r2 f0 f1 f2
    refine (Hof.out 1 _).mono ?_
    rintro e w2 ⟨rfl, u2⟩
    obtain ⟨a0, a1, a2, _⟩ := blk3 (u2.blk (u1.blk Hb1.out (by simp)) (by simp))
    obtain ⟨b0, b1, b2, _⟩ := blk3 (u2.blk (u1.blk Hb2.out (by simp)) (by simp))
    obtain ⟨r0, r1, r2, f0, f1, f2⟩ := blk3 (u2.blk (u1.blk Hbr.out (by simp)) (by simp))
    go_wp2_with fail
    obtain ⟨q1, q2⟩ := out3 (u2.blk (u1.blk Hbr.out (by simp)) (by simp)) (.int .i64 1) (.int .i64 1) (.string ⟨#[]⟩)
    refine bodyPost_ret (results_cell_row rfl _ _ (w.heap.size + 1 + 1) _ _ _ _ rfl q1 Try.underlying30 rfl rfl) rfl ⟨?_, ((T0.out.trans0 u1).trans0 u2).trans q2 (fun b hb => .inr (by simp at hb; omega))⟩
    rw [Hf.out]; rfl

set_option maxRecDepth 20000 in
set_option maxHeartbeats 3200000 in
theorem cat_any (a b : VD) (ha : a.text.size ≤ 140737000000000) (hb : b.text.size ≤ 140737000000000) (w : World) :
    Calls Try.prog 54 #[a.val, b.val] w fun e w' => e = .returned (.tuple #[(catV a b).1.val, .int .i64 (catV a b).2]) ∧ Touch [] w w' := by
  obtain ⟨k1, n1, s1⟩ := a
  obtain ⟨k2, n2, s2⟩ := b
  dsimp only [VD.val] at ha hb ⊢
  have t0 := (((Touch.refl [] w).alloc (.cells #[.int .i64 k1, .int .i64 n1, .string s1] 30)).alloc (.cells #[.int .i64 k2, .int .i64 n2, .string s2] 30)).alloc (.cells #[.int .i64 0, .int .i64 0, .string ⟨#[]⟩] 30)
  have hb1 := (((Touch.refl [] (w.alloc (.cells #[.int .i64 k1, .int .i64 n1, .string s1] 30))).alloc (.cells #[.int .i64 k2, .int .i64 n2, .string s2] 30)).alloc (.cells #[.int .i64 0, .int .i64 0, .string ⟨#[]⟩] 30)).blk (heap_alloc_new w (.cells #[.int .i64 k1, .int .i64 n1, .string s1] 30)) (by simp)
  have hb2 := ((Touch.refl [] ((w.alloc (.cells #[.int .i64 k1, .int .i64 n1, .string s1] 30)).alloc (.cells #[.int .i64 k2, .int .i64 n2, .string s2] 30))).alloc (.cells #[.int .i64 0, .int .i64 0, .string ⟨#[]⟩] 30)).blk (heap_alloc_new (w.alloc (.cells #[.int .i64 k1, .int .i64 n1, .string s1] 30)) (.cells #[.int .i64 k2, .int .i64 n2, .string s2] 30)) (by simp)
  have hbr := heap_alloc_new ((w.alloc (.cells #[.int .i64 k1, .int .i64 n1, .string s1] 30)).alloc (.cells #[.int .i64 k2, .int .i64 n2, .string s2] 30)) (.cells #[.int .i64 0, .int .i64 0, .string ⟨#[]⟩] 30)
  simp only [World.size_alloc] at hb2 hbr
  obtain ⟨W, hW⟩ : ∃ W, W = ((w.alloc (.cells #[.int .i64 k1, .int .i64 n1, .string s1] 30)).alloc (.cells #[.int .i64 k2, .int .i64 n2, .string s2] 30)).alloc (.cells #[.int .i64 0, .int .i64 0, .string ⟨#[]⟩] 30) := ⟨_, rfl⟩
  rw [← hW] at hb1 hb2 hbr t0
  have HW := Lib.hid hW; have Hb1 := Lib.hid hb1; have Hb2 := Lib.hid hb2; have Hbr := Lib.hid hbr; have T0 := Lib.hid t0
  have Hnull := Lib.hid fun w' => null_any w'
  have Hof := Lib.hid fun n w' => of_any n w'
  simp only [VD.val, zeroV, ofV, S] at Hnull Hof
  clear hW hb1 hb2 hbr t0
  have Htx := Lib.hid fun s w' => text_any s w'
  simp only [VD.val] at Htx
  by_cases h3 : k1 = 0
  · have Hf := Lib.hid (show catV ⟨k1, n1, s1⟩ ⟨k2, n2, s2⟩ = (zeroV, 0) by unfold catV; rw [if_pos (.inl h3)])
    subst h3
    go_enter Try.func54, Try.ntmps54
    go_wp2_with fail
    rw [← HW.out]
    refine (Hnull.out _).mono ?_
    rintro e w1 ⟨rfl, u1⟩
    obtain ⟨a0, a1, a2, _⟩ := blk3 (u1.blk Hb1.out (by simp))
    obtain ⟨b0, b1, b2, _⟩ := blk3 (u1.blk Hb2.out (by simp))
    obtain ⟨r0, r1, r2, f0, f1, f2⟩ := blk3 (u1.blk Hbr.out (by simp))
    go_wp2_with fail
    obtain ⟨q1, q2⟩ := out3 (u1.blk Hbr.out (by simp)) (.int .i64 0) (.int .i64 0) (.string ⟨#[]⟩)
    obtain ⟨d0, d1, d2, _⟩ := blk3 q1
    refine bodyPost_ret (v := .tuple #[.agg #[.int .i64 0, .int .i64 0, .string ⟨#[]⟩], .int .i64 (0)]) (by simp [results, Try.results54, go_sem, d0, d1, d2]) rfl ⟨?_, (T0.out.trans0 u1).trans q2 (fun b hb => .inr (by simp at hb; omega))⟩
    rw [Hf.out]; rfl
  have q3 : (k1 == 0) = false := by simpa using h3
  by_cases h4 : k2 = 0
  · have Hf := Lib.hid (show catV ⟨k1, n1, s1⟩ ⟨k2, n2, s2⟩ = (zeroV, 0) by unfold catV; rw [if_pos (.inr h4)])
    subst h4
    clear h3
    go_enter Try.func54, Try.ntmps54
    go_wp2_with fail
    rw [← HW.out]
    refine (Hnull.out _).mono ?_
    rintro e w1 ⟨rfl, u1⟩
    obtain ⟨a0, a1, a2, _⟩ := blk3 (u1.blk Hb1.out (by simp))
    obtain ⟨b0, b1, b2, _⟩ := blk3 (u1.blk Hb2.out (by simp))
    obtain ⟨r0, r1, r2, f0, f1, f2⟩ := blk3 (u1.blk Hbr.out (by simp))
    go_wp2_with fail
    obtain ⟨q1, q2⟩ := out3 (u1.blk Hbr.out (by simp)) (.int .i64 0) (.int .i64 0) (.string ⟨#[]⟩)
    obtain ⟨d0, d1, d2, _⟩ := blk3 q1
    refine bodyPost_ret (v := .tuple #[.agg #[.int .i64 0, .int .i64 0, .string ⟨#[]⟩], .int .i64 (0)]) (by simp [results, Try.results54, go_sem, d0, d1, d2]) rfl ⟨?_, (T0.out.trans0 u1).trans q2 (fun b hb => .inr (by simp at hb; omega))⟩
    rw [Hf.out]; rfl
  have q4 : (k2 == 0) = false := by simpa using h4
  have hne : ¬ (k1 = 0 ∨ k2 = 0) := by rintro (h | h); exact h3 h; exact h4 h
  clear h3 h4
  by_cases h6 : 64 < s1.size + s2.size
  · have Hf := Lib.hid (show catV ⟨k1, n1, s1⟩ ⟨k2, n2, s2⟩ = (zeroV, 10) by unfold catV; rw [if_neg hne, if_pos h6])
    have h6I : (64 : Int) < (s1.size : Int) + (s2.size : Int) := by omega
    go_enter Try.func54, Try.ntmps54
    go_wp2_with fail
    rw [← HW.out]
    have q1 := Hbr.out
    have q2 := Touch.refl [w.heap.size + 1 + 1] W
    obtain ⟨d0, d1, d2, _⟩ := blk3 q1
    refine bodyPost_ret (v := .tuple #[.agg #[.int .i64 0, .int .i64 0, .string ⟨#[]⟩], .int .i64 (10)]) (by simp [results, Try.results54, go_sem, d0, d1, d2]) rfl ⟨?_, T0.out.trans q2 (fun b hb => .inr (by simp at hb; omega))⟩
    rw [Hf.out]; rfl
  · have Hf := Lib.hid (show catV ⟨k1, n1, s1⟩ ⟨k2, n2, s2⟩ = (⟨2, 0, s1 ++ s2⟩, 0) by unfold catV; rw [if_neg hne, if_neg h6])
    have h6I : ¬ (64 : Int) < (s1.size : Int) + (s2.size : Int) := by omega
    go_enter Try.func54, Try.ntmps54
    go_wp2_with fail
    rw [← HW.out]
    refine (Htx.out _ _).mono ?_
    rintro e w1 ⟨rfl, u1⟩
    obtain ⟨a0, a1, a2, _⟩ := blk3 (u1.blk Hb1.out (by simp))
    obtain ⟨b0, b1, b2, _⟩ := blk3 (u1.blk Hb2.out (by simp))
    obtain ⟨r0, r1, r2, f0, f1, f2⟩ := blk3 (u1.blk Hbr.out (by simp))
    go_wp2_with fail
    obtain ⟨q1, q2⟩ := out3 (u1.blk Hbr.out (by simp)) (.int .i64 2) (.int .i64 0) (.string (s1 ++ s2))
    obtain ⟨d0, d1, d2, _⟩ := blk3 q1
    refine bodyPost_ret (v := .tuple #[.agg #[.int .i64 2, .int .i64 0, .string (s1 ++ s2)], .int .i64 (0)]) (by simp [results, Try.results54, go_sem, d0, d1, d2]) rfl ⟨?_, (T0.out.trans0 u1).trans q2 (fun b hb => .inr (by simp at hb; omega))⟩
    rw [Hf.out]
end Go.Proofs.Ytlkckkagoommaaa

/- expr.Expr.alone: an operation of one. For every expression and value. -/
namespace Go.Proofs.Ytlkckkagoommaaa
open Go.RowKit
attribute [local go_sem ↓] Go.wp_at_zero Go.wp_at_succ

theorem beq_S (x : ByteArray) (l : List UInt8) : (x.toList == l) = decide (x = S l) := by
  have := bs_beq x (S l)
  rwa [S_list] at this

set_option maxRecDepth 20000 in
set_option maxHeartbeats 3200000 in
theorem alone_any (x : XC) (v : VD) (w : World) :
    Calls Try.prog 52 #[x.val, v.val] w fun e w' => e = .returned (.tuple #[(aloneV x.nd v).1.val, .int .i64 (aloneV x.nd v).2]) ∧ Touch [] w w' := by
  have htr := fun w' => true_any v w'
  have har := fun w' => arith_any 45 (by simp) (ofV 0) v w'
  obtain ⟨tr, htre⟩ : ∃ tr, tr = v.tru := ⟨_, rfl⟩
  rw [← htre] at htr
  obtain ⟨ar, hare⟩ : ∃ ar, ar = arithV 45 (ofV 0) v := ⟨_, rfl⟩
  rw [← hare] at har
  obtain ⟨⟨k, nm, ⟨vk, vn, vt⟩, op⟩, A, m, c⟩ := x
  obtain ⟨k1, n1, s1⟩ := v
  dsimp only [XC.val, VD.val]
  have t0 := (((Touch.refl [] w).alloc (.cells #[.int .i64 k, .string nm, .int .i64 vk, .int .i64 vn, .string vt, .string op, .slice A m c] 33)).alloc (.cells #[.int .i64 k1, .int .i64 n1, .string s1] 30)).alloc (.cells #[.int .i64 0, .int .i64 0, .string ⟨#[]⟩] 30)
  have hb1 := (((Touch.refl [] (w.alloc (.cells #[.int .i64 k, .string nm, .int .i64 vk, .int .i64 vn, .string vt, .string op, .slice A m c] 33))).alloc (.cells #[.int .i64 k1, .int .i64 n1, .string s1] 30)).alloc (.cells #[.int .i64 0, .int .i64 0, .string ⟨#[]⟩] 30)).blk (heap_alloc_new w (.cells #[.int .i64 k, .string nm, .int .i64 vk, .int .i64 vn, .string vt, .string op, .slice A m c] 33)) (by simp)
  have hb2 := ((Touch.refl [] ((w.alloc (.cells #[.int .i64 k, .string nm, .int .i64 vk, .int .i64 vn, .string vt, .string op, .slice A m c] 33)).alloc (.cells #[.int .i64 k1, .int .i64 n1, .string s1] 30))).alloc (.cells #[.int .i64 0, .int .i64 0, .string ⟨#[]⟩] 30)).blk (heap_alloc_new (w.alloc (.cells #[.int .i64 k, .string nm, .int .i64 vk, .int .i64 vn, .string vt, .string op, .slice A m c] 33)) (.cells #[.int .i64 k1, .int .i64 n1, .string s1] 30)) (by simp)
  have hbr := heap_alloc_new ((w.alloc (.cells #[.int .i64 k, .string nm, .int .i64 vk, .int .i64 vn, .string vt, .string op, .slice A m c] 33)).alloc (.cells #[.int .i64 k1, .int .i64 n1, .string s1] 30)) (.cells #[.int .i64 0, .int .i64 0, .string ⟨#[]⟩] 30)
  simp only [World.size_alloc] at hb2 hbr
  obtain ⟨W, hW⟩ : ∃ W, W = ((w.alloc (.cells #[.int .i64 k, .string nm, .int .i64 vk, .int .i64 vn, .string vt, .string op, .slice A m c] 33)).alloc (.cells #[.int .i64 k1, .int .i64 n1, .string s1] 30)).alloc (.cells #[.int .i64 0, .int .i64 0, .string ⟨#[]⟩] 30) := ⟨_, rfl⟩
  rw [← hW] at hb1 hb2 hbr t0
  have HW := Lib.hid hW; have Hb1 := Lib.hid hb1; have Hb2 := Lib.hid hb2; have Hbr := Lib.hid hbr; have T0 := Lib.hid t0
  have Hnull := Lib.hid fun w' => null_any w'
  have Hof := Lib.hid fun n w' => of_any n w'
  simp only [VD.val, zeroV, ofV, S] at Hnull Hof
  clear hW hb1 hb2 hbr t0
  simp only [VD.val] at htr
  simp only [VD.val, ofV, S] at har
  have HbT := Lib.hid fun w' => bit_any true w'
  have HbF := Lib.hid fun w' => bit_any false w'
  simp only [bitV, if_true, Bool.false_eq_true, if_false, VD.val, ofV, S] at HbT HbF
  have Htr := Lib.hid htr
  have q1 := beq_S op [110, 111, 116]
  have q2 := beq_S nm [105, 115, 110, 117, 108, 108]
  have q3 := beq_S nm [108, 101, 110]
  have q4 := beq_S nm [97, 98, 115]
  have hst : aloneV ⟨k, nm, ⟨vk, vn, vt⟩, op⟩ ⟨k1, n1, s1⟩ = (if op = wNot then (bitV (!tr), 0) else if nm = wIsnull then (bitV (decide (k1 = 0)), 0) else if k1 = 0 then (⟨k1, n1, s1⟩, 0) else if nm = wLen then (ofV s1.size, 0) else if nm = wAbs ∧ 0 ≤ n1 then (⟨k1, n1, s1⟩, 0) else ar) := by
    rw [htre, hare]; rfl
  clear htre hare htr
  by_cases h1 : op = wNot
  · rw [decide_eq_true (p := op = S [110, 111, 116]) h1] at q1
    rw [if_pos h1] at hst
    have Hf := Lib.hid hst
    clear hst h1 har
    cases tr
    · simp only [bitV, Bool.not_false, if_true] at Hf
      go_enter Try.func52, Try.ntmps52
      go_wp2_with fail
      rw [← HW.out]
      refine (Htr.out _).mono ?_
      rintro e w1 ⟨rfl, u1⟩
      obtain ⟨a0, a1, a2, a3, a4, a5, a6, _⟩ := blk7 (u1.blk Hb1.out (by simp))
      obtain ⟨b0, b1, b2, _⟩ := blk3 (u1.blk Hb2.out (by simp))
      obtain ⟨r0, r1, r2, f0, f1, f2⟩ := blk3 (u1.blk Hbr.out (by simp))
      go_wp2_with fail
      clear a0 a1 a2 b0 b1 b2 r0 r1 r2 f0 f1 f2 a3 a4 a5 a6
      refine (HbT.out _).mono ?_
      rintro e w2 ⟨rfl, u2⟩
      obtain ⟨a0, a1, a2, a3, a4, a5, a6, _⟩ := blk7 (u2.blk (u1.blk Hb1.out (by simp)) (by simp))
      obtain ⟨b0, b1, b2, _⟩ := blk3 (u2.blk (u1.blk Hb2.out (by simp)) (by simp))
      obtain ⟨r0, r1, r2, f0, f1, f2⟩ := blk3 (u2.blk (u1.blk Hbr.out (by simp)) (by simp))
      go_wp2_with fail
      obtain ⟨q1, q2⟩ := out3 (u2.blk (u1.blk Hbr.out (by simp)) (by simp)) (.int .i64 1) (.int .i64 1) (.string ⟨#[]⟩)
      obtain ⟨d0, d1, d2, _⟩ := blk3 q1
      refine bodyPost_ret (v := .tuple #[.agg #[.int .i64 1, .int .i64 1, .string ⟨#[]⟩], .int .i64 (0)]) (by simp [results, Try.results52, go_sem, d0, d1, d2]) rfl ⟨?_, ((T0.out.trans0 u1).trans0 u2).trans q2 (fun b hb => .inr (by simp at hb; omega))⟩
      rw [Hf.out]; rfl
    · simp only [bitV, Bool.not_true, Bool.false_eq_true, if_false] at Hf
      go_enter Try.func52, Try.ntmps52
      go_wp2_with fail
      rw [← HW.out]
      refine (Htr.out _).mono ?_
      rintro e w1 ⟨rfl, u1⟩
      obtain ⟨a0, a1, a2, a3, a4, a5, a6, _⟩ := blk7 (u1.blk Hb1.out (by simp))
      obtain ⟨b0, b1, b2, _⟩ := blk3 (u1.blk Hb2.out (by simp))
      obtain ⟨r0, r1, r2, f0, f1, f2⟩ := blk3 (u1.blk Hbr.out (by simp))
      go_wp2_with fail
      clear a0 a1 a2 b0 b1 b2 r0 r1 r2 f0 f1 f2 a3 a4 a5 a6
      refine (HbF.out _).mono ?_
      rintro e w2 ⟨rfl, u2⟩
      obtain ⟨a0, a1, a2, a3, a4, a5, a6, _⟩ := blk7 (u2.blk (u1.blk Hb1.out (by simp)) (by simp))
      obtain ⟨b0, b1, b2, _⟩ := blk3 (u2.blk (u1.blk Hb2.out (by simp)) (by simp))
      obtain ⟨r0, r1, r2, f0, f1, f2⟩ := blk3 (u2.blk (u1.blk Hbr.out (by simp)) (by simp))
      go_wp2_with fail
      obtain ⟨q1, q2⟩ := out3 (u2.blk (u1.blk Hbr.out (by simp)) (by simp)) (.int .i64 1) (.int .i64 0) (.string ⟨#[]⟩)
      obtain ⟨d0, d1, d2, _⟩ := blk3 q1
      refine bodyPost_ret (v := .tuple #[.agg #[.int .i64 1, .int .i64 0, .string ⟨#[]⟩], .int .i64 (0)]) (by simp [results, Try.results52, go_sem, d0, d1, d2]) rfl ⟨?_, ((T0.out.trans0 u1).trans0 u2).trans q2 (fun b hb => .inr (by simp at hb; omega))⟩
      rw [Hf.out]; rfl
  rw [decide_eq_false (p := op = S [110, 111, 116]) h1] at q1
  rw [if_neg h1] at hst
  clear h1 Htr
  by_cases h2 : nm = wIsnull
  · rw [decide_eq_true (p := nm = S [105, 115, 110, 117, 108, 108]) h2] at q2
    rw [if_pos h2] at hst
    have Hf := Lib.hid hst
    clear hst h2 har q3 q4
    by_cases h5 : k1 = 0
    · subst h5
      simp only [decide_true, bitV, if_true] at Hf
      go_enter Try.func52, Try.ntmps52
      go_wp2_with fail
      rw [← HW.out]
      refine (HbT.out _).mono ?_
      rintro e w1 ⟨rfl, u1⟩
      obtain ⟨a0, a1, a2, a3, a4, a5, a6, _⟩ := blk7 (u1.blk Hb1.out (by simp))
      obtain ⟨b0, b1, b2, _⟩ := blk3 (u1.blk Hb2.out (by simp))
      obtain ⟨r0, r1, r2, f0, f1, f2⟩ := blk3 (u1.blk Hbr.out (by simp))
      go_wp2_with fail
      obtain ⟨q1, q2⟩ := out3 (u1.blk Hbr.out (by simp)) (.int .i64 1) (.int .i64 1) (.string ⟨#[]⟩)
      obtain ⟨d0, d1, d2, _⟩ := blk3 q1
      refine bodyPost_ret (v := .tuple #[.agg #[.int .i64 1, .int .i64 1, .string ⟨#[]⟩], .int .i64 (0)]) (by simp [results, Try.results52, go_sem, d0, d1, d2]) rfl ⟨?_, (T0.out.trans0 u1).trans q2 (fun b hb => .inr (by simp at hb; omega))⟩
      rw [Hf.out]; rfl
    · have q5 : (k1 == 0) = false := by simpa using h5
      simp only [h5, decide_false, bitV, Bool.false_eq_true, if_false] at Hf
      go_enter Try.func52, Try.ntmps52
      go_wp2_with fail
      rw [← HW.out]
      refine (HbF.out _).mono ?_
      rintro e w1 ⟨rfl, u1⟩
      obtain ⟨a0, a1, a2, a3, a4, a5, a6, _⟩ := blk7 (u1.blk Hb1.out (by simp))
      obtain ⟨b0, b1, b2, _⟩ := blk3 (u1.blk Hb2.out (by simp))
      obtain ⟨r0, r1, r2, f0, f1, f2⟩ := blk3 (u1.blk Hbr.out (by simp))
      go_wp2_with fail
      obtain ⟨q1, q2⟩ := out3 (u1.blk Hbr.out (by simp)) (.int .i64 1) (.int .i64 0) (.string ⟨#[]⟩)
      obtain ⟨d0, d1, d2, _⟩ := blk3 q1
      refine bodyPost_ret (v := .tuple #[.agg #[.int .i64 1, .int .i64 0, .string ⟨#[]⟩], .int .i64 (0)]) (by simp [results, Try.results52, go_sem, d0, d1, d2]) rfl ⟨?_, (T0.out.trans0 u1).trans q2 (fun b hb => .inr (by simp at hb; omega))⟩
      rw [Hf.out]; rfl
  rw [decide_eq_false (p := nm = S [105, 115, 110, 117, 108, 108]) h2] at q2
  rw [if_neg h2] at hst
  clear h2 HbT HbF
  by_cases h5 : k1 = 0
  · rw [if_pos h5] at hst
    have Hf := Lib.hid hst
    clear hst har
    subst h5
    go_enter Try.func52, Try.ntmps52
    go_wp2_with fail
    have q1 := heap_alloc_new ((w.alloc (.cells #[.int .i64 k, .string nm, .int .i64 vk, .int .i64 vn, .string vt, .string op, .slice A m c] 33)).alloc (.cells #[.int .i64 0, .int .i64 n1, .string s1] 30)) (.cells #[.int .i64 0, .int .i64 n1, .string s1] 30)
    simp only [World.size_alloc] at q1
    obtain ⟨d0, d1, d2, _⟩ := blk3 q1
    refine bodyPost_ret (v := .tuple #[.agg #[.int .i64 0, .int .i64 n1, .string s1], .int .i64 (0)]) (by simp [results, Try.results52, go_sem, d0, d1, d2]) rfl ⟨?_, (((Touch.refl [] w).alloc (.cells #[.int .i64 k, .string nm, .int .i64 vk, .int .i64 vn, .string vt, .string op, .slice A m c] 33)).alloc (.cells #[.int .i64 0, .int .i64 n1, .string s1] 30)).alloc _⟩
    rw [Hf.out]
  have q5 : (k1 == 0) = false := by simpa using h5
  rw [if_neg h5] at hst
  clear h5
  by_cases h3 : nm = wLen
  · rw [decide_eq_true (p := nm = S [108, 101, 110]) h3] at q3
    rw [if_pos h3] at hst
    have Hf := Lib.hid hst
    clear hst h3 har q4
    go_enter Try.func52, Try.ntmps52
    go_wp2_with fail
    rw [← HW.out]
    refine (Hof.out _ _).mono ?_
    rintro e w1 ⟨rfl, u1⟩
    obtain ⟨a0, a1, a2, a3, a4, a5, a6, _⟩ := blk7 (u1.blk Hb1.out (by simp))
    obtain ⟨b0, b1, b2, _⟩ := blk3 (u1.blk Hb2.out (by simp))
    obtain ⟨r0, r1, r2, f0, f1, f2⟩ := blk3 (u1.blk Hbr.out (by simp))
    go_wp2_with fail
    obtain ⟨q1, q2⟩ := out3 (u1.blk Hbr.out (by simp)) (.int .i64 1) (.int .i64 s1.size) (.string ⟨#[]⟩)
    obtain ⟨d0, d1, d2, _⟩ := blk3 q1
    refine bodyPost_ret (v := .tuple #[.agg #[.int .i64 1, .int .i64 s1.size, .string ⟨#[]⟩], .int .i64 (0)]) (by simp [results, Try.results52, go_sem, d0, d1, d2]) rfl ⟨?_, (T0.out.trans0 u1).trans q2 (fun b hb => .inr (by simp at hb; omega))⟩
    rw [Hf.out]; rfl
  rw [decide_eq_false (p := nm = S [108, 101, 110]) h3] at q3
  rw [if_neg h3] at hst
  clear h3
  by_cases h4 : nm = wAbs ∧ 0 ≤ n1
  · rw [if_pos h4] at hst
    obtain ⟨h4a, h4b⟩ := h4
    rw [decide_eq_true (p := nm = S [97, 98, 115]) h4a] at q4
    have Hf := Lib.hid hst
    clear hst h4a har
    go_enter Try.func52, Try.ntmps52
    go_wp2_with fail
    have q1 := heap_alloc_new ((w.alloc (.cells #[.int .i64 k, .string nm, .int .i64 vk, .int .i64 vn, .string vt, .string op, .slice A m c] 33)).alloc (.cells #[.int .i64 k1, .int .i64 n1, .string s1] 30)) (.cells #[.int .i64 k1, .int .i64 n1, .string s1] 30)
    simp only [World.size_alloc] at q1
    obtain ⟨d0, d1, d2, _⟩ := blk3 q1
    refine bodyPost_ret (v := .tuple #[.agg #[.int .i64 k1, .int .i64 n1, .string s1], .int .i64 (0)]) (by simp [results, Try.results52, go_sem, d0, d1, d2]) rfl ⟨?_, (((Touch.refl [] w).alloc (.cells #[.int .i64 k, .string nm, .int .i64 vk, .int .i64 vn, .string vt, .string op, .slice A m c] 33)).alloc (.cells #[.int .i64 k1, .int .i64 n1, .string s1] 30)).alloc _⟩
    rw [Hf.out]
  rw [if_neg h4] at hst
  have Har := Lib.hid har
  have Hf := Lib.hid hst
  clear hst har
  have td := (Touch.refl [] W).drew
  obtain ⟨v0, v1, v2, _⟩ := blk3 (td.blk Hb2.out (by simp))
  obtain ⟨⟨rk, rn, rs⟩, rx⟩ := ar
  simp only at Har Hf
  by_cases h4a : nm = wAbs
  · have h4b : ¬ 0 ≤ n1 := fun h => h4 ⟨h4a, h⟩
    rw [decide_eq_true (p := nm = S [97, 98, 115]) h4a] at q4
    clear h4 h4a
    go_enter Try.func52, Try.ntmps52
    go_wp2_with fail
    rw [← HW.out]
    refine wp_region_held_drew (S := fun w' => w'.cell? ⟨w.heap.size + 1, 0, none⟩ = some (.int .i64 k1) ∧ w'.cell? ⟨w.heap.size + 1, 1, none⟩ = some (.int .i64 n1) ∧ w'.cell? ⟨w.heap.size + 1, 2, none⟩ = some (.string s1)) (by kernel_rfl) ⟨v0, v1, v2⟩ (fun hHeld => ?_)
    refine take_d (i := 1) (d := 46) (v := ?_) rfl rfl (by kernel_rfl) (by kernel_rfl) (by kernel_rfl) (fun _ _ _ h => h) (Or.inl ⟨by rfl, ?_⟩) (by assumption) ?_
    rotate_left
    · intro w hSw; (try dsimp only at hSw); go_simp; (try with_reducible rfl)
    try simp only [Act.put, List.setIfInBounds_toArray, List.set_cons_zero, List.set_cons_succ]
    refine wpAnyH_ready (rs := [0]) (by kernel_rfl) (by simp) ?_
    refine AllReadyH.cons rfl (fun K hK => ?_) AllReadyH.nil
    go_simp
    go_at_call 23
    refine (Hof.out 0 _).mono ?_
    rintro e w1 ⟨rfl, u1⟩
    have v0' := u1.cell v0 (by simp)
    have v1' := u1.cell v1 (by simp)
    have v2' := u1.cell v2 (by simp)
    (try go_wp2_with fail)
    refine hK.out _ _ ⟨v0', v1', v2'⟩ (fun _hH => ?_)
    clear hK K
    try simp only [Act.put, List.setIfInBounds_toArray, List.set_cons_zero, List.set_cons_succ]
    refine wpAnyH_ready (rs := [2]) (by kernel_rfl) (by simp) ?_
    refine AllReadyH.cons rfl (fun K hK => ?_) AllReadyH.nil
    go_simp
    go_at_call 56
    refine (Har.out _).mono ?_
    rintro e w2 ⟨rfl, u2⟩
    have v0'' := u2.cell v0' (by simp)
    have v1'' := u2.cell v1' (by simp)
    have v2'' := u2.cell v2' (by simp)
    (try go_wp2_with fail)
    refine hK.out _ _ ⟨v0'', v1'', v2''⟩ (fun _hH => ?_)
    clear hK K
    try simp only [Act.put, List.setIfInBounds_toArray, List.set_cons_zero, List.set_cons_succ]
    refine take_d (i := 3) (d := 48) (v := ?_) rfl rfl (by kernel_rfl) (by kernel_rfl) (by kernel_rfl) (fun _ _ _ h => h) (Or.inl ⟨by rfl, ?_⟩) (by assumption) ?_
    rotate_left
    · intro w hSw; (try dsimp only at hSw); go_simp; (try with_reducible rfl)
    try simp only [Act.put, List.setIfInBounds_toArray, List.set_cons_zero, List.set_cons_succ]
    refine take_d (i := 4) (d := 49) (v := ?_) rfl rfl (by kernel_rfl) (by kernel_rfl) (by kernel_rfl) (fun _ _ _ h => h) (Or.inl ⟨by rfl, ?_⟩) (by assumption) ?_
    rotate_left
    · intro w hSw; (try dsimp only at hSw); go_simp; (try with_reducible rfl)
    try simp only [Act.put, List.setIfInBounds_toArray, List.set_cons_zero, List.set_cons_succ]
    have hbr2 := (td.trans0 (u1.trans0 u2)).blk Hbr.out (by simp)
    obtain ⟨r0, r1, r2, f0, f1, f2⟩ := blk3 hbr2
    obtain ⟨q1, q2⟩ := out3 hbr2 (.int .i64 rk) (.int .i64 rn) (.string rs)
    have z0 := q2.cell v0'' (by simp only [List.mem_singleton]; omega)
    have z1 := q2.cell v1'' (by simp only [List.mem_singleton]; omega)
    have z2 := q2.cell v2'' (by simp only [List.mem_singleton]; omega)
    refine wpAnyH_ready (rs := [5]) (by kernel_rfl) (by simp) ?_
    refine AllReadyH.cons rfl (fun K hK => ?_) AllReadyH.nil
    go_simp
    (try go_wp2_with fail)
    refine hK.out _ _ ⟨z0, z1, z2⟩ (fun _hH => ?_)
    clear hK K
    try simp only [Act.put, List.setIfInBounds_toArray, List.set_cons_zero, List.set_cons_succ]
    refine take_d (i := 6) (d := 5) (v := ?_) rfl rfl (by kernel_rfl) (by kernel_rfl) (by kernel_rfl) (fun _ _ _ h => h) (Or.inl ⟨by rfl, ?_⟩) (by assumption) ?_
    rotate_left
    · intro w hSw; (try dsimp only at hSw); go_simp; (try with_reducible rfl)
    try simp only [Act.put, List.setIfInBounds_toArray, List.set_cons_zero, List.set_cons_succ]
    refine wpAnyH_done (by kernel_rfl) ?_ _
    go_wp2_with fail
    obtain ⟨d0, d1, d2, _⟩ := blk3 q1
    refine bodyPost_ret (v := .tuple #[.agg #[.int .i64 rk, .int .i64 rn, .string rs], .int .i64 rx]) (by simp [results, Try.results52, go_sem, d0, d1, d2]) rfl ⟨?_, (T0.out.trans0 (td.trans0 (u1.trans0 u2))).trans q2 (fun b hb => .inr (by simp at hb; omega))⟩
    rw [Hf.out]
  · rw [decide_eq_false (p := nm = S [97, 98, 115]) h4a] at q4
    clear h4 h4a
    go_enter Try.func52, Try.ntmps52
    go_wp2_with fail
    rw [← HW.out]
    refine wp_region_held_drew (S := fun w' => w'.cell? ⟨w.heap.size + 1, 0, none⟩ = some (.int .i64 k1) ∧ w'.cell? ⟨w.heap.size + 1, 1, none⟩ = some (.int .i64 n1) ∧ w'.cell? ⟨w.heap.size + 1, 2, none⟩ = some (.string s1)) (by kernel_rfl) ⟨v0, v1, v2⟩ (fun hHeld => ?_)
    refine take_d (i := 1) (d := 46) (v := ?_) rfl rfl (by kernel_rfl) (by kernel_rfl) (by kernel_rfl) (fun _ _ _ h => h) (Or.inl ⟨by rfl, ?_⟩) (by assumption) ?_
    rotate_left
    · intro w hSw; (try dsimp only at hSw); go_simp; (try with_reducible rfl)
    try simp only [Act.put, List.setIfInBounds_toArray, List.set_cons_zero, List.set_cons_succ]
    refine wpAnyH_ready (rs := [0]) (by kernel_rfl) (by simp) ?_
    refine AllReadyH.cons rfl (fun K hK => ?_) AllReadyH.nil
    go_simp
    go_at_call 23
    refine (Hof.out 0 _).mono ?_
    rintro e w1 ⟨rfl, u1⟩
    have v0' := u1.cell v0 (by simp)
    have v1' := u1.cell v1 (by simp)
    have v2' := u1.cell v2 (by simp)
    (try go_wp2_with fail)
    refine hK.out _ _ ⟨v0', v1', v2'⟩ (fun _hH => ?_)
    clear hK K
    try simp only [Act.put, List.setIfInBounds_toArray, List.set_cons_zero, List.set_cons_succ]
    refine wpAnyH_ready (rs := [2]) (by kernel_rfl) (by simp) ?_
    refine AllReadyH.cons rfl (fun K hK => ?_) AllReadyH.nil
    go_simp
    go_at_call 56
    refine (Har.out _).mono ?_
    rintro e w2 ⟨rfl, u2⟩
    have v0'' := u2.cell v0' (by simp)
    have v1'' := u2.cell v1' (by simp)
    have v2'' := u2.cell v2' (by simp)
    (try go_wp2_with fail)
    refine hK.out _ _ ⟨v0'', v1'', v2''⟩ (fun _hH => ?_)
    clear hK K
    try simp only [Act.put, List.setIfInBounds_toArray, List.set_cons_zero, List.set_cons_succ]
    refine take_d (i := 3) (d := 48) (v := ?_) rfl rfl (by kernel_rfl) (by kernel_rfl) (by kernel_rfl) (fun _ _ _ h => h) (Or.inl ⟨by rfl, ?_⟩) (by assumption) ?_
    rotate_left
    · intro w hSw; (try dsimp only at hSw); go_simp; (try with_reducible rfl)
    try simp only [Act.put, List.setIfInBounds_toArray, List.set_cons_zero, List.set_cons_succ]
    refine take_d (i := 4) (d := 49) (v := ?_) rfl rfl (by kernel_rfl) (by kernel_rfl) (by kernel_rfl) (fun _ _ _ h => h) (Or.inl ⟨by rfl, ?_⟩) (by assumption) ?_
    rotate_left
    · intro w hSw; (try dsimp only at hSw); go_simp; (try with_reducible rfl)
    try simp only [Act.put, List.setIfInBounds_toArray, List.set_cons_zero, List.set_cons_succ]
    have hbr2 := (td.trans0 (u1.trans0 u2)).blk Hbr.out (by simp)
    obtain ⟨r0, r1, r2, f0, f1, f2⟩ := blk3 hbr2
    obtain ⟨q1, q2⟩ := out3 hbr2 (.int .i64 rk) (.int .i64 rn) (.string rs)
    have z0 := q2.cell v0'' (by simp only [List.mem_singleton]; omega)
    have z1 := q2.cell v1'' (by simp only [List.mem_singleton]; omega)
    have z2 := q2.cell v2'' (by simp only [List.mem_singleton]; omega)
    refine wpAnyH_ready (rs := [5]) (by kernel_rfl) (by simp) ?_
    refine AllReadyH.cons rfl (fun K hK => ?_) AllReadyH.nil
    go_simp
    (try go_wp2_with fail)
    refine hK.out _ _ ⟨z0, z1, z2⟩ (fun _hH => ?_)
    clear hK K
    try simp only [Act.put, List.setIfInBounds_toArray, List.set_cons_zero, List.set_cons_succ]
    refine take_d (i := 6) (d := 5) (v := ?_) rfl rfl (by kernel_rfl) (by kernel_rfl) (by kernel_rfl) (fun _ _ _ h => h) (Or.inl ⟨by rfl, ?_⟩) (by assumption) ?_
    rotate_left
    · intro w hSw; (try dsimp only at hSw); go_simp; (try with_reducible rfl)
    try simp only [Act.put, List.setIfInBounds_toArray, List.set_cons_zero, List.set_cons_succ]
    refine wpAnyH_done (by kernel_rfl) ?_ _
    go_wp2_with fail
    obtain ⟨d0, d1, d2, _⟩ := blk3 q1
    refine bodyPost_ret (v := .tuple #[.agg #[.int .i64 rk, .int .i64 rn, .string rs], .int .i64 rx]) (by simp [results, Try.results52, go_sem, d0, d1, d2]) rfl ⟨?_, (T0.out.trans0 (td.trans0 (u1.trans0 u2))).trans q2 (fun b hb => .inr (by simp at hb; omega))⟩
    rw [Hf.out]
end Go.Proofs.Ytlkckkagoommaaa

/- expr.fit: do types fit a rule? For all lists of types of one length. -/
namespace Go.Proofs.Ytlkckkagoommaaa
open Go.RowKit

theorem fitL_drop (ws ts : List Int) (both : Int) (k : Nat) (h1 : k < ws.length) (h2 : k < ts.length) :
    fitL (ws.drop k) (ts.drop k) both = (if ts[k] = 0 ∨ ws[k] = 0 then fitL (ws.drop (k + 1)) (ts.drop (k + 1)) both
      else if ws[k] ≠ -1 ∧ ws[k] ≠ ts[k] ∨ ws[k] = -1 ∧ both ≠ 0 ∧ both ≠ ts[k] then (0, false)
      else if ws[k] = -1 then fitL (ws.drop (k + 1)) (ts.drop (k + 1)) ts[k] else fitL (ws.drop (k + 1)) (ts.drop (k + 1)) both) := by
  rw [List.drop_eq_getElem_cons h1, List.drop_eq_getElem_cons h2]; rfl

set_option maxRecDepth 20000 in
set_option maxHeartbeats 1600000 in
theorem fit_any (A B : Option Addr) (c1 c2 n : Nat) (ws ts : List Int) (hn : ws.length = n) (hm : ts.length = n) (w : World) (h : IntsAt w A ws) (h2 : IntsAt w B ts) (hl : n ≤ 140737000000000) :
    Calls Try.prog 67 #[.slice A n c1, .slice B n c2] w fun e w' => e = .returned (.tuple #[.int .i64 (fitL ws ts 0).1, .bool (fitL ws ts 0).2]) ∧ w' = w := by
  go_enter Try.func67, Try.ntmps67
  have Hn := Lib.hid hn; have Hm := Lib.hid hm
  clear hn hm
  go_wp2
  go_loop [6, 11] (fun b i => ∃ (k : Nat) (both : Int), k ≤ n ∧ i = .int .i64 k ∧ b = .int .i64 both ∧ Hid (fitL ws ts 0 = fitL (ws.drop k) (ts.drop k) both)) (fun _ i => n - (intOf i).toNat)
  case atStart => exact ⟨0, 0, by omega, rfl, rfl, Lib.hid rfl⟩
  case round =>
    obtain ⟨k, both, hk, rfl, rfl, He⟩ := hrel
    by_cases hlt : k < n
    · have hl1 : k < ws.length := by have := Hn.out; omega
      have hl2 : k < ts.length := by have := Hm.out; omega
      obtain ⟨ad, rfl, hc1⟩ := h.at_ k hl1
      obtain ⟨bd, rfl, hc2⟩ := h2.at_ k hl2
      have hst := fitL_drop ws ts both k hl1 hl2
      rw [← He.out] at hst
      obtain ⟨t, ht⟩ : ∃ t, t = ts[k] := ⟨_, rfl⟩
      obtain ⟨v, hv⟩ : ∃ v, v = ws[k] := ⟨_, rfl⟩
      rw [← ht] at hst hc2
      rw [← hv] at hst hc1
      have hkI : (k : Int) < (n : Int) := by omega
      clear ht hv He
      by_cases e1 : t = 0
      · have Hs := Lib.hid (show fitL ws ts 0 = fitL (ws.drop (k + 1)) (ts.drop (k + 1)) both by rw [hst, if_pos (.inl e1)])
        subst e1
        clear hst
        go_wp2
        go_round
        case rel => exact ⟨k + 1, both, by omega, by go_num, rfl, Hs⟩
        case measure => simp [intOf]; omega
      have b1 : (t == 0) = false := by simpa using e1
      by_cases e2 : v = 0
      · have Hs := Lib.hid (show fitL ws ts 0 = fitL (ws.drop (k + 1)) (ts.drop (k + 1)) both by rw [hst, if_pos (.inr e2)])
        subst e2
        clear hst e1
        go_wp2
        go_round
        case rel => exact ⟨k + 1, both, by omega, by go_num, rfl, Hs⟩
        case measure => simp [intOf]; omega
      have b2 : (v == 0) = false := by simpa using e2
      rw [if_neg (by rintro (h | h); exact e1 h; exact e2 h)] at hst
      by_cases e3 : v = -1
      · subst e3
        by_cases e4 : both = 0
        · have Hs := Lib.hid (show fitL ws ts 0 = fitL (ws.drop (k + 1)) (ts.drop (k + 1)) t by rw [hst, if_neg (by simp [e4]), if_pos rfl])
          subst e4
          clear hst e1 e2
          go_wp2
          go_round
          case rel => exact ⟨k + 1, t, by omega, by go_num, rfl, Hs⟩
          case measure => simp [intOf]; omega
        have b4 : (both != 0) = true := by simpa using e4
        by_cases e5 : both = t
        · have Hs := Lib.hid (show fitL ws ts 0 = fitL (ws.drop (k + 1)) (ts.drop (k + 1)) t by rw [hst, if_neg (by simp [e5]), if_pos rfl])
          subst e5
          clear hst e1 e2 e4
          go_wp2
          go_round
          case rel => exact ⟨k + 1, _, by omega, by go_num, rfl, Hs⟩
          case measure => simp [intOf]; omega
        · have b5 : (both != t) = true := by simpa using e5
          have Hs := Lib.hid (show fitL ws ts 0 = (0, false) by rw [hst, if_pos (.inr ⟨rfl, e4, e5⟩)])
          clear hst e1 e2 e4 e5
          go_wp2
          go_ret2
          exact ⟨by rw [Hs.out]; rfl, rfl⟩
      have b3 : (v == -1) = false := by simpa using e3
      have b3' : (v != -1) = true := by simpa using e3
      by_cases e6 : v = t
      · have Hs := Lib.hid (show fitL ws ts 0 = fitL (ws.drop (k + 1)) (ts.drop (k + 1)) both by rw [hst, if_neg (by simp [e6]; intro h; exact absurd (e6.trans h) e3), if_neg e3])
        subst e6
        clear hst e1 e2 e3
        go_wp2
        go_round
        case rel => exact ⟨k + 1, both, by omega, by go_num, rfl, Hs⟩
        case measure => simp [intOf]; omega
      · have b6 : (v != t) = true := by simpa using e6
        have Hs := Lib.hid (show fitL ws ts 0 = (0, false) by rw [hst, if_pos (.inl ⟨e3, e6⟩)])
        clear hst e1 e2 e3 e6
        go_wp2
        go_ret2
        exact ⟨by rw [Hs.out]; rfl, rfl⟩
    · obtain rfl : k = n := by omega
      have Hs := Lib.hid (show fitL ws ts 0 = (both, true) by rw [He.out, List.drop_of_length_le (by have := Hn.out; omega), List.drop_of_length_le (by have := Hm.out; omega)]; rfl)
      go_wp2
      go_ret2
      exact ⟨by rw [Hs.out]; rfl, rfl⟩
end Go.Proofs.Ytlkckkagoommaaa

/- expr.Expr.Size, bywashref04.Size: how many expressions. For every expression. -/
namespace Go.Proofs.Ytlkckkagoommaaa
open Go.RowKit

set_option maxRecDepth 20000 in
set_option maxHeartbeats 800000 in
theorem sizeX_any (n : Nat) : ∀ (e : TX n) (x : XC) (w : World), ExP xcE anyB n w x e → sizeX n e ≤ 1000000 →
    Calls Try.prog 26 #[x.val] w fun r w' => r = .returned (.int .i64 (sizeX n e)) ∧ Touch [] w w' := by
  induction n with
  | zero => intro e; exact e.elim
  | succ n ih =>
    intro e x w hx hs
    obtain ⟨nd, args⟩ := e
    obtain ⟨h1, h2, h3⟩ := hx.args
    have hsum : sumX n args ≤ 1000000 := by have hs' : 1 + sumX n args ≤ 1000000 := hs; omega
    have hlen := len_le_sum n args
    have htk := sum_take_le n args
    have hfin : sizeX (n + 1) (nd, args) = 1 + sumX n args := rfl
    obtain ⟨⟨k, nm, ⟨vk, vn, vt⟩, op⟩, A, m, c⟩ := x
    dsimp only at h2 h3
    subst h2
    dsimp only [XC.val]
    have Htk := Lib.hid htk; have Hfin := Lib.hid hfin; have Ih := Lib.hid ih
    have t0 := (Touch.refl [] w).alloc (.cells #[.int .i64 k, .string nm, .int .i64 vk, .int .i64 vn, .string vt, .string op, .slice A args.length c] 33)
    clear htk hfin ih hx h1 hs
    go_enter Try.func26, Try.ntmps26
    go_wp2_with fail
    go_loopw [3, 9] (fun v i wr => ∃ j : Nat, j ≤ args.length ∧ i = .int .i64 j ∧ v = .int .i64 ((1 + sumX n (args.take j) : Nat) : Int) ∧ Touch [] w wr) (fun _ i _ => args.length - (intOf i).toNat)
    case atStart => exact ⟨0, by omega, rfl, by simp [sumX], t0⟩
    case round =>
      obtain ⟨j, hj, rfl, rfl, ht⟩ := hrel
      by_cases hlt : j < args.length
      · obtain ⟨ad, b, off, y, rfl, hadd, hy, hcell⟩ := (h3.touch0 ht).at_ xcE_length j hlt
        have hsn := sumX_snoc n args j hlt
        have hms := size_mem (List.getElem_mem hlt)
        have htj := Htk.out j
        have htj1 := Htk.out (j + 1)
        obtain ⟨a, hae⟩ : ∃ a, a = args[j] := ⟨_, rfl⟩
        rw [← hae] at hy hsn hms
        have ta := (Touch.refl [] wr).alloc (.cells #[.int .i64 y.nd.kind, .string y.nd.name, .int .i64 y.nd.v.kind, .int .i64 y.nd.v.num, .string y.nd.v.text, .string y.nd.op, .slice y.A y.n y.c] 33)
        have hc := Lib.hid (Ih.out a y _ (hy.touch0 ta) (by omega))
        have c0 := hcell 0 _ rfl; have c1 := hcell 1 _ rfl; have c2 := hcell 2 _ rfl; have c3 := hcell 3 _ rfl; have c4 := hcell 4 _ rfl; have c5 := hcell 5 _ rfl; have c6 := hcell 6 _ rfl
        rw [Nat.add_zero] at c0
        obtain ⟨p, hp⟩ : ∃ p, p = sumX n (args.take j) := ⟨_, rfl⟩
        obtain ⟨q, hq⟩ : ∃ q, q = sizeX n a := ⟨_, rfl⟩
        rw [← hp] at hsn htj ⊢
        rw [← hq] at hsn hms
        rw [hsn] at htj1
        have Hsn := Lib.hid hsn
        rw [← hq] at hc
        clear hsn hae hcell hp hq
        obtain ⟨⟨k2, nm2, ⟨vk2, vn2, vt2⟩, op2⟩, A2, m2, c2'⟩ := y
        simp only [XC.val] at hc c0 c1 c2 c3 c4 c5 c6
        go_wp2_with fail
        refine hc.out.mono ?_
        rintro e w1 ⟨rfl, t1⟩
        go_wp2_with fail
        go_roundw
        case rel => exact ⟨j + 1, by omega, by go_num, by rw [Hsn.out]; go_num, (ht.trans0 ta).trans0 t1⟩
        case measure => simp [intOf]; omega
      · obtain rfl : j = args.length := by omega
        rw [List.take_length]
        go_wp2_with fail
        go_ret
        exact ⟨by rw [Hfin.out]; rfl, ht⟩
end Go.Proofs.Ytlkckkagoommaaa

/- expr.Expr.typed, Type: an expression's type and error. For every expression and schema. -/
namespace Go.Proofs.Ytlkckkagoommaaa
open Go.RowKit

theorem info_int : (Try.prog.info? 3).map (fun i => (i.zero, i.size, i.bytes)) = some (some (.int .i64 0), 1, 8) := by kernel_rfl
/-- the type and the error of each of some, as far as all are right -/
theorem typedX_succ (cs : List CD) (n d : Nat) (e : TX (n + 1)) : typedX cs (n + 1) d e =
    (if 32 < d then (0, 52)
    else if formV e.1 e.2.length = false then (0, 20)
    else if e.1.kind = 2 then (e.1.v.kind, 0)
    else if e.1.kind = 1 then (match colT cs e.1.name with | some t => (t, 0) | none => (0, 13))
    else match e.2.find? fun a => decide ((typedX cs n (d + 1) a).2 ≠ 0) with
      | some a => (0, (typedX cs n (d + 1) a).2)
      | none => match ruleV e.1 with
        | none => (0, 20)
        | some r => match fitL r.args (e.2.map fun a => (typedX cs n (d + 1) a).1) 0 with
          | (both, true) => if r.out = -1 then (both, 0) else (r.out, 0)
          | (_, false) => (0, 12) : Int × Int) := rfl
theorem find_hit {α : Type} {p : α → Bool} {l : List α} {k : Nat} (h : k < l.length) (hk : p l[k] = true) (hno : ∀ a ∈ l.take k, p a = false) : l.find? p = some l[k] := by
  rw [List.find?_eq_some_iff_getElem]
  refine ⟨hk, k, h, rfl, fun j hj => ?_⟩
  have := hno l[j] (List.mem_take_iff_getElem.2 ⟨j, by omega, rfl⟩)
  simp [this]
theorem find_miss {α : Type} {p : α → Bool} {l : List α} (hno : ∀ a ∈ l, p a = false) : l.find? p = none := by
  rw [List.find?_eq_none]
  intro a ha
  rw [hno a ha]; simp
/-- what typed promises -/
def TypedSaid (n : Nat) : Prop := ∀ (e : TX n) (x : XC) (A : Option Addr) (cap m : Nat) (cs : List CD) (_ : cs.length = m) (d : Nat) (w : World), ExP xcE anyB n w x e → ColsAt w A cs → m ≤ 140737000000000 → sizeX n e ≤ 1000000 → allX (fun q => q.v.text.size ≤ 140737000000000) n e → d ≤ 1000000000 →
    Calls Try.prog 45 #[x.val, .slice A m cap, .int .i64 d] w fun r w' => r = .returned (.tuple #[.int .i64 (typedX cs n d e).1, .int .i64 (typedX cs n d e).2]) ∧ Touch [] w w'

set_option maxRecDepth 20000 in
set_option maxHeartbeats 6400000 in
theorem typed_any (n : Nat) : TypedSaid n := by
  induction n with
  | zero => intro e; exact e.elim
  | succ n ih =>
    intro e x A cap m cs hm d w hx hcs hmb hs hall hd
    subst hm
    have Hst := Lib.hid (typedX_succ cs n d e)
    obtain ⟨nd, args⟩ := e
    obtain ⟨h1, h2, h3⟩ := hx.args
    obtain ⟨ha1, ha2⟩ := hall
    have hsum : sumX n args ≤ 1000000 := by have hs' : 1 + sumX n args ≤ 1000000 := hs; omega
    have hlen := len_le_sum n args
    dsimp only at h1 h2 h3 ha1 ha2
    subst h1
    have Hform := Lib.hid fun w' => form_any x ha1 w'
    have Hrule := Lib.hid fun w' => rule_any x w'
    have Hfind := Lib.hid fun w' (t : Touch [] w w') => findC_any A cap cs.length cs rfl x.nd.name w' (hcs.touch0 t) hmb
    obtain ⟨⟨k, nm, ⟨vk, vn, vt⟩, op⟩, XA, m, c⟩ := x
    dsimp only at h2 h3 ha1
    subst h2
    simp only [XC.val] at Hform Hrule ⊢
    simp only at Hst Hfind
    have t0 := (Touch.refl [] w).alloc (.cells #[.int .i64 k, .string nm, .int .i64 vk, .int .i64 vn, .string vt, .string op, .slice XA args.length c] 33)
    have hb := heap_alloc_new w (.cells #[.int .i64 k, .string nm, .int .i64 vk, .int .i64 vn, .string vt, .string op, .slice XA args.length c] 33)
    have Hb := Lib.hid hb
    obtain ⟨res, hres⟩ : ∃ res, res = typedX cs (n + 1) d ((⟨k, nm, ⟨vk, vn, vt⟩, op⟩, args) : TX (n + 1)) := ⟨_, rfl⟩
    rw [← hres] at Hst ⊢
    clear hb hx hs hres
    by_cases hd32 : 32 < d
    · have Hf := Lib.hid (show res = (0, 52) by rw [Hst.out, if_pos hd32])
      have hdI : (32 : Int) < (d : Int) := by omega
      go_enter Try.func45, Try.ntmps45
      go_wp2_with fail
      go_ret2
      exact ⟨by rw [Hf.out]; rfl, t0⟩
    have hdI : ¬ (32 : Int) < (d : Int) := by omega
    rcases hfo : formV ⟨k, nm, ⟨vk, vn, vt⟩, op⟩ args.length with _ | _
    · have Hf := Lib.hid (show res = (0, 20) by rw [Hst.out, if_neg hd32, if_pos hfo])
      rw [hfo] at Hform
      clear hfo
      go_enter Try.func45, Try.ntmps45
      go_wp2_with fail
      refine (Hform.out _).mono ?_
      rintro e w1 ⟨rfl, t1⟩
      go_wp2_with fail
      go_ret2
      exact ⟨by rw [Hf.out]; rfl, t0.trans0 t1⟩
    rw [hfo] at Hform
    by_cases hk2 : k = 2
    · have Hf := Lib.hid (show res = (vk, 0) by rw [Hst.out, if_neg hd32, if_neg (by rw [hfo]; simp), if_pos hk2])
      subst hk2
      clear hfo
      go_enter Try.func45, Try.ntmps45
      go_wp2_with fail
      refine (Hform.out _).mono ?_
      rintro e w1 ⟨rfl, t1⟩
      have hb1 := t1.blk Hb.out (by simp)
      obtain ⟨c0, c1, c2, c3, c4, c5, c6, _⟩ := blk7 hb1
      go_wp2_with fail
      go_ret2
      exact ⟨by rw [Hf.out]; rfl, t0.trans0 t1⟩
    have q2 : (k == 2) = false := by simpa using hk2
    by_cases hk1 : k = 1
    · rcases hp : placeV cs nm with _ | q
      · have Hf := Lib.hid (show res = (0, 13) by rw [Hst.out, if_neg hd32, if_neg (by rw [hfo]; simp), if_neg hk2, if_pos hk1]; unfold colT; rw [hp])
        rw [hp] at Hfind
        subst hk1
        clear hfo hp hk2
        go_enter Try.func45, Try.ntmps45
        go_wp2_with fail
        refine (Hform.out _).mono ?_
        rintro e w1 ⟨rfl, t1⟩
        have hb1 := t1.blk Hb.out (by simp)
        obtain ⟨c0, c1, c2, c3, c4, c5, c6, _⟩ := blk7 hb1
        go_wp2_with fail
        refine (Hfind.out _ (t0.trans0 t1)).mono ?_
        rintro e w2 ⟨rfl, t2⟩
        go_wp2_with fail
        go_ret2
        exact ⟨by rw [Hf.out]; rfl, (t0.trans0 t1).trans0 t2⟩
      · have hql := placeV_lt hp
        have Hf := Lib.hid (show res = (cs[q].typ, 0) by rw [Hst.out, if_neg hd32, if_neg (by rw [hfo]; simp), if_neg hk2, if_pos hk1]; unfold colT; rw [hp]; simp only; rw [List.getElem?_eq_getElem hql]; rfl)
        rw [hp] at Hfind
        simp only [Option.getD_some, Option.isSome_some] at Hfind
        subst hk1
        clear hfo hp hk2
        go_enter Try.func45, Try.ntmps45
        go_wp2_with fail
        refine (Hform.out _).mono ?_
        rintro e w1 ⟨rfl, t1⟩
        have hb1 := t1.blk Hb.out (by simp)
        obtain ⟨c0, c1, c2, c3, c4, c5, c6, _⟩ := blk7 hb1
        go_wp2_with fail
        refine (Hfind.out _ (t0.trans0 t1)).mono ?_
        rintro e w2 ⟨rfl, t2⟩
        obtain ⟨ad, b, off, rfl, hadd, f0, f1⟩ := (hcs.touch0 ((t0.trans0 t1).trans0 t2)).at_ q hql
        have hqI : (q : Int) < (cs.length : Int) := by omega
        have hqI0 : (0 : Int) ≤ (q : Int) := by omega
        go_wp2_with fail
        go_ret2
        exact ⟨by rw [Hf.out]; rfl, (t0.trans0 t1).trans0 t2⟩
    have q1 : (k == 1) = false := by simpa using hk1
    have hst2 := Hst.out
    rw [if_neg hd32, if_neg (by rw [hfo]; simp), if_neg hk2, if_neg hk1] at hst2
    -- the rule is there
    have hfr : ∃ r, ruleV ⟨k, nm, ⟨vk, vn, vt⟩, op⟩ = some r ∧ args.length = r.args.length := by
      unfold formV at hfo
      rw [if_neg hk1, if_neg hk2, Bool.and_eq_true] at hfo
      rcases hr : ruleV ⟨k, nm, ⟨vk, vn, vt⟩, op⟩ with _ | r
      · rw [hr] at hfo; cases hfo.1
      · rw [hr] at hfo; exact ⟨r, rfl, of_decide_eq_true hfo.1⟩
    obtain ⟨r, hr, hrl⟩ := hfr
    rw [hr] at hst2
    have Hst2 := Lib.hid hst2
    have Hrl := Lib.hid hrl
    have hrp : ∀ e w1, RulePost ⟨k, nm, ⟨vk, vn, vt⟩, op⟩ args.length e w1 → ∃ B c, e = .returned (.tuple #[.agg #[.string r.name, .slice B args.length c, .int .i64 r.out], .bool true]) ∧ IntsAt w1 B r.args := fun e w1 h => by
      unfold RulePost at h
      rw [hr] at h
      obtain ⟨B, c, he, hi⟩ := h
      exact ⟨B, c, by rw [he, decide_eq_true hrl, hrl], hi⟩
    have Hrp := Lib.hid hrp
    have Ih := Lib.hid ih; have Ha2 := Lib.hid ha2
    clear hst2 hrp hr hrl hfo hk1 hk2 Hst ih ha2 ha1
    go_enter Try.func45, Try.ntmps45
    go_wp2_with fail
    refine (Hform.out _).mono ?_
    rintro e w1 ⟨rfl, t1⟩
    have hb1 := t1.blk Hb.out (by simp)
    obtain ⟨c0, c1, c2, c3, c4, c5, c6, _⟩ := blk7 hb1
    have T1 := t0.trans0 t1
    go_wp2_with fail
    clear c0 c1 c2 c3 c4 c5 c6
    have Hb1 := Lib.hid hb1
    clear hb1
    go_loopw [10, 54] (fun v i wr => ∃ (j : Nat) (B : Option Addr) (cB : Nat), j ≤ args.length ∧ i = .int .i64 j ∧ v = .slice B j cB ∧ Made 3 1 inE ((args.take j).map fun a => (typedX cs n (d + 1) a).1) B cB w1 wr ∧ Hid (∀ a ∈ args.take j, decide ((typedX cs n (d + 1) a).2 ≠ 0) = false)) (fun _ i _ => args.length - (intOf i).toNat)
    case atStart => exact ⟨0, none, 0, by omega, rfl, rfl, Made.nil _ _ _ _, Lib.hid (by simp)⟩
    case round =>
      obtain ⟨j, B, cB, hj, rfl, rfl, hmd, Hno⟩ := hrel
      have T2 := T1.trans0 hmd.t
      by_cases hlt : j < args.length
      · obtain ⟨ad, b, off, y, rfl, hadd, hy, hcell⟩ := (h3.touch0 T2).at_ xcE_length j hlt
        have hsn := List.take_succ_eq_append_getElem hlt
        have hms := size_mem (List.getElem_mem hlt)
        have hay := Ha2.out _ (List.getElem_mem hlt)
        have hhit := find_hit (p := fun a => decide ((typedX cs n (d + 1) a).2 ≠ 0)) hlt
        obtain ⟨a, hae⟩ : ∃ a, a = args[j] := ⟨_, rfl⟩
        rw [← hae] at hy hsn hms hay hhit
        have ta := (Touch.refl [] wr).alloc (.cells #[.int .i64 y.nd.kind, .string y.nd.name, .int .i64 y.nd.v.kind, .int .i64 y.nd.v.num, .string y.nd.v.text, .string y.nd.op, .slice y.A y.n y.c] 33)
        have Hc := Lib.hid (Ih.out a y A cap cs.length cs rfl (d + 1) _ (hy.touch0 ta) (hcs.touch0 (T2.trans0 ta)) hmb (by omega) hay (by omega))
        have Htl := Lib.hid (show ((args.take j).map fun a => (typedX cs n (d + 1) a).1).length = j by rw [List.length_map, List.length_take]; omega)
        have c0 := hcell 0 _ rfl; have c1 := hcell 1 _ rfl; have c2 := hcell 2 _ rfl; have c3 := hcell 3 _ rfl; have c4 := hcell 4 _ rfl; have c5 := hcell 5 _ rfl; have c6 := hcell 6 _ rfl
        rw [Nat.add_zero] at c0
        have Hsn := Lib.hid hsn; have Hhit := Lib.hid hhit
        clear hsn hae hcell hms hay hhit
        obtain ⟨⟨k2, nm2, ⟨vk2, vn2, vt2⟩, op2⟩, A2, m2, c2'⟩ := y
        simp only [XC.val] at Hc
        simp only at c0 c1 c2 c3 c4 c5 c6 ta
        obtain ⟨ty, hty⟩ : ∃ ty, ty = (typedX cs n (d + 1) a).1 := ⟨_, rfl⟩
        obtain ⟨er, her⟩ : ∃ er, er = (typedX cs n (d + 1) a).2 := ⟨_, rfl⟩
        rw [← hty, ← her] at Hc
        have Hty := Lib.hid hty; have Her := Lib.hid her
        clear hty her
        by_cases he0 : er = 0
        · have Hno2 := Lib.hid (show ∀ a ∈ args.take (j + 1), decide ((typedX cs n (d + 1) a).2 ≠ 0) = false from fun a' ha' => by
            rw [Hsn.out] at ha'
            rcases List.mem_append.1 ha' with q | q
            · exact Hno.out a' q
            · rw [List.mem_singleton] at q; rw [q, ← Her.out, he0]; rfl)
          subst he0
          go_wp2_with fail
          refine Hc.out.mono ?_
          rintro e w2 ⟨rfl, t2⟩
          have tb := (Touch.refl [] w2).alloc (.cells #[.int .i64 ty] 3)
          have hmd2 := ((hmd.touch0 ta).touch0 t2).touch0 tb
          go_wp2_with (at_builtin; refine stop ?_)
          refine go ?_
          refine wpList_appK rfl (.tmp 69) (.tmp 71) 106 rfl 3 _ 1 8 info_int Try.underlying106 rfl (by omega) inE_length inE_one B j cB _ Htl.out rfl hmd2.own
            (some ⟨w2.heap.size, 0, none⟩) 1 1 [ty] rfl rfl (RdK.one (enc := inE) w2 3 ty #[.int .i64 ty] rfl) (by omega) (by omega) ?_
          intro B5 cB5 w5 hown5 ht5 hf5
          go_wp2
          go_roundw
          case rel => exact ⟨j + 1, B5, cB5, by omega, by go_num, rfl, by rw [Hsn.out, List.map_append]; simp only [List.map_cons, List.map_nil]; rw [← Hty.out]; exact hmd2.step hown5 ht5 hf5, Hno2⟩
          case measure => simp [intOf]; omega
        · have Hf := Lib.hid (show res = (0, er) by rw [Hst2.out, Hhit.out (by rw [← Her.out]; simpa using he0) Hno.out]; simp only; rw [← Her.out])
          have e0 : (er != 0) = true := by simpa using he0
          clear he0
          go_wp2_with fail
          refine Hc.out.mono ?_
          rintro e w2 ⟨rfl, t2⟩
          go_wp2_with fail
          go_ret2
          exact ⟨by rw [Hf.out]; rfl, (T2.trans0 ta).trans0 t2⟩
      · obtain rfl : j = args.length := by omega
        rw [List.take_length] at hmd Hno
        have hst3 := Hst2.out
        rw [find_miss Hno.out] at hst3
        simp only at hst3
        obtain ⟨bo, hbo⟩ : ∃ bo, bo = fitL r.args (args.map fun a => (typedX cs n (d + 1) a).1) 0 := ⟨_, rfl⟩
        rw [← hbo] at hst3
        have Hst3 := Lib.hid hst3
        have Hfit := Lib.hid fun (B0 : Option Addr) (c0 c0' : Nat) w' hi hj => fit_any B0 B c0 c0' args.length r.args (args.map fun a => (typedX cs n (d + 1) a).1) Hrl.out.symm (by rw [List.length_map]) w' hi hj (by omega)
        rw [← hbo] at Hfit
        clear hst3 hbo
        have hb2 := hmd.t.blk Hb1.out (by simp)
        obtain ⟨c0, c1, c2, c3, c4, c5, c6, _⟩ := blk7 hb2
        go_wp2_with fail
        refine (Hrule.out _).mono ?_
        rintro e w2 ⟨hp, t2⟩
        obtain ⟨B0, d0, rfl, hi⟩ := Hrp.out e w2 hp
        clear c0 c1 c2 c3 c4 c5 c6
        have tb := (Touch.refl [] w2).alloc (.cells #[.string r.name, .slice B0 args.length d0, .int .i64 r.out] 114)
        have hbr := heap_alloc_new w2 (.cells #[.string r.name, .slice B0 args.length d0, .int .i64 r.out] 114)
        obtain ⟨z0, z1, z2, _⟩ := blk3 hbr
        obtain ⟨both, ok⟩ := bo
        simp only at Hst3 Hfit
        have T3 := (T2.trans0 t2).trans0 tb
        cases ok
        · go_wp2_with fail
          refine (Hfit.out B0 d0 cB _ (hi.touch0 tb) ((hmd.touch0 t2).touch0 tb).own.rd).mono ?_
          rintro e w' ⟨rfl, rfl⟩
          go_wp2_with fail
          go_ret2
          exact ⟨by rw [Hst3.out]; rfl, T3⟩
        · by_cases ho : r.out = -1
          · have Hf := Lib.hid (show res = (both, 0) by rw [Hst3.out]; simp only; rw [if_pos ho])
            have q3 : (r.out == -1) = true := by simpa using ho
            clear ho
            go_wp2_with fail
            refine (Hfit.out B0 d0 cB _ (hi.touch0 tb) ((hmd.touch0 t2).touch0 tb).own.rd).mono ?_
            rintro e w' ⟨rfl, rfl⟩
            go_wp2_with fail
            go_ret2
            exact ⟨by rw [Hf.out]; rfl, T3⟩
          · have Hf := Lib.hid (show res = (r.out, 0) by rw [Hst3.out]; simp only; rw [if_neg ho])
            have q3 : (r.out == -1) = false := by simpa using ho
            clear ho
            go_wp2_with fail
            refine (Hfit.out B0 d0 cB _ (hi.touch0 tb) ((hmd.touch0 t2).touch0 tb).own.rd).mono ?_
            rintro e w' ⟨rfl, rfl⟩
            go_wp2_with fail
            go_ret2
            exact ⟨by rw [Hf.out]; rfl, T3⟩
end Go.Proofs.Ytlkckkagoommaaa

/- What an expression's value is, as the program reckons it; which shapes a right form has. No walk. -/
namespace Go.Proofs.Ytlkckkagoommaaa
open Go.RowKit

def wAnd : ByteArray := S [97, 110, 100]
def wOr : ByteArray := S [111, 114]
def wEither : ByteArray := S [101, 105, 116, 104, 101, 114]
def wIf : ByteArray := S [105, 102]
def wCat : ByteArray := S [99, 97, 116]
/-- the ways of comparing, by their texts -/
def cmpI (s : ByteArray) : Int := Lib.idxOfS [S [], S [61], S [33, 61], S [60], S [60, 61], S [62], S [62, 61]] s
/-- what is told by the first Arg alone, or which Arg tells it; nothing: all are asked -/
def lazyV (d : ND) (f : VD) : Option (VD ⊕ Nat) :=
  if d.op = wAnd then (if f.tru = true then some (.inr 1) else some (.inl (ofV 0)))
  else if d.op = wOr then (if f.tru = true then some (.inl (ofV 1)) else some (.inr 1))
  else if d.name = wEither then (if f.kind = 0 then some (.inr 1) else some (.inl f))
  else if d.name = wIf then some (.inr (if f.tru = true then 1 else 2))
  else none
def bitIf (k : Int) (r : VD × Int) : VD × Int := if r.2 = 0 ∧ k = 4 then (bitV r.1.tru, 0) else r
def lazyX {α : Type} (ev : α → VD × Int) (d : ND) (args : List α) (f : VD) : Option (VD × Int) :=
  match lazyV d f with
  | none => none
  | some (.inl v) => some (v, 0)
  | some (.inr q) => match args[q]? with
    | none => some (zeroV, 0)
    | some a => some (bitIf d.kind (ev a))
/-- two values, by an operation or a call that asks for both -/
def bothV (d : ND) (f s : VD) : VD × Int :=
  if d.name = wCat then catV f s else if 0 < cmpI d.op then (compareV (cmpI d.op) f s, 0) else arithV ((d.op.data.toList.headD 0).toNat : Int) f s
def evalX (cs : List CD) (row : List VD) : (n : Nat) → TX n → VD × Int
  | 0, _ => (zeroV, 0)
  | n + 1, e =>
    if e.1.kind = 1 then (row.getD ((placeV cs e.1.name).getD 0) zeroV, 0)
    else if e.1.kind = 2 then (e.1.v, 0)
    else match e.2 with
      | [] => (zeroV, 0)
      | a :: r =>
        if (evalX cs row n a).2 ≠ 0 then (zeroV, (evalX cs row n a).2)
        else match lazyX (evalX cs row n) e.1 (a :: r) (evalX cs row n a).1 with
          | some z => z
          | none => match r with
            | [] => aloneV e.1 (evalX cs row n a).1
            | b :: _ => if (evalX cs row n b).2 ≠ 0 then (zeroV, (evalX cs row n b).2) else bothV e.1 (evalX cs row n a).1 (evalX cs row n b).1
theorem evalX_succ (cs : List CD) (row : List VD) (n : Nat) (e : TX (n + 1)) : evalX cs row (n + 1) e =
    if e.1.kind = 1 then (row.getD ((placeV cs e.1.name).getD 0) zeroV, 0)
    else if e.1.kind = 2 then (e.1.v, 0)
    else match e.2 with
      | [] => (zeroV, 0)
      | a :: r =>
        if (evalX cs row n a).2 ≠ 0 then (zeroV, (evalX cs row n a).2)
        else match lazyX (evalX cs row n) e.1 (a :: r) (evalX cs row n a).1 with
          | some z => z
          | none => match r with
            | [] => aloneV e.1 (evalX cs row n a).1
            | b :: _ => if (evalX cs row n b).2 ≠ 0 then (zeroV, (evalX cs row n b).2) else bothV e.1 (evalX cs row n a).1 (evalX cs row n b).1 := rfl
/-- right all the way down -/
def okX (cs : List CD) : (n : Nat) → TX n → Prop
  | 0, _ => True
  | n + 1, e => formV e.1 e.2.length = true ∧ (e.1.kind = 1 → (placeV cs e.1.name).isSome = true) ∧ ∀ a ∈ e.2, okX cs n a
theorem okX_of (cs : List CD) : ∀ (n d : Nat) (e : TX n), (typedX cs n d e).2 = 0 → okX cs n e
  | 0, _, e => e.elim
  | n + 1, d, e => fun h => by
    rw [typedX_succ] at h
    by_cases h1 : 32 < d
    · rw [if_pos h1] at h; cases h
    rw [if_neg h1] at h
    by_cases h2 : formV e.1 e.2.length = false
    · rw [if_pos h2] at h; cases h
    rw [if_neg h2] at h
    have h2' : formV e.1 e.2.length = true := by simpa using h2
    by_cases h3 : e.1.kind = 2
    · refine ⟨h2', fun h4 => by omega, fun a ha => ?_⟩
      unfold formV at h2'
      rw [if_neg (by omega), if_pos h3, Bool.and_eq_true, Bool.and_eq_true, Bool.and_eq_true] at h2'
      have := of_decide_eq_true h2'.2.2.1
      rw [List.eq_nil_of_length_eq_zero this] at ha
      cases ha
    rw [if_neg h3] at h
    by_cases h4 : e.1.kind = 1
    · rw [if_pos h4] at h
      refine ⟨h2', fun _ => ?_, fun a ha => ?_⟩
      · rcases hp : placeV cs e.1.name with _ | q
        · unfold colT at h; rw [hp] at h; cases h
        · rfl
      · unfold formV at h2'
        rw [if_pos h4, Bool.and_eq_true, Bool.and_eq_true] at h2'
        have := of_decide_eq_true h2'.2.1
        rw [List.eq_nil_of_length_eq_zero this] at ha
        cases ha
    rw [if_neg h4] at h
    refine ⟨h2', fun h => absurd h h4, fun a ha => ?_⟩
    rcases hf : e.2.find? (fun a => decide ((typedX cs n (d + 1) a).2 ≠ 0)) with _ | b
    · have := List.find?_eq_none.1 hf a ha
      exact okX_of cs n (d + 1) a (by simpa using this)
    · rw [hf] at h
      have := List.find?_some hf
      simp only [decide_eq_true_eq] at this
      exact absurd h this

/-- a right form that is no column and no constant -/
theorem shape {d : ND} {n : Nat} (h : formV d n = true) (h1 : d.kind ≠ 1) (h2 : d.kind ≠ 2) :
    (d.kind = 3 ∧ n = 1 ∧ d.name = S [] ∧ (d.op = S [45] ∨ d.op = wNot)) ∨
    (d.kind = 4 ∧ n = 2 ∧ d.name = S [] ∧ (d.op = S [43] ∨ d.op = S [45] ∨ d.op = S [42] ∨ d.op = S [47] ∨ d.op = S [37] ∨ d.op = S [61] ∨ d.op = S [33, 61] ∨ d.op = S [60] ∨ d.op = S [60, 61] ∨ d.op = S [62] ∨ d.op = S [62, 61] ∨ d.op = wAnd ∨ d.op = wOr)) ∨
    (d.kind = 5 ∧ d.op = S [] ∧ ((n = 1 ∧ (d.name = wLen ∨ d.name = wAbs ∨ d.name = wIsnull)) ∨ (n = 2 ∧ (d.name = wCat ∨ d.name = wEither)) ∨ (n = 3 ∧ d.name = wIf))) := by
  unfold formV at h
  rw [if_neg h1, if_neg h2, Bool.and_eq_true, Bool.and_eq_true] at h
  obtain ⟨ha, _, hc⟩ := h
  have hr : ∃ r ∈ rulesV d.kind, r.name = keyN d ∧ n = r.args.length := by
    unfold ruleV at ha
    rcases hi : ruleI d with _ | k
    · rw [hi] at ha; cases ha
    · rw [hi] at ha
      unfold ruleI at hi
      rw [List.findIdx?_eq_some_iff_getElem] at hi
      obtain ⟨hk, hp, _⟩ := hi
      simp only at ha
      rw [List.getElem?_eq_getElem hk] at ha
      exact ⟨_, List.getElem_mem hk, of_decide_eq_true hp, of_decide_eq_true ha⟩
  obtain ⟨r, hm, hn, hl⟩ := hr
  unfold rulesV at hm
  unfold keyN at hn
  by_cases k3 : d.kind = 3
  · left
    rw [if_neg (by omega)] at hc hn
    have hc' := of_decide_eq_true hc
    rw [if_pos k3] at hm
    simp only [List.mem_cons, List.not_mem_nil, or_false] at hm
    rcases hm with rfl | rfl
    · exact ⟨k3, hl, hc', .inl hn.symm⟩
    · exact ⟨k3, hl, hc', .inr hn.symm⟩
  rw [if_neg k3] at hm
  by_cases k4 : d.kind = 4
  · right; left
    rw [if_neg (by omega)] at hc hn
    have hc' := of_decide_eq_true hc
    rw [if_pos k4] at hm
    simp only [List.mem_cons, List.not_mem_nil, or_false] at hm
    refine ⟨k4, ?_, hc', ?_⟩
    · rcases hm with rfl | rfl | rfl | rfl | rfl | rfl | rfl | rfl | rfl | rfl | rfl | rfl | rfl <;> exact hl
    · rcases hm with rfl | rfl | rfl | rfl | rfl | rfl | rfl | rfl | rfl | rfl | rfl | rfl | rfl <;> simp only at hn <;> rw [← hn] <;> simp [wAnd, wOr]
  rw [if_neg k4] at hm
  by_cases k5 : d.kind = 5
  · right; right
    rw [if_pos k5] at hc hn
    have hc' := of_decide_eq_true hc
    rw [if_pos k5] at hm
    simp only [List.mem_cons, List.not_mem_nil, or_false] at hm
    refine ⟨k5, hc', ?_⟩
    rcases hm with rfl | rfl | rfl | rfl | rfl | rfl
    · exact .inl ⟨hl, .inl hn.symm⟩
    · exact .inl ⟨hl, .inr (.inl hn.symm)⟩
    · exact .inl ⟨hl, .inr (.inr hn.symm)⟩
    · exact .inr (.inl ⟨hl, .inl hn.symm⟩)
    · exact .inr (.inl ⟨hl, .inr hn.symm⟩)
    · exact .inr (.inr ⟨hl, hn.symm⟩)
  · rw [if_neg k5] at hm; cases hm

/-- texts stay short -/
theorem arith_text (o : Int) (a b : VD) (M : Nat) : (arithV o a b).1.text.size ≤ M := by
  have h0 : (S []).size = 0 := rfl
  unfold arithV
  (repeat' split) <;> simp [zeroV, ofV, h0]
theorem bit_text (b : Bool) (M : Nat) : (bitV b).text.size ≤ M := by
  have h0 : (S []).size = 0 := rfl
  cases b <;> simp [bitV, ofV, h0]
theorem alone_text (d : ND) (v : VD) (M : Nat) (h : v.text.size ≤ M) : (aloneV d v).1.text.size ≤ M := by
  unfold aloneV
  split
  · exact bit_text _ _
  · split
    · exact bit_text _ _
    · split
      · exact h
      · split
        · exact Nat.zero_le _
        · split
          · exact h
          · exact arith_text _ _ _ _
theorem both_text (d : ND) (f s : VD) (M : Nat) (hM : 64 ≤ M) : (bothV d f s).1.text.size ≤ M := by
  have h0 : (S []).size = 0 := rfl
  unfold bothV
  split
  · unfold catV
    split
    · exact Nat.zero_le _
    · split
      · exact Nat.zero_le _
      · show (f.text ++ s.text).size ≤ M
        rw [ByteArray.size_append]; omega
  · split
    · unfold compareV
      split
      · exact Nat.zero_le _
      · exact bit_text _ _
    · exact arith_text _ _ _ _
theorem eval_text (cs : List CD) (row : List VD) (M : Nat) (hM : 64 ≤ M) (hr : ∀ v ∈ row, v.text.size ≤ M) : ∀ (n : Nat) (e : TX n), allX (fun q => q.v.text.size ≤ M) n e → (evalX cs row n e).1.text.size ≤ M
  | 0, e => e.elim
  | n + 1, e => fun ha => by
    obtain ⟨h1, h2⟩ := ha
    rw [evalX_succ]
    generalize e.1 = d at h1 h2 ⊢
    generalize e.2 = args at h1 h2 ⊢
    split
    · simp only
      rw [List.getD_eq_getElem?_getD]
      rcases hg : row[(placeV cs d.name).getD 0]? with _ | v
      · exact Nat.zero_le _
      · exact hr v (List.mem_of_getElem? hg)
    · split
      · exact h1
      · cases args with
        | nil => exact Nat.zero_le _
        | cons a r =>
          have e1 := eval_text cs row M hM hr n a (h2 a List.mem_cons_self)
          simp only
          split
          · exact Nat.zero_le _
          · rcases hl : lazyX (evalX cs row n) d (a :: r) (evalX cs row n a).1 with _ | z
            · simp only
              cases r with
              | nil => exact alone_text _ _ _ e1
              | cons b r =>
                simp only
                split
                · exact Nat.zero_le _
                · exact both_text _ _ _ _ hM
            · simp only
              unfold lazyX at hl
              rcases hv : lazyV d (evalX cs row n a).1 with _ | v
              · rw [hv] at hl; cases hl
              · rw [hv] at hl
                cases v with
                | inl v =>
                  cases hl
                  unfold lazyV at hv
                  (repeat' split at hv) <;> simp at hv <;> subst hv <;> first | exact e1 | exact Nat.zero_le _
                | inr q =>
                  simp only at hl
                  rcases hq : (a :: r)[q]? with _ | x
                  · rw [hq] at hl; cases hl; exact Nat.zero_le _
                  · rw [hq] at hl
                    cases hl
                    have := eval_text cs row M hM hr n x (h2 x (List.mem_of_getElem? hq))
                    unfold bitIf
                    split
                    · exact bit_text _ _
                    · exact this
end Go.Proofs.Ytlkckkagoommaaa
