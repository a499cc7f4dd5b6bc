/- Part 19 of the texts of this proof, one behind the other; each begins with its own sentence. No condition beyond those that its theorems state. -/
import Derived.Test.YtafoklilkdnepaaGreatDoorRu18
/- expr.Expr.form: is an expression's form right? For every expression. -/
namespace Go.Proofs.YtafoklilkdnepaaGreatDoor
open Go.RowKit

theorem isEmpty_S (s : ByteArray) : s.toList.isEmpty = decide (s = S []) := by
 rw [Bool.eq_iff_iff, toList_B, List.isEmpty_iff, decide_eq_true_eq]
 exact ⟨fun h => bs_eq (by rw [h]; rfl), fun h => by rw [h]; rfl⟩
theorem isNull_eq (v : VD) : isNull v = eqV3 v zeroV := rfl
theorem nat0 (m : Nat) : ((m : Int) == 0) = decide (m = 0) := by rw [Bool.eq_iff_iff]; simp

set_option maxRecDepth 100000 in
set_option maxHeartbeats 6400000 in
theorem form_any (x : XC) (hv : x.nd.v.text.size ≤ 140737000000000) (w : World) :
  Calls Tryz.prog 144 #[x.val] w fun e w' => e = .returned (.bool (formV x.nd x.n)) ∧ Touch [] w w' := by
 have hrule := fun w' => rule_any x w'
 obtain ⟨⟨k, nm, ⟨vk, vn, vt⟩, op⟩, A, m, c⟩ := x
 dsimp only at hv
 dsimp only [XC.val] at hrule ⊢
 have Hrule := Lib.hid hrule
 have Hnull := Lib.hid fun w' => vnull_any w'
 have Hright := Lib.hid fun w' => right_any ⟨vk, vn, vt⟩ hv w'
 simp only [VD.val, zeroV] at Hnull Hright
 have heq := eqIn_valX ⟨vk, vn, vt⟩ zeroV
 have hnu := isNull_eq ⟨vk, vn, vt⟩
 rw [← hnu] at heq
 simp only [zeroV] at heq
 have hgd := guard_valX
 have hop := isEmpty_S op
 have hnm := isEmpty_S nm
 have hm0 := nat0 m
 obtain ⟨W, hW⟩ : ∃ W, W = w.alloc (.cells #[.int .i64 k, .string nm, .int .i64 vk, .int .i64 vn, .string vt, .string op, .slice A m c] 44) := ⟨_, rfl⟩
 have tb := (Touch.refl [] w).alloc (.cells #[.int .i64 k, .string nm, .int .i64 vk, .int .i64 vn, .string vt, .string op, .slice A m c] 44)
 have hb := heap_alloc_new w (.cells #[.int .i64 k, .string nm, .int .i64 vk, .int .i64 vn, .string vt, .string op, .slice A m c] 44)
 have hsz := World.size_alloc w (.cells #[.int .i64 k, .string nm, .int .i64 vk, .int .i64 vn, .string vt, .string op, .slice A m c] 44)
 rw [← hW] at tb hb hsz
 have HW := Lib.hid hW
 obtain ⟨c0, c1, c2, c3, c4, c5, c6, _⟩ := blk7 hb
 have Hb := Lib.hid hb
 have Hsz := Lib.hid hsz
 clear hrule hW hb hnu hsz
 by_cases h1 : k = 1
 ·have Hf := Lib.hid (show formV ⟨k, nm, ⟨vk, vn, vt⟩, op⟩ m = (decide (op = S []) && (decide (m = 0) && isNull ⟨vk, vn, vt⟩)) by unfold formV; rw [if_pos h1])
  subst h1
  have g0 := TW.cell c0; have g1 := TW.cell c1; have g2 := TW.cell c2; have g3 := TW.cell c3; have g4 := TW.cell c4; have g5 := TW.cell c5; have g6 := TW.cell c6
  clear c0 c1 c2 c3 c4 c5 c6
  rcases ho : decide (op = S []) with _ | _
  ·rw [ho] at hop
   have Ho := Lib.hid ho
   clear ho
   go_enter Tryz.func144, Tryz.ntmps144
   go_wp2
   rw [← HW.out]
   refine wp_region_tw W (Touch.refl _ _) (by kernel_rfl) (by kernel_rfl) ?_
   repeat (go_big_quiet_step (((go_at_call 173; exact Calls.tw _ (Hnull.out _)))))
   refine wpQuiet_nil ?_
   rintro _ ⟨y, rfl⟩
   go_wp2
   go_ret
   exact ⟨ret_bool (by rw [Hf.out, Ho.out, Bool.false_and]), tb.trans0 y.t⟩
  rw [ho] at hop
  have Ho := Lib.hid ho
  clear ho
  rcases hz : decide (m = 0) with _ | _
  ·rw [hz] at hm0
   have Hz := Lib.hid hz
   clear hz
   go_enter Tryz.func144, Tryz.ntmps144
   go_wp2
   rw [← HW.out]
   refine wp_region_tw W (Touch.refl _ _) (by kernel_rfl) (by kernel_rfl) ?_
   repeat (go_big_quiet_step (((go_at_call 173; exact Calls.tw _ (Hnull.out _)))))
   refine wpQuiet_nil ?_
   rintro _ ⟨y, rfl⟩
   go_wp2
   go_ret
   exact ⟨ret_bool (by rw [Hf.out, Ho.out, Hz.out, Bool.false_and, Bool.and_false]), tb.trans0 y.t⟩
  ·rw [hz] at hm0
   have Hz := Lib.hid hz
   clear hz
   go_enter Tryz.func144, Tryz.ntmps144
   go_wp2
   rw [← HW.out]
   refine wp_region_tw W (Touch.refl _ _) (by kernel_rfl) (by kernel_rfl) ?_
   repeat (go_big_quiet_step (((go_at_call 173; exact Calls.tw _ (Hnull.out _)))))
   refine wpQuiet_nil ?_
   rintro _ ⟨y, rfl⟩
   go_wp2
   go_ret
   exact ⟨ret_bool (by rw [Hf.out, Ho.out, Hz.out, Bool.true_and, Bool.true_and]), tb.trans0 y.t⟩
 by_cases h2 : k = 2
 ·have Hf := Lib.hid (show formV ⟨k, nm, ⟨vk, vn, vt⟩, op⟩ m = (decide (nm = S []) && (decide (op = S []) && (decide (m = 0) && VD.right ⟨vk, vn, vt⟩))) by unfold formV; rw [if_neg h1, if_pos h2])
  subst h2
  clear h1
  rcases ho : decide (nm = S []) with _ | _
  ·rw [ho] at hnm
   have Ho := Lib.hid ho
   clear ho
   go_enter Tryz.func144, Tryz.ntmps144
   go_wp2_with fail
   rw [← HW.out]
   go_ret
   exact ⟨ret_bool (by rw [Hf.out, Ho.out, Bool.false_and]), tb⟩
  rw [ho] at hnm
  have Ho := Lib.hid ho
  clear ho
  rcases hp : decide (op = S []) with _ | _
  ·rw [hp] at hop
   have Hp := Lib.hid hp
   clear hp
   go_enter Tryz.func144, Tryz.ntmps144
   go_wp2_with fail
   rw [← HW.out]
   go_ret
   exact ⟨ret_bool (by rw [Hf.out, Ho.out, Hp.out, Bool.false_and, Bool.and_false]), tb⟩
  rw [hp] at hop
  have Hp := Lib.hid hp
  clear hp
  rcases hz : decide (m = 0) with _ | _
  ·rw [hz] at hm0
   have Hz := Lib.hid hz
   clear hz
   go_enter Tryz.func144, Tryz.ntmps144
   go_wp2_with fail
   rw [← HW.out]
   go_ret
   exact ⟨ret_bool (by rw [Hf.out, Ho.out, Hp.out, Hz.out, Bool.false_and, Bool.and_false, Bool.and_false]), tb⟩
  ·rw [hz] at hm0
   have Hz := Lib.hid hz
   clear hz
   go_enter Tryz.func144, Tryz.ntmps144
   go_wp2_with fail
   rw [← HW.out]
   refine (Hright.out _).mono ?_
   rintro e w1 ⟨rfl, t1⟩
   go_wp2_with fail
   go_ret
   exact ⟨ret_bool (by rw [Hf.out, Ho.out, Hp.out, Hz.out, Bool.true_and, Bool.true_and, Bool.true_and]), tb.trans0 t1⟩
 have hf : formV ⟨k, nm, ⟨vk, vn, vt⟩, op⟩ m = ((match ruleV ⟨k, nm, ⟨vk, vn, vt⟩, op⟩ with | some r => decide (m = r.args.length) | none => false) && (isNull ⟨vk, vn, vt⟩ && (if k = 5 then decide (op = S []) else decide (nm = S [])))) := by
  unfold formV; rw [if_neg h1, if_neg h2]; rfl
 have q1 : (k == 1) = false := by simpa using h1
 have q2 : (k == 2) = false := by simpa using h2
 clear h1 h2 Hright
 have hpost : ∀ e w1, RulePost ⟨k, nm, ⟨vk, vn, vt⟩, op⟩ m e w1 → ∃ s0 B0 n0 d0 z0 bo, e = .returned (.tuple #[.agg #[.string s0, .slice B0 n0 d0, .int .i64 z0], .bool bo]) ∧ bo = (match ruleV ⟨k, nm, ⟨vk, vn, vt⟩, op⟩ with | some r => decide (m = r.args.length) | none => false) := fun e w1 hp => by
  unfold RulePost at hp
  split at hp
  ·rename_i hv0; exact ⟨_, _, _, _, _, _, hp, by rw [hv0]⟩
  ·rename_i r hv0; obtain ⟨B, c', he, _⟩ := hp; exact ⟨_, _, _, _, _, _, he, by rw [hv0]⟩
 have Hpost := Lib.hid hpost
 have Hf := Lib.hid hf
 clear hpost hf
 rcases hu : isNull ⟨vk, vn, vt⟩ with _ | _
 ·rw [hu] at heq Hf
  clear hu
  go_enter Tryz.func144, Tryz.ntmps144
  go_wp2_with fail
  rw [← HW.out]
  refine (Hrule.out _).mono ?_
  rintro e w1 ⟨hp, t1⟩
  obtain ⟨s0, B0, n0, d0, z0, bo, rfl, hbo⟩ := Hpost.out e w1 hp
  have Hbo := Lib.hid hbo
  clear hp hbo
  have g0 := TW.cell ((t1.alloc (.cells #[.string s0, .slice B0 n0 d0, .int .i64 z0] 202)).cell c0 (by simp))
  have g1 := TW.cell ((t1.alloc (.cells #[.string s0, .slice B0 n0 d0, .int .i64 z0] 202)).cell c1 (by simp))
  have g2 := TW.cell ((t1.alloc (.cells #[.string s0, .slice B0 n0 d0, .int .i64 z0] 202)).cell c2 (by simp))
  have g3 := TW.cell ((t1.alloc (.cells #[.string s0, .slice B0 n0 d0, .int .i64 z0] 202)).cell c3 (by simp))
  have g4 := TW.cell ((t1.alloc (.cells #[.string s0, .slice B0 n0 d0, .int .i64 z0] 202)).cell c4 (by simp))
  have g5 := TW.cell ((t1.alloc (.cells #[.string s0, .slice B0 n0 d0, .int .i64 z0] 202)).cell c5 (by simp))
  have g6 := TW.cell ((t1.alloc (.cells #[.string s0, .slice B0 n0 d0, .int .i64 z0] 202)).cell c6 (by simp))
  have T1 := tb.trans0 (t1.alloc (.cells #[.string s0, .slice B0 n0 d0, .int .i64 z0] 202))
  clear c0 c1 c2 c3 c4 c5 c6
  cases bo
  ·go_wp2
   refine wp_region_tw (w1.alloc (.cells #[.string s0, .slice B0 n0 d0, .int .i64 z0] 202)) (Touch.refl _ _) (by kernel_rfl) (by kernel_rfl) ?_
   repeat (go_big_quiet_step (((go_at_call 173; exact Calls.tw _ (Hnull.out _)))))
   refine wpQuiet_nil ?_
   rintro _ ⟨y, rfl⟩
   go_wp2
   go_ret
   exact ⟨ret_bool (by rw [Hf.out, ← Hbo.out, Bool.false_and]), T1.trans0 y.t⟩
  ·go_wp2
   refine wp_region_tw (w1.alloc (.cells #[.string s0, .slice B0 n0 d0, .int .i64 z0] 202)) (Touch.refl _ _) (by kernel_rfl) (by kernel_rfl) ?_
   repeat (go_big_quiet_step (((go_at_call 173; exact Calls.tw _ (Hnull.out _)))))
   refine wpQuiet_nil ?_
   rintro _ ⟨y, rfl⟩
   go_wp2
   go_ret
   exact ⟨ret_bool (by rw [Hf.out, ← Hbo.out, Bool.true_and, Bool.false_and]), T1.trans0 y.t⟩
 rw [hu] at heq Hf
 clear hu
 by_cases h5 : k = 5
 ·have q5 : (k == 5) = true := by simpa using h5
  have q5' : (k != 5) = false := by simpa using h5
  rw [if_pos h5] at Hf
  clear h5
  rcases ho : decide (op = S []) with _ | _
  ·rw [ho] at hop Hf
   clear ho
   go_enter Tryz.func144, Tryz.ntmps144
   go_wp2_with fail
   rw [← HW.out]
   refine (Hrule.out _).mono ?_
   rintro e w1 ⟨hp, t1⟩
   obtain ⟨s0, B0, n0, d0, z0, bo, rfl, hbo⟩ := Hpost.out e w1 hp
   have Hbo := Lib.hid hbo
   clear hp hbo
   have g0 := TW.cell ((t1.alloc (.cells #[.string s0, .slice B0 n0 d0, .int .i64 z0] 202)).cell c0 (by simp))
   have g1 := TW.cell ((t1.alloc (.cells #[.string s0, .slice B0 n0 d0, .int .i64 z0] 202)).cell c1 (by simp))
   have g2 := TW.cell ((t1.alloc (.cells #[.string s0, .slice B0 n0 d0, .int .i64 z0] 202)).cell c2 (by simp))
   have g3 := TW.cell ((t1.alloc (.cells #[.string s0, .slice B0 n0 d0, .int .i64 z0] 202)).cell c3 (by simp))
   have g4 := TW.cell ((t1.alloc (.cells #[.string s0, .slice B0 n0 d0, .int .i64 z0] 202)).cell c4 (by simp))
   have g5 := TW.cell ((t1.alloc (.cells #[.string s0, .slice B0 n0 d0, .int .i64 z0] 202)).cell c5 (by simp))
   have g6 := TW.cell ((t1.alloc (.cells #[.string s0, .slice B0 n0 d0, .int .i64 z0] 202)).cell c6 (by simp))
   have T1 := tb.trans0 (t1.alloc (.cells #[.string s0, .slice B0 n0 d0, .int .i64 z0] 202))
   clear c0 c1 c2 c3 c4 c5 c6
   cases bo
   ·go_wp2
    refine wp_region_tw (w1.alloc (.cells #[.string s0, .slice B0 n0 d0, .int .i64 z0] 202)) (Touch.refl _ _) (by kernel_rfl) (by kernel_rfl) ?_
    repeat (go_big_quiet_step (((go_at_call 173; exact Calls.tw _ (Hnull.out _)))))
    refine wpQuiet_nil ?_
    rintro _ ⟨y, rfl⟩
    go_wp2
    go_ret
    exact ⟨ret_bool (by rw [Hf.out, ← Hbo.out, Bool.false_and]), T1.trans0 y.t⟩
   ·go_wp2
    refine wp_region_tw (w1.alloc (.cells #[.string s0, .slice B0 n0 d0, .int .i64 z0] 202)) (Touch.refl _ _) (by kernel_rfl) (by kernel_rfl) ?_
    repeat (go_big_quiet_step (((go_at_call 173; exact Calls.tw _ (Hnull.out _)))))
    refine wpQuiet_nil ?_
    rintro _ ⟨y, rfl⟩
    go_wp2
    go_ret
    exact ⟨ret_bool (by rw [Hf.out, ← Hbo.out, Bool.true_and, Bool.true_and]), T1.trans0 y.t⟩
  ·rw [ho] at hop Hf
   clear ho
   go_enter Tryz.func144, Tryz.ntmps144
   go_wp2_with fail
   rw [← HW.out]
   refine (Hrule.out _).mono ?_
   rintro e w1 ⟨hp, t1⟩
   obtain ⟨s0, B0, n0, d0, z0, bo, rfl, hbo⟩ := Hpost.out e w1 hp
   have Hbo := Lib.hid hbo
   clear hp hbo
   have g0 := TW.cell ((t1.alloc (.cells #[.string s0, .slice B0 n0 d0, .int .i64 z0] 202)).cell c0 (by simp))
   have g1 := TW.cell ((t1.alloc (.cells #[.string s0, .slice B0 n0 d0, .int .i64 z0] 202)).cell c1 (by simp))
   have g2 := TW.cell ((t1.alloc (.cells #[.string s0, .slice B0 n0 d0, .int .i64 z0] 202)).cell c2 (by simp))
   have g3 := TW.cell ((t1.alloc (.cells #[.string s0, .slice B0 n0 d0, .int .i64 z0] 202)).cell c3 (by simp))
   have g4 := TW.cell ((t1.alloc (.cells #[.string s0, .slice B0 n0 d0, .int .i64 z0] 202)).cell c4 (by simp))
   have g5 := TW.cell ((t1.alloc (.cells #[.string s0, .slice B0 n0 d0, .int .i64 z0] 202)).cell c5 (by simp))
   have g6 := TW.cell ((t1.alloc (.cells #[.string s0, .slice B0 n0 d0, .int .i64 z0] 202)).cell c6 (by simp))
   have T1 := tb.trans0 (t1.alloc (.cells #[.string s0, .slice B0 n0 d0, .int .i64 z0] 202))
   clear c0 c1 c2 c3 c4 c5 c6
   cases bo
   ·go_wp2
    refine wp_region_tw (w1.alloc (.cells #[.string s0, .slice B0 n0 d0, .int .i64 z0] 202)) (Touch.refl _ _) (by kernel_rfl) (by kernel_rfl) ?_
    repeat (go_big_quiet_step (((go_at_call 173; exact Calls.tw _ (Hnull.out _)))))
    refine wpQuiet_nil ?_
    rintro _ ⟨y, rfl⟩
    go_wp2
    go_ret
    exact ⟨ret_bool (by rw [Hf.out, ← Hbo.out, Bool.false_and]), T1.trans0 y.t⟩
   ·go_wp2
    refine wp_region_tw (w1.alloc (.cells #[.string s0, .slice B0 n0 d0, .int .i64 z0] 202)) (Touch.refl _ _) (by kernel_rfl) (by kernel_rfl) ?_
    repeat (go_big_quiet_step (((go_at_call 173; exact Calls.tw _ (Hnull.out _)))))
    refine wpQuiet_nil ?_
    rintro _ ⟨y, rfl⟩
    go_wp2
    go_ret
    exact ⟨ret_bool (by rw [Hf.out, ← Hbo.out, Bool.true_and, Bool.true_and]), T1.trans0 y.t⟩
 ·have q5 : (k == 5) = false := by simpa using h5
  have q5' : (k != 5) = true := by simpa using h5
  rw [if_neg h5] at Hf
  clear h5
  rcases ho : decide (nm = S []) with _ | _
  ·rw [ho] at hnm Hf
   clear ho
   go_enter Tryz.func144, Tryz.ntmps144
   go_wp2_with fail
   rw [← HW.out]
   refine (Hrule.out _).mono ?_
   rintro e w1 ⟨hp, t1⟩
   obtain ⟨s0, B0, n0, d0, z0, bo, rfl, hbo⟩ := Hpost.out e w1 hp
   have Hbo := Lib.hid hbo
   clear hp hbo
   have g0 := TW.cell ((t1.alloc (.cells #[.string s0, .slice B0 n0 d0, .int .i64 z0] 202)).cell c0 (by simp))
   have g1 := TW.cell ((t1.alloc (.cells #[.string s0, .slice B0 n0 d0, .int .i64 z0] 202)).cell c1 (by simp))
   have g2 := TW.cell ((t1.alloc (.cells #[.string s0, .slice B0 n0 d0, .int .i64 z0] 202)).cell c2 (by simp))
   have g3 := TW.cell ((t1.alloc (.cells #[.string s0, .slice B0 n0 d0, .int .i64 z0] 202)).cell c3 (by simp))
   have g4 := TW.cell ((t1.alloc (.cells #[.string s0, .slice B0 n0 d0, .int .i64 z0] 202)).cell c4 (by simp))
   have g5 := TW.cell ((t1.alloc (.cells #[.string s0, .slice B0 n0 d0, .int .i64 z0] 202)).cell c5 (by simp))
   have g6 := TW.cell ((t1.alloc (.cells #[.string s0, .slice B0 n0 d0, .int .i64 z0] 202)).cell c6 (by simp))
   have T1 := tb.trans0 (t1.alloc (.cells #[.string s0, .slice B0 n0 d0, .int .i64 z0] 202))
   clear c0 c1 c2 c3 c4 c5 c6
   cases bo
   ·go_wp2
    refine wp_region_tw (w1.alloc (.cells #[.string s0, .slice B0 n0 d0, .int .i64 z0] 202)) (Touch.refl _ _) (by kernel_rfl) (by kernel_rfl) ?_
    repeat (go_big_quiet_step (((go_at_call 173; exact Calls.tw _ (Hnull.out _)))))
    refine wpQuiet_nil ?_
    rintro _ ⟨y, rfl⟩
    go_wp2
    go_ret
    exact ⟨ret_bool (by rw [Hf.out, ← Hbo.out, Bool.false_and]), T1.trans0 y.t⟩
   ·go_wp2
    refine wp_region_tw (w1.alloc (.cells #[.string s0, .slice B0 n0 d0, .int .i64 z0] 202)) (Touch.refl _ _) (by kernel_rfl) (by kernel_rfl) ?_
    repeat (go_big_quiet_step (((go_at_call 173; exact Calls.tw _ (Hnull.out _)))))
    refine wpQuiet_nil ?_
    rintro _ ⟨y, rfl⟩
    go_wp2
    go_ret
    exact ⟨ret_bool (by rw [Hf.out, ← Hbo.out, Bool.true_and, Bool.true_and]), T1.trans0 y.t⟩
  ·rw [ho] at hnm Hf
   clear ho
   go_enter Tryz.func144, Tryz.ntmps144
   go_wp2_with fail
   rw [← HW.out]
   refine (Hrule.out _).mono ?_
   rintro e w1 ⟨hp, t1⟩
   obtain ⟨s0, B0, n0, d0, z0, bo, rfl, hbo⟩ := Hpost.out e w1 hp
   have Hbo := Lib.hid hbo
   clear hp hbo
   have g0 := TW.cell ((t1.alloc (.cells #[.string s0, .slice B0 n0 d0, .int .i64 z0] 202)).cell c0 (by simp))
   have g1 := TW.cell ((t1.alloc (.cells #[.string s0, .slice B0 n0 d0, .int .i64 z0] 202)).cell c1 (by simp))
   have g2 := TW.cell ((t1.alloc (.cells #[.string s0, .slice B0 n0 d0, .int .i64 z0] 202)).cell c2 (by simp))
   have g3 := TW.cell ((t1.alloc (.cells #[.string s0, .slice B0 n0 d0, .int .i64 z0] 202)).cell c3 (by simp))
   have g4 := TW.cell ((t1.alloc (.cells #[.string s0, .slice B0 n0 d0, .int .i64 z0] 202)).cell c4 (by simp))
   have g5 := TW.cell ((t1.alloc (.cells #[.string s0, .slice B0 n0 d0, .int .i64 z0] 202)).cell c5 (by simp))
   have g6 := TW.cell ((t1.alloc (.cells #[.string s0, .slice B0 n0 d0, .int .i64 z0] 202)).cell c6 (by simp))
   have T1 := tb.trans0 (t1.alloc (.cells #[.string s0, .slice B0 n0 d0, .int .i64 z0] 202))
   clear c0 c1 c2 c3 c4 c5 c6
   cases bo
   ·go_wp2
    refine wp_region_tw (w1.alloc (.cells #[.string s0, .slice B0 n0 d0, .int .i64 z0] 202)) (Touch.refl _ _) (by kernel_rfl) (by kernel_rfl) ?_
    repeat (go_big_quiet_step (((go_at_call 173; exact Calls.tw _ (Hnull.out _)))))
    refine wpQuiet_nil ?_
    rintro _ ⟨y, rfl⟩
    go_wp2
    go_ret
    exact ⟨ret_bool (by rw [Hf.out, ← Hbo.out, Bool.false_and]), T1.trans0 y.t⟩
   ·go_wp2
    refine wp_region_tw (w1.alloc (.cells #[.string s0, .slice B0 n0 d0, .int .i64 z0] 202)) (Touch.refl _ _) (by kernel_rfl) (by kernel_rfl) ?_
    repeat (go_big_quiet_step (((go_at_call 173; exact Calls.tw _ (Hnull.out _)))))
    refine wpQuiet_nil ?_
    rintro _ ⟨y, rfl⟩
    go_wp2
    go_ret
    exact ⟨ret_bool (by rw [Hf.out, ← Hbo.out, Bool.true_and, Bool.true_and]), T1.trans0 y.t⟩
end Go.Proofs.YtafoklilkdnepaaGreatDoor

/- expr.fit: do types fit a rule? For all lists of types of one length. -/
namespace Go.Proofs.YtafoklilkdnepaaGreatDoor
open Go.RowKit

theorem fitL_drop (ws ts : List Int) (both : Int) (k : Nat) (h1 : k < ws.length) (h2 : k < ts.length) :
  fitL (ws.drop k) (ts.drop k) both = (if ts[k] = 0 ∨ ws[k] = 0 then fitL (ws.drop (k + 1)) (ts.drop (k + 1)) both
   else if ws[k] ≠ -1 ∧ ws[k] ≠ ts[k] ∨ ws[k] = -1 ∧ both ≠ 0 ∧ both ≠ ts[k] then (0, false)
   else if ws[k] = -1 then fitL (ws.drop (k + 1)) (ts.drop (k + 1)) ts[k] else fitL (ws.drop (k + 1)) (ts.drop (k + 1)) both) := by
 rw [List.drop_eq_getElem_cons h1, List.drop_eq_getElem_cons h2]; rfl

set_option maxRecDepth 20000 in
set_option maxHeartbeats 1600000 in
theorem fitX_any (A B : Option Addr) (c1 c2 n : Nat) (ws ts : List Int) (hn : ws.length = n) (hm : ts.length = n) (w : World) (h : IntsAt w A ws) (h2 : IntsAt w B ts) (hl : n ≤ 140737000000000) :
  Calls Tryz.prog 146 #[.slice A n c1, .slice B n c2] w fun e w' => e = .returned (.tuple #[.int .i64 (fitL ws ts 0).1, .bool (fitL ws ts 0).2]) ∧ w' = w := by
 go_enter Tryz.func146, Tryz.ntmps146
 have Hn := Lib.hid hn; have Hm := Lib.hid hm
 clear hn hm
 go_wp2
 go_loop [6, 11] (fun b i => ∃ (k : Nat) (both : Int), k ≤ n ∧ i = .int .i64 k ∧ b = .int .i64 both ∧ Hid (fitL ws ts 0 = fitL (ws.drop k) (ts.drop k) both)) (fun _ i => n - (intOf i).toNat)
 case atStart => exact ⟨0, 0, by omega, rfl, rfl, Lib.hid rfl⟩
 case round =>
  obtain ⟨k, both, hk, rfl, rfl, He⟩ := hrel
  by_cases hlt : k < n
  ·have hl1 : k < ws.length := by have := Hn.out; omega
   have hl2 : k < ts.length := by have := Hm.out; omega
   obtain ⟨ad, rfl, hc1⟩ := h.at_ k hl1
   obtain ⟨bd, rfl, hc2⟩ := h2.at_ k hl2
   have hst := fitL_drop ws ts both k hl1 hl2
   rw [← He.out] at hst
   obtain ⟨t, ht⟩ : ∃ t, t = ts[k] := ⟨_, rfl⟩
   obtain ⟨v, hv⟩ : ∃ v, v = ws[k] := ⟨_, rfl⟩
   rw [← ht] at hst hc2
   rw [← hv] at hst hc1
   have hkI : (k : Int) < (n : Int) := by omega
   clear ht hv He
   by_cases e1 : t = 0
   ·have Hs := Lib.hid (show fitL ws ts 0 = fitL (ws.drop (k + 1)) (ts.drop (k + 1)) both by rw [hst, if_pos (.inl e1)])
    subst e1
    clear hst
    go_wp2
    go_round
    case rel => exact ⟨k + 1, both, by omega, by go_num, rfl, Hs⟩
    case measure => simp [intOf]; omega
   have b1 : (t == 0) = false := by simpa using e1
   by_cases e2 : v = 0
   ·have Hs := Lib.hid (show fitL ws ts 0 = fitL (ws.drop (k + 1)) (ts.drop (k + 1)) both by rw [hst, if_pos (.inr e2)])
    subst e2
    clear hst e1
    go_wp2
    go_round
    case rel => exact ⟨k + 1, both, by omega, by go_num, rfl, Hs⟩
    case measure => simp [intOf]; omega
   have b2 : (v == 0) = false := by simpa using e2
   rw [if_neg (by rintro (h | h); exact e1 h; exact e2 h)] at hst
   by_cases e3 : v = -1
   ·subst e3
    by_cases e4 : both = 0
    ·have Hs := Lib.hid (show fitL ws ts 0 = fitL (ws.drop (k + 1)) (ts.drop (k + 1)) t by rw [hst, if_neg (by simp [e4]), if_pos rfl])
     subst e4
     clear hst e1 e2
     go_wp2
     go_round
     case rel => exact ⟨k + 1, t, by omega, by go_num, rfl, Hs⟩
     case measure => simp [intOf]; omega
    have b4 : (both != 0) = true := by simpa using e4
    by_cases e5 : both = t
    ·have Hs := Lib.hid (show fitL ws ts 0 = fitL (ws.drop (k + 1)) (ts.drop (k + 1)) t by rw [hst, if_neg (by simp [e5]), if_pos rfl])
     subst e5
     clear hst e1 e2 e4
     go_wp2
     go_round
     case rel => exact ⟨k + 1, _, by omega, by go_num, rfl, Hs⟩
     case measure => simp [intOf]; omega
    ·have b5 : (both != t) = true := by simpa using e5
     have Hs := Lib.hid (show fitL ws ts 0 = (0, false) by rw [hst, if_pos (.inr ⟨rfl, e4, e5⟩)])
     clear hst e1 e2 e4 e5
     go_wp2
     go_ret2
     exact ⟨by rw [Hs.out]; rfl, rfl⟩
   have b3 : (v == -1) = false := by simpa using e3
   have b3' : (v != -1) = true := by simpa using e3
   by_cases e6 : v = t
   ·have Hs := Lib.hid (show fitL ws ts 0 = fitL (ws.drop (k + 1)) (ts.drop (k + 1)) both by rw [hst, if_neg (by simp [e6]; intro h; exact absurd (e6.trans h) e3), if_neg e3])
    subst e6
    clear hst e1 e2 e3
    go_wp2
    go_round
    case rel => exact ⟨k + 1, both, by omega, by go_num, rfl, Hs⟩
    case measure => simp [intOf]; omega
   ·have b6 : (v != t) = true := by simpa using e6
    have Hs := Lib.hid (show fitL ws ts 0 = (0, false) by rw [hst, if_pos (.inl ⟨e3, e6⟩)])
    clear hst e1 e2 e3 e6
    go_wp2
    go_ret2
    exact ⟨by rw [Hs.out]; rfl, rfl⟩
  ·obtain rfl : k = n := by omega
   have Hs := Lib.hid (show fitL ws ts 0 = (both, true) by rw [He.out, List.drop_of_length_le (by have := Hn.out; omega), List.drop_of_length_le (by have := Hm.out; omega)]; rfl)
   go_wp2
   go_ret2
   exact ⟨by rw [Hs.out]; rfl, rfl⟩
end Go.Proofs.YtafoklilkdnepaaGreatDoor

/- expr.Expr.Size, bywashref04.Size: how many expressions. For every expression. -/
namespace Go.Proofs.YtafoklilkdnepaaGreatDoor
open Go.RowKit

set_option maxRecDepth 20000 in
set_option maxHeartbeats 800000 in
theorem sizeX_any (n : Nat) : ∀ (e : TX n) (x : XC) (w : World), ExP xcE anyB n w x e → sizeX n e ≤ 2000000 →
  Calls Tryz.prog 26 #[x.val] w fun r w' => r = .returned (.int .i64 (sizeX n e)) ∧ Touch [] w w' := by
 induction n with
 | zero => intro e; exact e.elim
 | succ n ih =>
  intro e x w hx hs
  obtain ⟨nd, args⟩ := e
  obtain ⟨h1, h2, h3⟩ := hx.args
  have hsum : sumX n args ≤ 2000000 := by have hs' : 1 + sumX n args ≤ 2000000 := hs; omega
  have hlen := len_le_sum n args
  have htk := sum_take_le n args
  have hfin : sizeX (n + 1) (nd, args) = 1 + sumX n args := rfl
  obtain ⟨⟨k, nm, ⟨vk, vn, vt⟩, op⟩, A, m, c⟩ := x
  dsimp only at h2 h3
  subst h2
  dsimp only [XC.val]
  have Htk := Lib.hid htk; have Hfin := Lib.hid hfin; have Ih := Lib.hid ih
  have t0 := (Touch.refl [] w).alloc (.cells #[.int .i64 k, .string nm, .int .i64 vk, .int .i64 vn, .string vt, .string op, .slice A args.length c] 44)
  clear htk hfin ih hx h1 hs
  go_enter Tryz.func26, Tryz.ntmps26
  go_wp2_with fail
  go_loopw [3, 9] (fun v i wr => ∃ j : Nat, j ≤ args.length ∧ i = .int .i64 j ∧ v = .int .i64 ((1 + sumX n (args.take j) : Nat) : Int) ∧ Touch [] w wr) (fun _ i _ => args.length - (intOf i).toNat)
  case atStart => exact ⟨0, by omega, rfl, by simp [sumX], t0⟩
  case round =>
   obtain ⟨j, hj, rfl, rfl, ht⟩ := hrel
   by_cases hlt : j < args.length
   ·obtain ⟨ad, b, off, y, rfl, hadd, hy, hcell⟩ := (h3.touch0 ht).at_ xcE_length j hlt
    have hsn := sumX_snoc n args j hlt
    have hms := size_mem (List.getElem_mem hlt)
    have htj := Htk.out j
    have htj1 := Htk.out (j + 1)
    obtain ⟨a, hae⟩ : ∃ a, a = args[j] := ⟨_, rfl⟩
    rw [← hae] at hy hsn hms
    have ta := (Touch.refl [] wr).alloc (.cells #[.int .i64 y.nd.kind, .string y.nd.name, .int .i64 y.nd.v.kind, .int .i64 y.nd.v.num, .string y.nd.v.text, .string y.nd.op, .slice y.A y.n y.c] 44)
    have hc := Lib.hid (Ih.out a y _ (hy.touch0 ta) (by omega))
    have c0 := hcell 0 _ rfl; have c1 := hcell 1 _ rfl; have c2 := hcell 2 _ rfl; have c3 := hcell 3 _ rfl; have c4 := hcell 4 _ rfl; have c5 := hcell 5 _ rfl; have c6 := hcell 6 _ rfl
    rw [Nat.add_zero] at c0
    obtain ⟨p, hp⟩ : ∃ p, p = sumX n (args.take j) := ⟨_, rfl⟩
    obtain ⟨q, hq⟩ : ∃ q, q = sizeX n a := ⟨_, rfl⟩
    rw [← hp] at hsn htj ⊢
    rw [← hq] at hsn hms
    rw [hsn] at htj1
    have Hsn := Lib.hid hsn
    rw [← hq] at hc
    clear hsn hae hcell hp hq
    obtain ⟨⟨k2, nm2, ⟨vk2, vn2, vt2⟩, op2⟩, A2, m2, c2'⟩ := y
    simp only [XC.val] at hc c0 c1 c2 c3 c4 c5 c6
    go_wp2_with fail
    refine hc.out.mono ?_
    rintro e w1 ⟨rfl, t1⟩
    go_wp2_with fail
    go_roundw
    case rel => exact ⟨j + 1, by omega, by go_num, by rw [Hsn.out]; go_num, (ht.trans0 ta).trans0 t1⟩
    case measure => simp [intOf]; omega
   ·obtain rfl : j = args.length := by omega
    rw [List.take_length]
    go_wp2_with fail
    go_ret
    exact ⟨by rw [Hfin.out]; rfl, ht⟩
end Go.Proofs.YtafoklilkdnepaaGreatDoor

/- expr.Expr.typed, Type: an expression's type and error. For every expression and schema. -/
namespace Go.Proofs.YtafoklilkdnepaaGreatDoor
open Go.RowKit

theorem info_intx : (Tryz.prog.info? 3).map (fun i => (i.zero, i.size, i.bytes)) = some (some (.int .i64 0), 1, 8) := by kernel_rfl
/-- the type and the error of each of some, as far as all are right -/
theorem typedX_succ (cs : List CD) (n d : Nat) (e : TX (n + 1)) : typedX cs (n + 1) d e =
  (if 32 < d then (0, 52)
  else if formV e.1 e.2.length = false then (0, 20)
  else if e.1.kind = 2 then (e.1.v.kind, 0)
  else if e.1.kind = 1 then (match colT cs e.1.name with | some t => (t, 0) | none => (0, 13))
  else match e.2.find? fun a => decide ((typedX cs n (d + 1) a).2 ≠ 0) with
   | some a => (0, (typedX cs n (d + 1) a).2)
   | none => match ruleV e.1 with
    | none => (0, 20)
    | some r => match fitL r.args (e.2.map fun a => (typedX cs n (d + 1) a).1) 0 with
     | (both, true) => if r.out = -1 then (both, 0) else (r.out, 0)
     | (_, false) => (0, 12) : Int × Int) := rfl
theorem find_hit {α : Type} {p : α → Bool} {l : List α} {k : Nat} (h : k < l.length) (hk : p l[k] = true) (hno : ∀ a ∈ l.take k, p a = false) : l.find? p = some l[k] := by
 rw [List.find?_eq_some_iff_getElem]
 refine ⟨hk, k, h, rfl, fun j hj => ?_⟩
 have := hno l[j] (List.mem_take_iff_getElem.2 ⟨j, by omega, rfl⟩)
 simp [this]
theorem find_miss {α : Type} {p : α → Bool} {l : List α} (hno : ∀ a ∈ l, p a = false) : l.find? p = none := by
 rw [List.find?_eq_none]
 intro a ha
 rw [hno a ha]; simp
/-- what typed promises -/
def TypedSaid (n : Nat) : Prop := ∀ (e : TX n) (x : XC) (A : Option Addr) (cap m : Nat) (cs : List CD) (_ : cs.length = m) (d : Nat) (w : World), ExP xcE anyB n w x e → ColsAt w A cs → m ≤ 140737000000000 → sizeX n e ≤ 1000000 → allX (fun q => q.v.text.size ≤ 140737000000000) n e → d ≤ 1000000000 →
  Calls Tryz.prog 103 #[x.val, .slice A m cap, .int .i64 d] w fun r w' => r = .returned (.tuple #[.int .i64 (typedX cs n d e).1, .int .i64 (typedX cs n d e).2]) ∧ Touch [] w w'

set_option maxRecDepth 20000 in
set_option maxHeartbeats 6400000 in
theorem typed_any (n : Nat) : TypedSaid n := by
 induction n with
 | zero => intro e; exact e.elim
 | succ n ih =>
  intro e x A cap m cs hm d w hx hcs hmb hs hall hd
  subst hm
  have Hst := Lib.hid (typedX_succ cs n d e)
  obtain ⟨nd, args⟩ := e
  obtain ⟨h1, h2, h3⟩ := hx.args
  obtain ⟨ha1, ha2⟩ := hall
  have hsum : sumX n args ≤ 1000000 := by have hs' : 1 + sumX n args ≤ 1000000 := hs; omega
  have hlen := len_le_sum n args
  dsimp only at h1 h2 h3 ha1 ha2
  subst h1
  have Hform := Lib.hid fun w' => form_any x ha1 w'
  have Hrule := Lib.hid fun w' => rule_any x w'
  have Hfind := Lib.hid fun w' (t : Touch [] w w') => findC_any A cap cs.length cs rfl x.nd.name w' (hcs.touch0 t) hmb
  obtain ⟨⟨k, nm, ⟨vk, vn, vt⟩, op⟩, XA, m, c⟩ := x
  dsimp only at h2 h3 ha1
  subst h2
  simp only [XC.val] at Hform Hrule ⊢
  simp only at Hst Hfind
  have t0 := (Touch.refl [] w).alloc (.cells #[.int .i64 k, .string nm, .int .i64 vk, .int .i64 vn, .string vt, .string op, .slice XA args.length c] 44)
  have hb := heap_alloc_new w (.cells #[.int .i64 k, .string nm, .int .i64 vk, .int .i64 vn, .string vt, .string op, .slice XA args.length c] 44)
  have Hb := Lib.hid hb
  obtain ⟨res, hres⟩ : ∃ res, res = typedX cs (n + 1) d ((⟨k, nm, ⟨vk, vn, vt⟩, op⟩, args) : TX (n + 1)) := ⟨_, rfl⟩
  rw [← hres] at Hst ⊢
  clear hb hx hs hres
  by_cases hd32 : 32 < d
  ·have Hf := Lib.hid (show res = (0, 52) by rw [Hst.out, if_pos hd32])
   have hdI : (32 : Int) < (d : Int) := by omega
   go_enter Tryz.func103, Tryz.ntmps103
   go_wp2_with fail
   go_ret2
   exact ⟨by rw [Hf.out]; rfl, t0⟩
  have hdI : ¬ (32 : Int) < (d : Int) := by omega
  rcases hfo : formV ⟨k, nm, ⟨vk, vn, vt⟩, op⟩ args.length with _ | _
  ·have Hf := Lib.hid (show res = (0, 20) by rw [Hst.out, if_neg hd32, if_pos hfo])
   rw [hfo] at Hform
   clear hfo
   go_enter Tryz.func103, Tryz.ntmps103
   go_wp2_with fail
   refine (Hform.out _).mono ?_
   rintro e w1 ⟨rfl, t1⟩
   go_wp2_with fail
   go_ret2
   exact ⟨by rw [Hf.out]; rfl, t0.trans0 t1⟩
  rw [hfo] at Hform
  by_cases hk2 : k = 2
  ·have Hf := Lib.hid (show res = (vk, 0) by rw [Hst.out, if_neg hd32, if_neg (by rw [hfo]; simp), if_pos hk2])
   subst hk2
   clear hfo
   go_enter Tryz.func103, Tryz.ntmps103
   go_wp2_with fail
   refine (Hform.out _).mono ?_
   rintro e w1 ⟨rfl, t1⟩
   have hb1 := t1.blk Hb.out (by simp)
   obtain ⟨c0, c1, c2, c3, c4, c5, c6, _⟩ := blk7 hb1
   go_wp2_with fail
   go_ret2
   exact ⟨by rw [Hf.out]; rfl, t0.trans0 t1⟩
  have q2 : (k == 2) = false := by simpa using hk2
  by_cases hk1 : k = 1
  ·rcases hp : placeV cs nm with _ | q
   ·have Hf := Lib.hid (show res = (0, 13) by rw [Hst.out, if_neg hd32, if_neg (by rw [hfo]; simp), if_neg hk2, if_pos hk1]; unfold colT; rw [hp])
    rw [hp] at Hfind
    subst hk1
    clear hfo hp hk2
    go_enter Tryz.func103, Tryz.ntmps103
    go_wp2_with fail
    refine (Hform.out _).mono ?_
    rintro e w1 ⟨rfl, t1⟩
    have hb1 := t1.blk Hb.out (by simp)
    obtain ⟨c0, c1, c2, c3, c4, c5, c6, _⟩ := blk7 hb1
    go_wp2_with fail
    refine (Hfind.out _ (t0.trans0 t1)).mono ?_
    rintro e w2 ⟨rfl, t2⟩
    go_wp2_with fail
    go_ret2
    exact ⟨by rw [Hf.out]; rfl, (t0.trans0 t1).trans0 t2⟩
   ·have hql := placeV_lt hp
    have Hf := Lib.hid (show res = (cs[q].typ, 0) by rw [Hst.out, if_neg hd32, if_neg (by rw [hfo]; simp), if_neg hk2, if_pos hk1]; unfold colT; rw [hp]; simp only; rw [List.getElem?_eq_getElem hql]; rfl)
    rw [hp] at Hfind
    simp only [Option.getD_some, Option.isSome_some] at Hfind
    subst hk1
    clear hfo hp hk2
    go_enter Tryz.func103, Tryz.ntmps103
    go_wp2_with fail
    refine (Hform.out _).mono ?_
    rintro e w1 ⟨rfl, t1⟩
    have hb1 := t1.blk Hb.out (by simp)
    obtain ⟨c0, c1, c2, c3, c4, c5, c6, _⟩ := blk7 hb1
    go_wp2_with fail
    refine (Hfind.out _ (t0.trans0 t1)).mono ?_
    rintro e w2 ⟨rfl, t2⟩
    obtain ⟨ad, b, off, rfl, hadd, f0, f1⟩ := (hcs.touch0 ((t0.trans0 t1).trans0 t2)).at_ q hql
    have hqI : (q : Int) < (cs.length : Int) := by omega
    have hqI0 : (0 : Int) ≤ (q : Int) := by omega
    go_wp2_with fail
    go_ret2
    exact ⟨by rw [Hf.out]; rfl, (t0.trans0 t1).trans0 t2⟩
  have q1 : (k == 1) = false := by simpa using hk1
  have hst2 := Hst.out
  rw [if_neg hd32, if_neg (by rw [hfo]; simp), if_neg hk2, if_neg hk1] at hst2
  -- the rule is there
  have hfr : ∃ r, ruleV ⟨k, nm, ⟨vk, vn, vt⟩, op⟩ = some r ∧ args.length = r.args.length := by
   unfold formV at hfo
   rw [if_neg hk1, if_neg hk2, Bool.and_eq_true] at hfo
   rcases hr : ruleV ⟨k, nm, ⟨vk, vn, vt⟩, op⟩ with _ | r
   ·rw [hr] at hfo; cases hfo.1
   ·rw [hr] at hfo; exact ⟨r, rfl, of_decide_eq_true hfo.1⟩
  obtain ⟨r, hr, hrl⟩ := hfr
  rw [hr] at hst2
  have Hst2 := Lib.hid hst2
  have Hrl := Lib.hid hrl
  have hrp : ∀ e w1, RulePost ⟨k, nm, ⟨vk, vn, vt⟩, op⟩ args.length e w1 → ∃ B c, e = .returned (.tuple #[.agg #[.string r.name, .slice B args.length c, .int .i64 r.out], .bool true]) ∧ IntsAt w1 B r.args := fun e w1 h => by
   unfold RulePost at h
   rw [hr] at h
   obtain ⟨B, c, he, hi⟩ := h
   exact ⟨B, c, by rw [he, decide_eq_true hrl, hrl], hi⟩
  have Hrp := Lib.hid hrp
  have Ih := Lib.hid ih; have Ha2 := Lib.hid ha2
  clear hst2 hrp hr hrl hfo hk1 hk2 Hst ih ha2 ha1
  go_enter Tryz.func103, Tryz.ntmps103
  go_wp2_with fail
  refine (Hform.out _).mono ?_
  rintro e w1 ⟨rfl, t1⟩
  have hb1 := t1.blk Hb.out (by simp)
  obtain ⟨c0, c1, c2, c3, c4, c5, c6, _⟩ := blk7 hb1
  have T1 := t0.trans0 t1
  go_wp2_with fail
  clear c0 c1 c2 c3 c4 c5 c6
  have Hb1 := Lib.hid hb1
  clear hb1
  go_loopw [10, 54] (fun v i wr => ∃ (j : Nat) (B : Option Addr) (cB : Nat), j ≤ args.length ∧ i = .int .i64 j ∧ v = .slice B j cB ∧ Made 3 1 inE ((args.take j).map fun a => (typedX cs n (d + 1) a).1) B cB w1 wr ∧ Hid (∀ a ∈ args.take j, decide ((typedX cs n (d + 1) a).2 ≠ 0) = false)) (fun _ i _ => args.length - (intOf i).toNat)
  case atStart => exact ⟨0, none, 0, by omega, rfl, rfl, Made.nil _ _ _ _, Lib.hid (by simp)⟩
  case round =>
   obtain ⟨j, B, cB, hj, rfl, rfl, hmd, Hno⟩ := hrel
   have T2 := T1.trans0 hmd.t
   by_cases hlt : j < args.length
   ·obtain ⟨ad, b, off, y, rfl, hadd, hy, hcell⟩ := (h3.touch0 T2).at_ xcE_length j hlt
    have hsn := List.take_succ_eq_append_getElem hlt
    have hms := size_mem (List.getElem_mem hlt)
    have hay := Ha2.out _ (List.getElem_mem hlt)
    have hhit := find_hit (p := fun a => decide ((typedX cs n (d + 1) a).2 ≠ 0)) hlt
    obtain ⟨a, hae⟩ : ∃ a, a = args[j] := ⟨_, rfl⟩
    rw [← hae] at hy hsn hms hay hhit
    have ta := (Touch.refl [] wr).alloc (.cells #[.int .i64 y.nd.kind, .string y.nd.name, .int .i64 y.nd.v.kind, .int .i64 y.nd.v.num, .string y.nd.v.text, .string y.nd.op, .slice y.A y.n y.c] 44)
    have Hc := Lib.hid (Ih.out a y A cap cs.length cs rfl (d + 1) _ (hy.touch0 ta) (hcs.touch0 (T2.trans0 ta)) hmb (by omega) hay (by omega))
    have Htl := Lib.hid (show ((args.take j).map fun a => (typedX cs n (d + 1) a).1).length = j by rw [List.length_map, List.length_take]; omega)
    have c0 := hcell 0 _ rfl; have c1 := hcell 1 _ rfl; have c2 := hcell 2 _ rfl; have c3 := hcell 3 _ rfl; have c4 := hcell 4 _ rfl; have c5 := hcell 5 _ rfl; have c6 := hcell 6 _ rfl
    rw [Nat.add_zero] at c0
    have Hsn := Lib.hid hsn; have Hhit := Lib.hid hhit
    clear hsn hae hcell hms hay hhit
    obtain ⟨⟨k2, nm2, ⟨vk2, vn2, vt2⟩, op2⟩, A2, m2, c2'⟩ := y
    simp only [XC.val] at Hc
    simp only at c0 c1 c2 c3 c4 c5 c6 ta
    obtain ⟨ty, hty⟩ : ∃ ty, ty = (typedX cs n (d + 1) a).1 := ⟨_, rfl⟩
    obtain ⟨er, her⟩ : ∃ er, er = (typedX cs n (d + 1) a).2 := ⟨_, rfl⟩
    rw [← hty, ← her] at Hc
    have Hty := Lib.hid hty; have Her := Lib.hid her
    clear hty her
    by_cases he0 : er = 0
    ·have Hno2 := Lib.hid (show ∀ a ∈ args.take (j + 1), decide ((typedX cs n (d + 1) a).2 ≠ 0) = false from fun a' ha' => by
      rw [Hsn.out] at ha'
      rcases List.mem_append.1 ha' with q | q
      ·exact Hno.out a' q
      ·rw [List.mem_singleton] at q; rw [q, ← Her.out, he0]; rfl)
     subst he0
     go_wp2_with fail
     refine Hc.out.mono ?_
     rintro e w2 ⟨rfl, t2⟩
     have tb := (Touch.refl [] w2).alloc (.cells #[.int .i64 ty] 3)
     have hmd2 := ((hmd.touch0 ta).touch0 t2).touch0 tb
     go_wp2_with (at_builtin; refine stop ?_)
     refine go ?_
     refine wpList_appK rfl (.tmp 69) (.tmp 71) 97 rfl 3 _ 1 8 info_intx Tryz.underlying97 rfl (by omega) inE_length inE_one B j cB _ Htl.out rfl hmd2.own
      (some ⟨w2.heap.size, 0, none⟩) 1 1 [ty] rfl rfl (RdK.one (enc := inE) w2 3 ty #[.int .i64 ty] rfl) (by omega) (by omega) ?_
     intro B5 cB5 w5 hown5 ht5 hf5
     go_wp2
     go_roundw
     case rel => exact ⟨j + 1, B5, cB5, by omega, by go_num, rfl, by rw [Hsn.out, List.map_append]; simp only [List.map_cons, List.map_nil]; rw [← Hty.out]; exact hmd2.step hown5 ht5 hf5, Hno2⟩
     case measure => simp [intOf]; omega
    ·have Hf := Lib.hid (show res = (0, er) by rw [Hst2.out, Hhit.out (by rw [← Her.out]; simpa using he0) Hno.out]; simp only; rw [← Her.out])
     have e0 : (er != 0) = true := by simpa using he0
     clear he0
     go_wp2_with fail
     refine Hc.out.mono ?_
     rintro e w2 ⟨rfl, t2⟩
     go_wp2_with fail
     go_ret2
     exact ⟨by rw [Hf.out]; rfl, (T2.trans0 ta).trans0 t2⟩
   ·obtain rfl : j = args.length := by omega
    rw [List.take_length] at hmd Hno
    have hst3 := Hst2.out
    rw [find_miss Hno.out] at hst3
    simp only at hst3
    obtain ⟨bo, hbo⟩ : ∃ bo, bo = fitL r.args (args.map fun a => (typedX cs n (d + 1) a).1) 0 := ⟨_, rfl⟩
    rw [← hbo] at hst3
    have Hst3 := Lib.hid hst3
    have Hfit := Lib.hid fun (B0 : Option Addr) (c0 c0' : Nat) w' hi hj => fitX_any B0 B c0 c0' args.length r.args (args.map fun a => (typedX cs n (d + 1) a).1) Hrl.out.symm (by rw [List.length_map]) w' hi hj (by omega)
    rw [← hbo] at Hfit
    clear hst3 hbo
    have hb2 := hmd.t.blk Hb1.out (by simp)
    obtain ⟨c0, c1, c2, c3, c4, c5, c6, _⟩ := blk7 hb2
    go_wp2_with fail
    refine (Hrule.out _).mono ?_
    rintro e w2 ⟨hp, t2⟩
    obtain ⟨B0, d0, rfl, hi⟩ := Hrp.out e w2 hp
    clear c0 c1 c2 c3 c4 c5 c6
    have tb := (Touch.refl [] w2).alloc (.cells #[.string r.name, .slice B0 args.length d0, .int .i64 r.out] 202)
    have hbr := heap_alloc_new w2 (.cells #[.string r.name, .slice B0 args.length d0, .int .i64 r.out] 202)
    obtain ⟨z0, z1, z2, _⟩ := blk3x hbr
    obtain ⟨both, ok⟩ := bo
    simp only at Hst3 Hfit
    have T3 := (T2.trans0 t2).trans0 tb
    cases ok
    ·go_wp2_with fail
     refine (Hfit.out B0 d0 cB _ (hi.touch0 tb) ((hmd.touch0 t2).touch0 tb).own.rd).mono ?_
     rintro e w' ⟨rfl, rfl⟩
     go_wp2_with fail
     go_ret2
     exact ⟨by rw [Hst3.out]; rfl, T3⟩
    ·by_cases ho : r.out = -1
     ·have Hf := Lib.hid (show res = (both, 0) by rw [Hst3.out]; simp only; rw [if_pos ho])
      have q3 : (r.out == -1) = true := by simpa using ho
      clear ho
      go_wp2_with fail
      refine (Hfit.out B0 d0 cB _ (hi.touch0 tb) ((hmd.touch0 t2).touch0 tb).own.rd).mono ?_
      rintro e w' ⟨rfl, rfl⟩
      go_wp2_with fail
      go_ret2
      exact ⟨by rw [Hf.out]; rfl, T3⟩
     ·have Hf := Lib.hid (show res = (r.out, 0) by rw [Hst3.out]; simp only; rw [if_neg ho])
      have q3 : (r.out == -1) = false := by simpa using ho
      clear ho
      go_wp2_with fail
      refine (Hfit.out B0 d0 cB _ (hi.touch0 tb) ((hmd.touch0 t2).touch0 tb).own.rd).mono ?_
      rintro e w' ⟨rfl, rfl⟩
      go_wp2_with fail
      go_ret2
      exact ⟨by rw [Hf.out]; rfl, T3⟩
end Go.Proofs.YtafoklilkdnepaaGreatDoor
