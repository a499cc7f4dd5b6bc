/- the fixed answer of the statements of layer 10: it stands. -/
import Derived.Test.YtoabloeechphkaaDoorCronParse
namespace Go.Proofs.YtoabloeechphkaaDoor
open Go.RowKit

def t0V : List UInt8 := [48, 32, 50, 32, 42, 32, 42, 32, 42]
def cA : SD := ⟨fun i => if i = 0 then 1 else if i = 1 then 4 else if i = 2 then 4294967294 else if i = 3 then 8190 else 127, fun i => decide (2 ≤ i)⟩
theorem parse_t0 : (parseC t0V).1 = 0 := by kernel_rfl
theorem val_t0 : (parseC t0V).2.val = cA.val := by kernel_rfl
theorem cA_ok : cA.Ok := fun f hf => by
  have : f = 0 ∨ f = 1 ∨ f = 2 ∨ f = 3 ∨ f = 4 := by omega
  rcases this with rfl | rfl | rfl | rfl | rfl <;> decide
theorem cA_right : cA.right = true := by kernel_rfl
theorem cA_120 : matchV cA 120 = true := by kernel_rfl
theorem cA_1560 : matchV cA 1560 = true := by kernel_rfl
theorem cA_0 : matchV cA 0 = false := by kernel_rfl
theorem cA_none : (List.range 120).all (fun m => !matchV cA m) = true := by kernel_rfl
theorem cA_next {n : Nat} (h : matchV cA n = true) (hl : ∀ m, 1 ≤ m → m < n → matchV cA m = false) : n = 120 := by
  rcases Nat.lt_trichotomy n 120 with h1 | h1 | h1
  · have := List.all_eq_true.1 cA_none n (List.mem_range.2 h1)
    rw [h] at this; cases this
  · exact h1
  · have := hl 120 (by omega) h1
    rw [cA_120] at this; cases this

set_option maxRecDepth 20000 in
set_option maxHeartbeats 3200000 in
theorem awake10_any (w : World) (hG : Gc w) : Calls Tryd.prog 9 #[] w fun e w' => e = .returned (.bool true) ∧ Touch [] w w' := by
  have hparse := parse_any t0V (by decide) w hG
  have hP : ∀ e w', ParsePost t0V w e w' → e = .returned (.tuple #[cA.val, .int .i64 0]) ∧ Touch [] w w' := fun e w' h => by
    unfold ParsePost at h
    rw [parse_t0, val_t0] at h
    exact h
  have HP := Lib.hid hP; have Hparse := Lib.hid hparse
  have hN := fun w' h => next_any cA cA_ok 0 (by omega) (by omega) 1 (by decide) w' h cA_right
  have hN2 : ∀ w', Gc w' → Calls Tryd.prog 17 #[cA.val, .int .i64 0] w' fun e w'' => e = .returned (.tuple #[.int .i64 120, .bool true]) ∧ Touch [] w' w'' := fun w' h => (hN w' h).mono (by
    rintro e w'' ⟨⟨n, rfl, h1, h2, h3, h4⟩ | ⟨rfl, h4⟩, t⟩
    · obtain rfl := cA_next h3 h4
      exact ⟨rfl, t⟩
    · have := h4 120 (by omega) (by omega)
      rw [cA_120] at this; cases this)
  have hM1 : ∀ w', Gc w' → Calls Tryd.prog 15 #[cA.val, .int .i64 1560] w' fun e w'' => e = .returned (.bool true) ∧ Touch [] w' w'' := fun w' h => (match_any cA cA_ok 1560 (by omega) w' h).mono (by
    rintro e w'' ⟨rfl, t⟩
    exact ⟨ret_bool (by rw [cA_right, cA_1560]; rfl), t⟩)
  have hM0 : ∀ w', Gc w' → Calls Tryd.prog 15 #[cA.val, .int .i64 0] w' fun e w'' => e = .returned (.bool false) ∧ Touch [] w' w'' := fun w' h => (match_any cA cA_ok 0 (by omega) w' h).mono (by
    rintro e w'' ⟨rfl, t⟩
    exact ⟨ret_bool (by rw [cA_right, cA_0]; rfl), t⟩)
  unfold SD.val SD.row at hN2 hM1 hM0 HP
  have HN := Lib.hid hN2; have HM1 := Lib.hid hM1; have HM0 := Lib.hid hM0; have HG := Lib.hid hG
  clear hP hparse hN hN2 hM1 hM0 hG
  go_enter Tryd.func9, Tryd.ntmps9
  go_wp2_with fail
  refine Hparse.out.mono ?_
  intro e w1 hp
  obtain ⟨rfl, t1⟩ := HP.out e w1 hp
  clear hp
  have hS := specAt_new w1 cA
  have ta := t1.alloc (.cells cA.row 27)
  unfold SD.row at hS ta
  have HS := Lib.hid hS
  obtain ⟨s0, s1, s2, s3, s4, a0, a1, a2, a3, a4⟩ := hS
  go_wp2_with fail
  refine (HN.out _ (HG.out.touch0 ta)).mono ?_
  rintro e w2 ⟨rfl, t2⟩
  clear s0 s1 s2 s3 s4 a0 a1 a2 a3 a4
  obtain ⟨s0, s1, s2, s3, s4, a0, a1, a2, a3, a4⟩ := HS.out.touch0 t2
  go_wp2_with fail
  refine (HM1.out _ (HG.out.touch0 (ta.trans0 t2))).mono ?_
  rintro e w3 ⟨rfl, t3⟩
  clear s0 s1 s2 s3 s4 a0 a1 a2 a3 a4
  obtain ⟨s0, s1, s2, s3, s4, a0, a1, a2, a3, a4⟩ := (HS.out.touch0 t2).touch0 t3
  go_wp2_with fail
  refine (HM0.out _ (HG.out.touch0 ((ta.trans0 t2).trans0 t3))).mono ?_
  rintro e w4 ⟨rfl, t4⟩
  go_wp2_with fail
  go_ret
  exact ⟨rfl, ((ta.trans0 t2).trans0 t3).trans0 t4⟩
end Go.Proofs.YtoabloeechphkaaDoor
