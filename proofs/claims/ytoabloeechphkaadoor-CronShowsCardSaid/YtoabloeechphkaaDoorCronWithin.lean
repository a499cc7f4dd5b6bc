/- cron.Spec.within: the first minute of a day that matches. -/
import Derived.Test.YtoabloeechphkaaDoorCronMatch
namespace Go.Proofs.YtoabloeechphkaaDoor
open Go.RowKit

/-- does a minute of a day match? -/
def timeV (c : SD) (m : Nat) : Bool := c.has 1 (m / 60) && c.has 0 (m % 60)
def WithIs (c : SD) (f : Nat) (r : Int) : Prop :=
  (∃ m : Nat, r = (m : Int) ∧ f ≤ m ∧ m < 1440 ∧ timeV c m = true ∧ ∀ j, f ≤ j → j < m → timeV c j = false) ∨ (r = -1 ∧ ∀ j, f ≤ j → j < 1440 → timeV c j = false)
def WithPost (c : SD) (f : Nat) (w : World) (e : Ending) (w' : World) : Prop := ∃ r, e = .returned (.int .i64 r) ∧ WithIs c f r ∧ Touch [] w w'

set_option maxRecDepth 20000 in
set_option maxHeartbeats 3200000 in
theorem within_any (c : SD) (hc : c.Ok) (f : Nat) (hf : f < 1440) (w : World) :
    Calls Tryd.prog 36 #[c.val, .int .i64 f] w (WithPost c f w) := by
  have t0 := (Touch.refl [] w).alloc (.cells c.row 27)
  have hS := specAt_new w c
  obtain ⟨W, hW⟩ : ∃ W, W = w.alloc (.cells c.row 27) := ⟨_, rfl⟩
  have hW2 := hW
  unfold SD.row at hW2
  rw [← hW] at t0 hS
  have HW := Lib.hid hW2
  have HS := Lib.hid hS
  clear hW hW2 hS
  have h1 : ∀ n, n < 64 → ∀ w', Calls Tryd.prog 33 #[c.val, .int .i64 1, .int .i64 (n : Nat)] w' fun e w'' => e = .returned (.bool (c.has 1 n)) ∧ Touch [] w' w'' := fun n hn w' => has_any c hc 1 n (by omega) hn w'
  have h0 : ∀ n, n < 64 → ∀ w', Calls Tryd.prog 33 #[c.val, .int .i64 0, .int .i64 (n : Nat)] w' fun e w'' => e = .returned (.bool (c.has 0 n)) ∧ Touch [] w' w'' := fun n hn w' => has_any c hc 0 n (by omega) hn w'
  unfold SD.val SD.row at *
  have H1 := Lib.hid h1; have H0 := Lib.hid h0
  clear h1 h0
  go_enter Tryd.func36, Tryd.ntmps36
  go_wp2_with fail
  rw [← HW.out]
  go_loopw [5] (fun i wr => ∃ k : Nat, f ≤ k ∧ k ≤ 1500 ∧ i = .int .i64 k ∧ Hid (∀ j, f ≤ j → j < k → j < 1440 → timeV c j = false) ∧ Touch [] W wr) (fun i _ => 2000 - (intOf i).toNat)
  case atStart => exact ⟨f, Nat.le_refl _, by omega, rfl, Lib.hid (fun j h1 h2 => by omega), Touch.refl _ _⟩
  case round =>
    obtain ⟨k, hk1, hk2, rfl, hno, ht⟩ := hrel
    obtain ⟨s0, s1, s2, s3, s4, a0, a1, a2, a3, a4⟩ := HS.out.touch0 ht
    by_cases hlt : k < 1440
    · have e1 : ((k / 60 : Nat) : Int) = (k : Int) / 60 := by omega
      have e2 : ((k % 60 : Nat) : Int) = (k : Int) % 60 := by omega
      have g1 := H1.out (k / 60) (by omega)
      have g0 := H0.out (k % 60) (by omega)
      rw [e1] at g1
      rw [e2] at g0
      obtain ⟨p, hp⟩ : ∃ p, p = c.has 1 (k / 60) := ⟨_, rfl⟩
      obtain ⟨q, hq⟩ : ∃ q, q = c.has 0 (k % 60) := ⟨_, rfl⟩
      rw [← hp] at g1
      rw [← hq] at g0
      have ht2 : timeV c k = (p && q) := by rw [hp, hq]; rfl
      have G1 := Lib.hid g1; have G0 := Lib.hid g0; have Hp := Lib.hid hp; have Ht2 := Lib.hid ht2
      clear g1 g0 e1 e2 hp hq ht2
      rcases p with _ | _
      · go_wp2_with fail
        refine (G1.out _).mono ?_
        rintro e w1 ⟨rfl, t1⟩
        go_wp2_with fail
        go_roundw
        case rel => exact ⟨k + (59 - k % 60) + 1, by omega, by omega, by go_num, Lib.hid (fun j h1 h2 h3 => by
          rcases Nat.lt_or_ge j k with hj | hj
          · exact hno.out j h1 hj h3
          · have : j / 60 = k / 60 := by omega
            unfold timeV; rw [this, ← Hp.out]; rfl), ht.trans0 t1⟩
        case measure => simp [intOf]; omega
      · rcases q with _ | _
        · go_wp2_with fail
          refine (G1.out _).mono ?_
          rintro e w1 ⟨rfl, t1⟩
          clear s0 s1 s2 s3 s4 a0 a1 a2 a3 a4
          obtain ⟨s0, s1, s2, s3, s4, a0, a1, a2, a3, a4⟩ := (HS.out.touch0 ht).touch0 t1
          go_wp2_with fail
          refine (G0.out _).mono ?_
          rintro e w2 ⟨rfl, t2⟩
          go_wp2_with fail
          go_roundw
          case rel => exact ⟨k + 1, by omega, by omega, by go_num, Lib.hid (fun j h1 h2 h3 => by
            rcases Nat.lt_or_ge j k with hj | hj
            · exact hno.out j h1 hj h3
            · obtain rfl : j = k := by omega
              rw [Ht2.out]; rfl), (ht.trans0 t1).trans0 t2⟩
          case measure => simp [intOf]; omega
        · go_wp2_with fail
          refine (G1.out _).mono ?_
          rintro e w1 ⟨rfl, t1⟩
          clear s0 s1 s2 s3 s4 a0 a1 a2 a3 a4
          obtain ⟨s0, s1, s2, s3, s4, a0, a1, a2, a3, a4⟩ := (HS.out.touch0 ht).touch0 t1
          go_wp2_with fail
          refine (G0.out _).mono ?_
          rintro e w2 ⟨rfl, t2⟩
          go_wp2_with fail
          go_ret
          exact ⟨_, rfl, .inl ⟨k, rfl, hk1, hlt, by rw [Ht2.out]; rfl, fun j h1 h2 => hno.out j h1 h2 (by omega)⟩, (t0.trans0 ht).trans0 (t1.trans0 t2)⟩
    · go_wp2_with fail
      go_ret
      exact ⟨_, rfl, .inr ⟨rfl, fun j h1 h2 => hno.out j h1 (by omega) h2⟩, t0.trans0 ht⟩
end Go.Proofs.YtoabloeechphkaaDoor
