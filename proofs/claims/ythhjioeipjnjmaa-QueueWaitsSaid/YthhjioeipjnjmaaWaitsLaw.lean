/- bywashlaw24.QueueWaits: the walk of the law. For every numbers. -/
import Derived.Test.YthhjioeipjnjmaaQueA
namespace Go.Proofs.Ythhjioeipjnjmaa
open Go.RowKit

set_option maxRecDepth 20000 in
set_option maxHeartbeats 3200000 in
theorem waits_law (count least most : Int) (hc : -9223372036854775808 ≤ count ∧ count ≤ 9223372036854775807) (hm : most ≤ 9223372036854775807) (w : World) :
    Calls Try.prog 4 #[.int .i64 count, .int .i64 least, .int .i64 most] w fun e w' => e = .returned (.bool true) ∧ Touch [] w w' := by
  have hb : ∀ (k : Int), k ≤ 9223372036854775807 → ∀ W : World, Calls Try.prog 11 #[.int .i64 k, .int .i64 least, .int .i64 most] W fun e w' => e = .returned (.int .i64 (waitV k least most)) ∧ W = w' := fun k hk W => by
    refine (backoff_any k least most hk hm W).mono ?_
    rintro e w' ⟨rfl, rfl⟩
    exact ⟨rfl, rfl⟩
  have hr : ∀ k : Int, k = min count 100 → ∀ W : World, Calls Try.prog 12 #[.int .i64 k, .int .i64 least, .int .i64 most] W fun e w' => e = .returned (.int .i64 (waitV count least most)) ∧ W = w' := fun k hk W => by
    subst hk
    refine (refBackoff_any _ (min count 100) least most (Nat.le_refl _) (by omega) (by omega) hm W).mono ?_
    rintro e w' ⟨rfl, rfl⟩
    exact ⟨by rw [waitV_all _ _ _ hm], rfl⟩
  have hA := fun W => awake_any W
  have Hb1 := Lib.hid (hb count hc.2)
  have Hb2 := Lib.hid (hb (count - 1) (by omega))
  have hmono : ¬ (count < 2 ∨ least < 1 ∨ most < 1) → waitV (count - 1) least most ≤ waitV count least most ∧ waitV count least most ≤ most ∧ 1 ≤ waitV count least most := fun h => by
    unfold waitV
    rw [if_neg (by omega), if_neg (by omega)]
    have h1 := backV_mono ((count - 1).toNat - 1) least most (by omega) (by omega)
    rw [show (count - 1).toNat - 1 + 1 = count.toNat - 1 by omega] at h1
    have h2 := backV_mono (count.toNat - 1) least most (by omega) (by omega)
    exact ⟨h1.1, h2.2⟩
  obtain ⟨V, hV⟩ : ∃ V, V = waitV count least most := ⟨_, rfl⟩
  obtain ⟨V2, hV2⟩ : ∃ V, V = waitV (count - 1) least most := ⟨_, rfl⟩
  rw [← hV] at Hb1 hr hmono
  rw [← hV2] at Hb2 hmono
  have Hr := Lib.hid hr
  have HA := Lib.hid hA
  have Hmono := Lib.hid hmono
  have h0 : (V == V) = true := by simp
  have h0' : (V != V) = false := by simp
  clear hb hr hA hV hV2 hmono
  go_enter Try.func4, Try.ntmps4
  have hA0 : ¬ (V < V) := by omega
  go_wp2_with fail
  refine (Hb1.out _).mono ?_
  rintro e w' ⟨rfl, rfl⟩
  by_cases h1 : count < 2
  · go_wp2_with fail
    all_goals
      refine (Hr.out _ (by omega) _).mono ?_
      rintro e w' ⟨rfl, rfl⟩
      go_wp2_with fail
      refine (HA.out _).mono ?_
      rintro e w2 ⟨rfl, t2⟩
      go_wp2_with fail
      go_ret
      exact ⟨rfl, t2⟩
  by_cases h2 : least < 1
  · go_wp2_with fail
    all_goals
      refine (Hr.out _ (by omega) _).mono ?_
      rintro e w' ⟨rfl, rfl⟩
      go_wp2_with fail
      refine (HA.out _).mono ?_
      rintro e w2 ⟨rfl, t2⟩
      go_wp2_with fail
      go_ret
      exact ⟨rfl, t2⟩
  by_cases h3 : most < 1
  · go_wp2_with fail
    all_goals
      refine (Hr.out _ (by omega) _).mono ?_
      rintro e w' ⟨rfl, rfl⟩
      go_wp2_with fail
      refine (HA.out _).mono ?_
      rintro e w2 ⟨rfl, t2⟩
      go_wp2_with fail
      go_ret
      exact ⟨rfl, t2⟩
  obtain ⟨m1, m2, m3⟩ := Hmono.out (by omega)
  go_wp2_with fail
  all_goals
    refine (Hr.out _ (by omega) _).mono ?_
    rintro e w' ⟨rfl, rfl⟩
    go_wp2_with fail
    refine (Hb2.out _).mono ?_
    rintro e w' ⟨rfl, rfl⟩
    go_wp2_with fail
    refine (HA.out _).mono ?_
    rintro e w2 ⟨rfl, t2⟩
    go_wp2_with fail
    go_ret
    exact ⟨rfl, t2⟩
end Go.Proofs.Ythhjioeipjnjmaa
