/- queue.Backoff, bywashref24.Backoff: the walks. For every numbers. -/
import Derived.Test.YthhjioeipjnjmaaQueB
namespace Go.Proofs.Ythhjioeipjnjmaa
open Go.RowKit

/-- what both tell -/
def waitV (count least most : Int) : Int := if count < 1 ∨ least < 1 ∨ most < 1 then 0 else backV (count.toNat - 1) least most

set_option maxHeartbeats 800000 in
theorem backoff_any (count least most : Int) (hc : count ≤ 9223372036854775807) (hm : most ≤ 9223372036854775807) (w : World) :
    Calls Try.prog 11 #[.int .i64 count, .int .i64 least, .int .i64 most] w fun e w' => e = .returned (.int .i64 (waitV count least most)) ∧ w' = w := by
  go_enter Try.func11, Try.ntmps11
  by_cases h1 : count < 1
  · have Hq := Lib.hid (show waitV count least most = 0 by unfold waitV; rw [if_pos (by omega)])
    go_wp2
    go_ret
    exact ⟨ret_int Hq.out.symm, rfl⟩
  by_cases h2 : least < 1
  · have Hq := Lib.hid (show waitV count least most = 0 by unfold waitV; rw [if_pos (by omega)])
    go_wp2
    go_ret
    exact ⟨ret_int Hq.out.symm, rfl⟩
  by_cases h3 : most < 1
  · have Hq := Lib.hid (show waitV count least most = 0 by unfold waitV; rw [if_pos (by omega)])
    go_wp2
    go_ret
    exact ⟨ret_int Hq.out.symm, rfl⟩
  have hq : waitV count least most = backV (count.toNat - 1) (min least most) most := by
    unfold waitV
    rw [if_neg (by omega)]
    rcases Int.le_total least most with h | h
    · rw [Int.min_eq_left h]
    · rw [Int.min_eq_right h, backV_top _ _ _ (by omega) h, backV_top _ _ _ (by omega) (Int.le_refl _)]
  obtain ⟨W0, hW0⟩ : ∃ W0, W0 = min least most := ⟨_, rfl⟩
  have hW1 : 1 ≤ W0 ∧ W0 ≤ most := by omega
  rw [← hW0] at hq
  have Hq := Lib.hid hq
  have hmin : (if least < most then least else most) = W0 := by rw [hW0]; omega
  clear hq
  clear hmin
  go_wp2
  all_goals
    go_loop [0, 7] (fun c v => ∃ (k W : Int), c = .int .i64 k ∧ v = .int .i64 W ∧ 1 ≤ k ∧ k ≤ count ∧ 1 ≤ W ∧ W ≤ most ∧ Hid (waitV count least most = backV (k.toNat - 1) W most)) (fun c _ => (intOf c).toNat)
    case atStart => exact ⟨count, W0, rfl, by congr 1; omega, by omega, by omega, by omega, by omega, Hq⟩
    case round =>
      obtain ⟨k, W, rfl, rfl, hk1, hkc, hW1, hWm, Hr⟩ := hrel
      by_cases hk : k = 1
      · subst hk
        have Hz := Lib.hid (show waitV count least most = W by rw [Hr.out]; show backV 0 W most = W; rw [backV_0]; omega)
        go_wp2
        go_ret
        exact ⟨ret_int Hz.out.symm, rfl⟩
      by_cases hw : W = most
      · subst hw
        have Hz := Lib.hid (show waitV count least W = W by rw [Hr.out, backV_top _ _ _ (by omega) (Int.le_refl _)])
        have hk2 : 1 < k := by omega
        go_wp2
        go_ret
        exact ⟨ret_int Hz.out.symm, rfl⟩
      have hk2 : 1 < k := by omega
      have hw2 : W < most := by omega
      have Hs := Lib.hid (show waitV count least most = backV ((k - 1).toNat - 1) (W + min W (most - W)) most by
        rw [Hr.out, show k.toNat - 1 = (k - 1).toNat - 1 + 1 by omega, backV_succ _ _ _ (by omega) (by omega)])
      go_wp2
      all_goals
        go_round
        case rel => exact ⟨k - 1, W + min W (most - W), by go_num, by congr 1; omega, by omega, by omega, by omega, by omega, Hs⟩
        case measure => simp [intOf]; omega

theorem waitV_all (count least most : Int) (hm : most ≤ 9223372036854775807) : waitV (min count 100) least most = waitV count least most := by
  unfold waitV
  by_cases h : count < 1 ∨ least < 1 ∨ most < 1
  · rw [if_pos h, if_pos (by omega)]
  · rw [if_neg h, if_neg (by omega)]
    rcases Int.le_total count 100 with h1 | h1
    · rw [Int.min_eq_left h1]
    · rw [Int.min_eq_right h1, backV_much _ _ _ (by omega) hm (by omega), backV_much _ _ _ (by omega) hm (by omega)]

set_option maxHeartbeats 800000 in
theorem refBackoff_any (n : Nat) : ∀ (count least most : Int), count.toNat ≤ n → -9223372036854775808 ≤ count → count ≤ 9223372036854775807 → most ≤ 9223372036854775807 → ∀ w : World,
    Calls Try.prog 12 #[.int .i64 count, .int .i64 least, .int .i64 most] w fun e w' => e = .returned (.int .i64 (waitV count least most)) ∧ w' = w := by
  induction n with
  | zero =>
    intro count least most hn hc1 hc2 hm w
    have Hq := Lib.hid (show waitV count least most = 0 by unfold waitV; rw [if_pos (by omega)])
    have h1 : count < 1 := by omega
    go_enter Try.func12, Try.ntmps12
    go_wp2
    go_ret
    exact ⟨ret_int Hq.out.symm, rfl⟩
  | succ n ih =>
    intro count least most hn hc1 hc2 hm w
    by_cases h1 : count < 1
    · have Hq := Lib.hid (show waitV count least most = 0 by unfold waitV; rw [if_pos (by omega)])
      go_enter Try.func12, Try.ntmps12
      go_wp2
      go_ret
      exact ⟨ret_int Hq.out.symm, rfl⟩
    by_cases h2 : least < 1
    · have Hq := Lib.hid (show waitV count least most = 0 by unfold waitV; rw [if_pos (by omega)])
      go_enter Try.func12, Try.ntmps12
      go_wp2
      go_ret
      exact ⟨ret_int Hq.out.symm, rfl⟩
    by_cases h3 : most < 1
    · have Hq := Lib.hid (show waitV count least most = 0 by unfold waitV; rw [if_pos (by omega)])
      go_enter Try.func12, Try.ntmps12
      go_wp2
      go_ret
      exact ⟨ret_int Hq.out.symm, rfl⟩
    have hq : waitV count least most = backV (count.toNat - 1) least most := by
      unfold waitV
      rw [if_neg (by omega)]
    by_cases h4 : most ≤ least
    · have Hq := Lib.hid (show waitV count least most = most by rw [hq]; exact backV_top _ _ _ (by omega) h4)
      clear hq
      go_enter Try.func12, Try.ntmps12
      go_wp2
      go_ret
      exact ⟨ret_int Hq.out.symm, rfl⟩
    by_cases h0 : count = 1
    · subst h0
      have Hq := Lib.hid (show waitV 1 least most = least by rw [hq]; show backV 0 least most = least; rw [backV_0]; omega)
      clear hq
      go_enter Try.func12, Try.ntmps12
      go_wp2
      go_ret
      exact ⟨ret_int Hq.out.symm, rfl⟩
    have hnn : (count == 1) = false := by rw [beq_eq_false_iff_ne]; exact h0
    have hs := backV_succ (count.toNat - 2) least most (by omega) (by omega)
    rw [show count.toNat - 2 + 1 = count.toNat - 1 by omega] at hs
    by_cases h5 : most / 2 < least
    · have Hq := Lib.hid (show waitV count least most = most by
        rw [hq, hs]
        exact backV_top _ _ _ (by omega) (by omega))
      clear hq hs ih
      go_enter Try.func12, Try.ntmps12
      go_wp2
      go_ret
      exact ⟨ret_int Hq.out.symm, rfl⟩
    · have hI := ih (count - 1) (2 * least) most (by omega) (by omega) (by omega) hm w
      have he : waitV count least most = waitV (count - 1) (2 * least) most := by
        rw [hq, hs]
        unfold waitV
        rw [if_neg (by omega), show min least (most - least) = least by omega, show least + least = 2 * least by omega, show (count - 1).toNat - 1 = count.toNat - 2 by omega]
      rw [← he] at hI
      have HI := Lib.hid hI
      have hb1 : 2 * least ≤ most := by omega
      clear hq hs hI he ih
      go_enter Try.func12, Try.ntmps12
      go_wp2_with fail
      refine HI.out.mono ?_
      rintro e w' ⟨rfl, rfl⟩
      go_wp2_with fail
      go_ret
      exact ⟨rfl, rfl⟩
end Go.Proofs.Ythhjioeipjnjmaa
