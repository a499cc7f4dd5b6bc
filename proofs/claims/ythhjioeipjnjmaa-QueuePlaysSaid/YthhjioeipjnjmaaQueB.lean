/- queue.Backoff and the document's: doubled till the most. For every numbers. -/
import Derived.Test.YthhjioeipjnjmaaBase
namespace Go.Proofs.Ythhjioeipjnjmaa
open Go.RowKit

/-- how long is waited -/
def backV (n : Nat) (least most : Int) : Int := min (least * 2 ^ n) most
theorem backV_0 (least most : Int) : backV 0 least most = min least most := by simp [backV]
theorem pow2_pos (n : Nat) : (1 : Int) ≤ 2 ^ n := by
  induction n with
  | zero => simp
  | succ n ih => rw [Int.pow_succ]; omega
theorem backV_succ (n : Nat) (w most : Int) (h : 0 ≤ w) (hw : w ≤ most) : backV (n + 1) w most = backV n (w + min w (most - w)) most := by
  unfold backV
  have h1 := pow2_pos n
  have e : w * 2 ^ (n + 1) = (2 * w) * 2 ^ n := by rw [Int.pow_succ]; rw [Int.mul_comm (2 ^ n) 2, ← Int.mul_assoc, Int.mul_comm w 2]
  rw [e]
  rcases Int.le_total w (most - w) with hl | hl
  · rw [Int.min_eq_left hl, show w + w = 2 * w by omega]
  · rw [Int.min_eq_right hl, show w + (most - w) = most by omega]
    have h2 : (2 * w) * 1 ≤ (2 * w) * 2 ^ n := Int.mul_le_mul_of_nonneg_left h1 (by omega)
    have h3 : most * 1 ≤ most * 2 ^ n := Int.mul_le_mul_of_nonneg_left h1 (by omega)
    omega
theorem backV_top (n : Nat) (w most : Int) (h : 0 ≤ most) (hw : most ≤ w) : backV n w most = most := by
  unfold backV
  have h1 := pow2_pos n
  have h2 : w * 1 ≤ w * 2 ^ n := Int.mul_le_mul_of_nonneg_left h1 (by omega)
  omega
theorem backV_much (n : Nat) (w most : Int) (h : 1 ≤ w) (hm : most ≤ 9223372036854775807) (hn : 63 ≤ n) : backV n w most = most := by
  unfold backV
  obtain ⟨k, rfl⟩ : ∃ k, n = 63 + k := ⟨n - 63, by omega⟩
  have h1 := pow2_pos k
  have e : (2 : Int) ^ (63 + k) = 9223372036854775808 * 2 ^ k := by rw [Int.pow_add]; rfl
  rw [e]
  have h2 : (9223372036854775808 : Int) * 1 ≤ 9223372036854775808 * 2 ^ k := Int.mul_le_mul_of_nonneg_left h1 (by omega)
  have h3 : (1 : Int) * (9223372036854775808 * 2 ^ k) ≤ w * (9223372036854775808 * 2 ^ k) := Int.mul_le_mul_of_nonneg_right h (by omega)
  omega
theorem backV_mono (n : Nat) (w most : Int) (h : 1 ≤ w) (hm : 1 ≤ most) : backV n w most ≤ backV (n + 1) w most ∧ backV n w most ≤ most ∧ 1 ≤ backV n w most := by
  unfold backV
  have h1 := pow2_pos n
  have h2 : w * 1 ≤ w * 2 ^ n := Int.mul_le_mul_of_nonneg_left h1 (by omega)
  rw [Int.pow_succ, ← Int.mul_assoc]
  omega
end Go.Proofs.Ythhjioeipjnjmaa
