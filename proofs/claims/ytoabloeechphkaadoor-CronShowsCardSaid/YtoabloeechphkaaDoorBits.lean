/- Sets of numbers below 64 as bits. No program. -/
import Derived.Test.YtoabloeechphkaaDoorBase
import Derived.Laws.BitsAllLaws
namespace Go.Proofs.YtoabloeechphkaaDoor
open Go.RowKit

/-- the numbers below k that a test lets by, as bits -/
def setP (p : Nat → Bool) : Nat → Nat
  | 0 => 0
  | k + 1 => if p k then setP p k ||| 2 ^ k else setP p k
theorem setP_bit (p : Nat → Bool) (k j : Nat) : (setP p k).testBit j = (decide (j < k) && p j) := by
  induction k with
  | zero => simp [setP]
  | succ k ih =>
    unfold setP
    by_cases hk : p k = true
    · rw [if_pos hk, Nat.testBit_or, ih, Nat.testBit_two_pow]
      by_cases hj : k = j
      · subst hj; simp [hk]
      · have : decide (j < k) = decide (j < k + 1) := decide_eq_decide.2 (by omega)
        simp [hj, this]
    · rw [if_neg hk, ih]
      by_cases hj : k = j
      · subst hj; simp [hk]
      · have : decide (j < k) = decide (j < k + 1) := decide_eq_decide.2 (by omega)
        simp [this]
theorem setP_lt (p : Nat → Bool) (k : Nat) : setP p k < 2 ^ k := by
  induction k with
  | zero => simp [setP]
  | succ k ih =>
    unfold setP
    have h2 : (2 : Nat) ^ k < 2 ^ (k + 1) := Nat.pow_lt_pow_right (by omega) (by omega)
    split
    · exact Nat.or_lt_two_pow (by omega) h2
    · omega
theorem setP_lt64 (p : Nat → Bool) (k : Nat) (h : k ≤ 64) : setP p k < 18446744073709551616 :=
  Nat.lt_of_lt_of_le (setP_lt p k) (show 2 ^ k ≤ 2 ^ 64 from Nat.pow_le_pow_right (by omega) h)
theorem bit_lt {s j : Nat} (hs : s < 18446744073709551616) (hj : 64 ≤ j) : s.testBit j = false :=
  Nat.testBit_lt_two_pow (Nat.lt_of_lt_of_le hs (show 2 ^ 64 ≤ 2 ^ j from Nat.pow_le_pow_right (by omega) hj))
theorem bits_ext {s t : Nat} (hs : s < 18446744073709551616) (ht : t < 18446744073709551616) (h : ∀ j, j < 64 → s.testBit j = t.testBit j) : s = t :=
  Nat.eq_of_testBit_eq fun j => by
    rcases Nat.lt_or_ge j 64 with hj | hj
    · exact h j hj
    · rw [bit_lt hs hj, bit_lt ht hj]
theorem setP_ext {p q : Nat → Bool} {k l : Nat} (hk : k ≤ 64) (hl : l ≤ 64) (h : ∀ j, j < 64 → (decide (j < k) && p j) = (decide (j < l) && q j)) : setP p k = setP q l :=
  bits_ext (setP_lt64 p k hk) (setP_lt64 q l hl) fun j hj => by rw [setP_bit, setP_bit]; exact h j hj
/-- is a number in a set? as the program asks -/
theorem bit_ask (s n : Nat) (hs : s < 18446744073709551616) : bits .and .u64 ((s / 2 ^ n : Nat) : Int) 1 = (((s.testBit n).toNat : Nat) : Int) := by
  have h := u64_and_nat (s / 2 ^ n) 1 (Nat.lt_of_le_of_lt (Nat.div_le_self _ _) hs) (by omega)
  have e : s / 2 ^ n &&& 1 = (s.testBit n).toNat := by
    rw [Nat.and_one_is_mod, Nat.testBit_eq_decide_div_mod_eq]
    have := Nat.mod_two_eq_zero_or_one (s / 2 ^ n)
    rcases this with h | h <;> simp [h]
  rw [← e]
  exact h

/-- all numbers from one to another, with a step -/
def rowP (f t s j : Nat) : Bool := decide (f ≤ j) && (decide (j ≤ t) && decide ((j - f) % s = 0))
def rowV (f t s : Nat) : Nat := setP (rowP f t s) 64
theorem rowV_lt (f t s : Nat) : rowV f t s < 18446744073709551616 := setP_lt64 _ _ (by omega)
theorem rowV_bit (f t s j : Nat) (hj : j < 64) : (rowV f t s).testBit j = rowP f t s j := by
  unfold rowV; rw [setP_bit]; simp [hj]
theorem row_step (f t s k : Nat) (hs : 0 < s) (h : f + k * s ≤ t) (ht : t < 64) : setP (rowP f t s) (f + k * s) ||| 2 ^ (f + k * s) = setP (rowP f t s) (f + (k + 1) * s) := by
  have e : (k + 1) * s = k * s + s := by rw [Nat.add_mul]; omega
  apply Nat.eq_of_testBit_eq
  intro j
  rw [Nat.testBit_or, setP_bit, setP_bit, Nat.testBit_two_pow, Bool.eq_iff_iff]
  simp only [rowP, Bool.or_eq_true, Bool.and_eq_true, decide_eq_true_eq]
  constructor
  · rintro (⟨h1, h2, h3, h4⟩ | rfl)
    · exact ⟨by omega, h2, h3, h4⟩
    · refine ⟨by omega, by omega, h, ?_⟩
      rw [Nat.add_sub_cancel_left]; exact Nat.mul_mod_left _ _
  · rintro ⟨h1, h2, h3, h4⟩
    by_cases hj : j < f + k * s
    · exact .inl ⟨hj, h2, h3, h4⟩
    · right
      have hm : (j - f) = (j - f - k * s) + s * k := by rw [Nat.mul_comm s k]; omega
      rw [hm, Nat.add_mul_mod_self_left, Nat.mod_eq_of_lt (by omega)] at h4
      omega
theorem row_end (f t s n : Nat) (h : t < n) (ht : t < 64) : setP (rowP f t s) n = rowV f t s := by
  apply Nat.eq_of_testBit_eq
  intro j
  unfold rowV
  rw [setP_bit, setP_bit, Bool.eq_iff_iff]
  simp only [rowP, Bool.and_eq_true, decide_eq_true_eq]
  constructor
  · rintro ⟨_, h2, h3, h4⟩; exact ⟨by omega, h2, h3, h4⟩
  · rintro ⟨_, h2, h3, h4⟩; exact ⟨by omega, h2, h3, h4⟩
theorem row_start (f t s : Nat) : setP (rowP f t s) f = 0 := by
  apply Nat.eq_of_testBit_eq
  intro j
  rw [setP_bit]
  simp only [rowP, Nat.zero_testBit]
  by_cases h : j < f
  · have : decide (f ≤ j) = false := by simpa using h
    simp [this]
  · simp [h]
end Go.Proofs.YtoabloeechphkaaDoor
