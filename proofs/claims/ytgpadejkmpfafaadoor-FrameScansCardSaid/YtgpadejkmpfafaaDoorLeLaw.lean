/- the plain law: a number's lowest bytes and the number that they make. No program in sight. -/
import Derived.Test.YtgpadejkmpfafaaDoorInCount
namespace Go.Proofs.YtgpadejkmpfafaaDoor
open Go.RowKit

theorem le_len (f N k : Nat) (h : N < 256 ^ k) : (le f N).length ≤ k := by
  induction f generalizing N k with
  | zero => simp [le]
  | succ f ih =>
    unfold le
    split
    · simp
    · rename_i h0
      cases k with
      | zero => simp at h; omega
      | succ k =>
        have := ih (N / 256) k (by rw [Nat.pow_succ] at h; exact Nat.div_lt_of_lt_mul (by rw [Nat.mul_comm]; exact h))
        simpa using this

theorem leV_cons (x : UInt8) (r : List UInt8) : leV (x :: r) = x.toNat + 256 * leV r := rfl

theorem leV_pos (zs : List UInt8) (h0 : zs ≠ []) (hl : zs.getLast? ≠ some 0) : 0 < leV zs := by
  induction zs with
  | nil => exact absurd rfl h0
  | cons x r ih =>
    rw [leV_cons]
    by_cases hr : r = []
    · subst hr
      have hx : x ≠ 0 := fun e => hl (by simp [e])
      have : x.toNat ≠ 0 := fun e => hx (UInt8.toNat_inj.1 (by simpa using e))
      omega
    · have := ih hr (by
        rw [List.getLast?_cons] at hl
        cases hg : r.getLast? with
        | none => exact fun e => by cases e
        | some v => rw [hg] at hl; simpa using hl)
      omega

theorem le_leV (f : Nat) (zs : List UInt8) (hf : zs.length ≤ f) (hl : zs.getLast? ≠ some 0) : le f (leV zs) = zs := by
  induction zs generalizing f with
  | nil => cases f <;> simp [le, leV]
  | cons x r ih =>
    obtain ⟨f, rfl⟩ : ∃ f', f = f' + 1 := ⟨f - 1, by simp at hf; omega⟩
    have hp := leV_pos (x :: r) (by simp) hl
    have hx := x.toNat_lt
    rw [leV_cons] at hp ⊢
    unfold le
    rw [if_neg (by omega)]
    have e1 : UInt8.ofNat (x.toNat + 256 * leV r) = x := by
      apply UInt8.toNat_inj.1
      simp
    have e2 : (x.toNat + 256 * leV r) / 256 = leV r := by omega
    rw [e1, e2, ih f (by simpa using hf)]
    by_cases hr : r = []
    · subst hr; simp
    · rw [List.getLast?_cons] at hl
      cases hg : r.getLast? with
      | none => exact fun e => by cases e
      | some v => rw [hg] at hl; simpa using hl

theorem leV_append (a b : List UInt8) : leV (a ++ b) = leV a + 256 ^ a.length * leV b := by
  induction a with
  | nil => simp [leV]
  | cons x r ih => rw [List.cons_append, leV_cons, ih, leV_cons, List.length_cons, Nat.pow_succ, Nat.mul_add, ← Nat.mul_assoc, Nat.mul_comm 256 (256 ^ r.length), Nat.add_assoc]

/-- a last byte that is none makes the number shorter -/
theorem le_short (f : Nat) (zs : List UInt8) (hl : zs.getLast? = some 0) : (le f (leV zs)).length < zs.length := by
  rcases List.eq_nil_or_concat zs with rfl | ⟨m, b, rfl⟩
  · cases hl
  · simp at hl
    subst hl
    have : leV (m ++ [0]) = leV m := by rw [leV_append]; simp [leV]
    rw [List.concat_eq_append, this]
    have := le_len f (leV m) m.length (leV_lt m)
    simp; omega
end Go.Proofs.YtgpadejkmpfafaaDoor
