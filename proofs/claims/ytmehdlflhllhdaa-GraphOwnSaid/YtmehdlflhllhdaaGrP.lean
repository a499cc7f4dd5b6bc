/- Graphs, plainly: the table of who lies below whom (step by step, in place). No program in sight. -/
namespace Go.Proofs.Ytmehdlflhllhdaa

/-- the table behind m steps -/
def tabP (t : Nat → Nat → Bool) : Nat → Nat → Nat → Bool
  | 0 => t
  | m + 1 => fun a b => tabP t m a b || (tabP t m a m && tabP t m m b)

theorem tabP_row (t : Nat → Nat → Bool) (m b : Nat) : tabP t (m + 1) m b = tabP t m m b := by
  simp only [tabP]; cases tabP t m m b <;> simp
theorem tabP_col (t : Nat → Nat → Bool) (m a : Nat) : tabP t (m + 1) a m = tabP t m a m := by
  simp only [tabP]; cases tabP t m a m <;> simp

/-- from a one comes to b, by at least one step -/
inductive Way (t : Nat → Nat → Bool) : Nat → Nat → Prop
  | one {a b : Nat} (h : t a b = true) : Way t a b
  | more {a b c : Nat} (h : t a b = true) (w : Way t b c) : Way t a c

theorem Way.trans {t : Nat → Nat → Bool} {a b c : Nat} (h : Way t a b) (g : Way t b c) : Way t a c := by
  induction h with
  | one h => exact .more h g
  | more h _ ih => exact .more h (ih g)

theorem Way.of_tab (t : Nat → Nat → Bool) : ∀ m a b, tabP t m a b = true → Way t a b
  | 0, _, _, h => .one h
  | m + 1, a, b, h => by
    simp only [tabP, Bool.or_eq_true, Bool.and_eq_true] at h
    rcases h with h | ⟨h1, h2⟩
    · exact Way.of_tab t m a b h
    · exact (Way.of_tab t m a m h1).trans (Way.of_tab t m m b h2)

theorem tabP_up (t : Nat → Nat → Bool) {m M : Nat} (h : m ≤ M) {a b : Nat} (g : tabP t m a b = true) : tabP t M a b = true := by
  induction h with
  | refl => exact g
  | step _ ih => simp only [tabP, Bool.or_eq_true]; exact .inl ih

theorem tabP_trans (t : Nat → Nat → Bool) : ∀ M a b c, c < M → tabP t M a c = true → tabP t M c b = true → tabP t M a b = true
  | 0, _, _, _, h, _, _ => absurd h (Nat.not_lt_zero _)
  | M + 1, a, b, c, hc, h1, h2 => by
    have ih := tabP_trans t M
    by_cases e : c = M
    · subst e
      rw [tabP_col] at h1; rw [tabP_row] at h2
      simp [tabP, h1, h2]
    · have hc' : c < M := by omega
      simp only [tabP, Bool.or_eq_true, Bool.and_eq_true] at h1 h2 ⊢
      rcases h1 with h1 | ⟨h1, h3⟩ <;> rcases h2 with h2 | ⟨h2, h4⟩
      · exact .inl (ih _ _ _ hc' h1 h2)
      · exact .inr ⟨ih _ _ _ hc' h1 h2, h4⟩
      · exact .inr ⟨h1, ih _ _ _ hc' h3 h2⟩
      · exact .inr ⟨h1, h4⟩

/-- behind n steps the table says just where one comes -/
theorem tabP_way (t : Nat → Nat → Bool) (n : Nat) (ht : ∀ a b, t a b = true → b < n) (a b : Nat) : tabP t n a b = true ↔ Way t a b := by
  refine ⟨Way.of_tab t n a b, fun w => ?_⟩
  induction w with
  | one h => exact tabP_up t (Nat.zero_le _) h
  | more h _ ih => exact tabP_trans t n _ _ _ (ht _ _ h) (tabP_up t (Nat.zero_le _) h) ih

end Go.Proofs.Ytmehdlflhllhdaa
