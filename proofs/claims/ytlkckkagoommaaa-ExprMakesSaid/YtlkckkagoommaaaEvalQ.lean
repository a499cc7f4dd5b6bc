/- A right form's operations, one by one. No walk. -/
import Derived.Test.YtlkckkagoommaaaEvalP
namespace Go.Proofs.Ytlkckkagoommaaa
open Go.RowKit

theorem evalX_at (cs : List CD) (row : List VD) (n : Nat) (e : TX (n + 1)) (h1 : e.1.kind ≠ 1) (h2 : e.1.kind ≠ 2) (h0 : 0 < e.2.length) : evalX cs row (n + 1) e =
    if (evalX cs row n e.2[0]).2 ≠ 0 then (zeroV, (evalX cs row n e.2[0]).2)
    else match lazyX (evalX cs row n) e.1 e.2 (evalX cs row n e.2[0]).1 with
      | some z => z
      | none => if h : 1 < e.2.length then (if (evalX cs row n e.2[1]).2 ≠ 0 then (zeroV, (evalX cs row n e.2[1]).2) else bothV e.1 (evalX cs row n e.2[0]).1 (evalX cs row n e.2[1]).1) else aloneV e.1 (evalX cs row n e.2[0]).1 := by
  rw [evalX_succ, if_neg h1, if_neg h2]
  revert h0
  generalize e.2 = args
  intro h0
  cases args with
  | nil => exact absurd h0 (by simp)
  | cons a r =>
    simp only [List.getElem_cons_zero]
    split
    · rfl
    · rcases hl : lazyX (evalX cs row n) e.1 (a :: r) (evalX cs row n a).1 with _ | z
      · cases r with
        | nil => rfl
        | cons b r => rfl
      · rfl
theorem S_ne {a b : List UInt8} (h : a ≠ b) : S a ≠ S b := fun q => h (S_inj q)
/-- which Arg is asked for is there -/
theorem lazy_in {d : ND} {n : Nat} (h : formV d n = true) (h1 : d.kind ≠ 1) (h2 : d.kind ≠ 2) (v : VD) (q : Nat) (hq : lazyV d v = some (.inr q)) : q < n := by
  have w1 : S [45] ≠ wAnd := S_ne (by decide)
  have w2 : S [45] ≠ wOr := S_ne (by decide)
  have w3 : wNot ≠ wAnd := S_ne (by decide)
  have w4 : wNot ≠ wOr := S_ne (by decide)
  have w5 : S [] ≠ wEither := S_ne (by decide)
  have w6 : S [] ≠ wIf := S_ne (by decide)
  have w7 : S [] ≠ wAnd := S_ne (by decide)
  have w8 : S [] ≠ wOr := S_ne (by decide)
  have hq2 : q ≤ 2 := by
    unfold lazyV at hq
    (repeat' split at hq) <;> simp at hq <;> (try omega)
  have hq1 : q = 2 → d.op ≠ wAnd ∧ d.op ≠ wOr ∧ d.name = wIf := by
    intro h2
    unfold lazyV at hq
    split at hq
    · (split at hq <;> simp at hq <;> omega)
    · split at hq
      · (split at hq <;> simp at hq <;> omega)
      · split at hq
        · (split at hq <;> simp at hq <;> omega)
        · split at hq
          · exact ⟨‹_›, ‹_›, ‹_›⟩
          · cases hq
  have hq0 : q ≠ 0 := by
    intro h0
    subst h0
    unfold lazyV at hq
    (repeat' split at hq) <;> simp at hq
  rcases shape h h1 h2 with ⟨_, hn, hnm, ho⟩ | ⟨_, hn, hnm, ho⟩ | ⟨_, ho, hh⟩
  · exfalso
    unfold lazyV at hq
    rcases ho with ho | ho <;> rw [ho, hnm] at hq
    · rw [if_neg w1, if_neg w2, if_neg w5, if_neg w6] at hq; cases hq
    · rw [if_neg w3, if_neg w4, if_neg w5, if_neg w6] at hq; cases hq
  · rcases Nat.lt_or_ge q 2 with h | h
    · omega
    · have := (hq1 (by omega)).2.2
      rw [hnm] at this; exact absurd this w6
  · rcases hh with ⟨hn, hm⟩ | ⟨hn, hm⟩ | ⟨hn, hm⟩
    · exfalso
      unfold lazyV at hq
      rw [ho, if_neg w7, if_neg w8] at hq
      rcases hm with hm | hm | hm <;> rw [hm] at hq <;> simp [wEither, wIf, wLen, wAbs, wIsnull, S_eq] at hq
    · rcases Nat.lt_or_ge q 2 with h | h
      · omega
      · have := (hq1 (by omega)).2.2
        rw [this] at hm
        rcases hm with hm | hm <;> exact absurd hm (S_ne (by decide))
    · omega
/-- what asks for two -/
theorem both_in {d : ND} {n : Nat} (h : formV d n = true) (h1 : d.kind ≠ 1) (h2 : d.kind ≠ 2) (v : VD) (hn : n ≠ 1) (hq : lazyV d v = none) :
    d.name = wCat ∨ (d.name ≠ wCat ∧ 1 ≤ cmpI d.op ∧ cmpI d.op ≤ 6) ∨ (d.name ≠ wCat ∧ cmpI d.op ≤ 0 ∧ ∃ o : UInt8, d.op = S [o] ∧ ((o.toNat : Int) = 43 ∨ (o.toNat : Int) = 45 ∨ (o.toNat : Int) = 42 ∨ (o.toNat : Int) = 47 ∨ (o.toNat : Int) = 37)) := by
  have c0 : S [] ≠ wCat := S_ne (by decide)
  rcases shape h h1 h2 with ⟨_, hn', _⟩ | ⟨_, _, hnm, ho⟩ | ⟨_, ho, hh⟩
  · exact absurd hn' hn
  · right
    rcases ho with ho | ho | ho | ho | ho | ho | ho | ho | ho | ho | ho | ho | ho
    · right; rw [ho, hnm]; exact ⟨c0, by decide, 43, rfl, by decide⟩
    · right; rw [ho, hnm]; exact ⟨c0, by decide, 45, rfl, by decide⟩
    · right; rw [ho, hnm]; exact ⟨c0, by decide, 42, rfl, by decide⟩
    · right; rw [ho, hnm]; exact ⟨c0, by decide, 47, rfl, by decide⟩
    · right; rw [ho, hnm]; exact ⟨c0, by decide, 37, rfl, by decide⟩
    · left; rw [ho, hnm]; exact ⟨c0, by decide, by decide⟩
    · left; rw [ho, hnm]; exact ⟨c0, by decide, by decide⟩
    · left; rw [ho, hnm]; exact ⟨c0, by decide, by decide⟩
    · left; rw [ho, hnm]; exact ⟨c0, by decide, by decide⟩
    · left; rw [ho, hnm]; exact ⟨c0, by decide, by decide⟩
    · left; rw [ho, hnm]; exact ⟨c0, by decide, by decide⟩
    · unfold lazyV at hq; rw [if_pos ho] at hq; split at hq <;> cases hq
    · unfold lazyV at hq; rw [ho] at hq; simp [wOr, wAnd, S_eq] at hq; split at hq <;> cases hq
  · rcases hh with ⟨hn', _⟩ | ⟨_, hm⟩ | ⟨_, hm⟩
    · exact absurd hn' hn
    · rcases hm with hm | hm
      · exact .inl hm
      · unfold lazyV at hq
        rw [ho, hm] at hq; simp [wAnd, wOr, S_eq] at hq; split at hq <;> cases hq
    · unfold lazyV at hq
      rw [ho, hm] at hq; simp [wAnd, wOr, wEither, wIf, S_eq] at hq
theorem form_args {d : ND} {n : Nat} (h : formV d n = true) (h1 : d.kind ≠ 1) (h2 : d.kind ≠ 2) : 0 < n := by
  rcases shape h h1 h2 with ⟨_, hn, _⟩ | ⟨_, hn, _⟩ | ⟨_, _, ⟨hn, _⟩ | ⟨hn, _⟩ | ⟨hn, _⟩⟩ <;> omega
end Go.Proofs.Ytlkckkagoommaaa
