/- A slice of slices of ints, and a slice of ints, that came in, as the walks take them. -/
import Derived.Test.YtmehdlflhllhdaaGrM
import Derived.ProofKit
import Derived.Deep.Slices
import Derived.Deep.Fields
import Derived.ChangeSame
namespace Go.Proofs.Ytmehdlflhllhdaa
open Go.RowKit Go.ChangeShapes Go.WideShapes Go.Deep

theorem trod_intsC {H : Type} {enc : TypeId × Value → H} {w : World} {base : Nat} {spare : Nat → Bool} {held : Bool} {n : Nat} {v : Value} {y : DataW H × List MemPlace}
    (h : DataW.trod enc Try.prog w base spare held n 31 [v] = some y) : ∃ A c l, v = .slice A (l.length) c ∧ RdI w A l ∧ l.length ≤ maxLen ∧ l.length ≤ c := by
  rcases open_ints Try.underlying31 Try.underlying3 (by kernel_rfl) h with ⟨hcs, _⟩ | ⟨x, l, c, zs, hcs, hx, hl, hm, hz, _, hcell, hwz⟩
  · simp at hcs
    exact ⟨none, 0, [], hcs, Rd.nil _ _, Nat.zero_le _, Nat.zero_le _⟩
  · simp at hcs
    obtain ⟨b, e, h1, h2, _⟩ := ints_of_row (by rw [hz]; split <;> omega) (by omega) hcell hwz
    refine ⟨_, c, b, by rw [e]; exact hcs, h1, h2, by rw [e]; exact hl⟩

theorem open_iss {H : Type} {enc : TypeId × Value → H} {w : World} {base : Nat} {spare : Nat → Bool} {held : Bool} {fuel : Nat} {A : Option Addr} {len cap : Nat} {y : DataW H × List MemPlace}
    (h : DataW.trod enc Try.prog w base spare held fuel 22 [.slice A len cap] = some y) : ∃ l : List (List Int), l.length = len ∧ InR w A l ∧ l.length ≤ maxLen ∧ ∀ e ∈ l, e.length ≤ maxLen := by
  rcases open_slice Try.underlying22 h with ⟨hcs, _⟩ | ⟨a, l, c, m, n, D, Pl, hcs, hb, hl, hm, hmm, hx, hi⟩
  · simp at hcs
    obtain ⟨rfl, rfl, rfl⟩ := hcs
    exact ⟨[], rfl, ⟨[], ⟨rfl, fun i h => absurd h (by simp)⟩, Rd.nil _ _⟩, Nat.zero_le _, by simp⟩
  · simp at hcs
    obtain ⟨rfl, rfl, rfl⟩ := hcs
    have hlm : len ≤ m := by rw [hmm]; split <;> omega
    have hC : Try.prog.cellsOf 31 = 1 := by kernel_rfl
    have key : ∀ i, i < len → ∃ e : List Int × SL, w.cell? (a.add i) = some e.2.val ∧ e.2.n = e.1.length ∧ e.2.n ≤ e.2.c ∧ RdI w e.2.A e.1 ∧ e.1.length ≤ maxLen := by
      intro i hil
      obtain ⟨cs', hc, ht'⟩ := hi i (by omega)
      rw [hC] at hc
      obtain ⟨_, hcl, hat⟩ := World.cells?_some hc
      have h0 := hat 0 (by omega)
      match cs', hcl, ht', h0 with
      | [v], _, ht', h0 =>
        obtain ⟨A', c', l', rfl, hr, hm', hc'⟩ := trod_intsC ht'
        refine ⟨(l', ⟨A', l'.length, c'⟩), ?_, rfl, hc', hr, hm'⟩
        rw [add_of_add, Nat.mul_one, Nat.add_zero] at h0
        exact h0
    refine ⟨(List.range len).attach.map fun i => (key i.1 (by simpa using i.2)).choose.1, by simp, ⟨(List.range len).attach.map fun i => (key i.1 (by simpa using i.2)).choose.2, ⟨by simp, fun j h1 h2 => ?_⟩, fun _ => ⟨a, rfl, fun j u hu => ?_⟩⟩, by simp; omega, fun e he => ?_⟩
    · have hj : j < len := by simpa using h1
      have := (key j hj).choose_spec.2
      simpa using ⟨this.1, this.2.1, this.2.2.1⟩
    · have hj : j < len := by
        have := (List.getElem?_eq_some_iff.1 hu).1
        simpa using this
      rw [(key j hj).choose_spec.1]
      simp [hj] at hu
      rw [← hu]
    · simp only [List.mem_map, List.mem_attach, true_and, Subtype.exists] at he
      obtain ⟨i, hi', rfl⟩ := he
      exact (key i (by simpa using hi')).choose_spec.2.2.2.2
end Go.Proofs.Ytmehdlflhllhdaa
