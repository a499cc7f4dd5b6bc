/- A slice of slices of bytes that came in, as the walks take it. -/
import Derived.Test.YtgpadejkmpfafaaBss
import Derived.Test.YtgpadejkmpfafaaOpenOps
namespace Go.Proofs.Ytgpadejkmpfafaa
open Go.RowKit Go.ChangeShapes Go.WideShapes Go.Deep

theorem open_bss {H : Type} {enc : TypeId × Value → H} {w : World} {base : Nat} {spare : Nat → Bool} {held : Bool} {fuel : Nat} {A : Option Addr} {len cap : Nat} {y : DataW H × List MemPlace}
    (h : DataW.trod enc Try.prog w base spare held fuel 22 [.slice A len cap] = some y) : ∃ l : List BS, l.length = len ∧ BssRd w A l ∧ BssIn w l ∧ l.length ≤ maxLen ∧ ∀ e ∈ l, e.l.length ≤ maxLen := by
  rcases open_slice Try.underlying22 h with ⟨hcs, _⟩ | ⟨a, l, c, m, n, D, Pl, hcs, hb, hl, hm, hmm, hx, hi⟩
  · simp at hcs
    obtain ⟨rfl, rfl, rfl⟩ := hcs
    exact ⟨[], rfl, Rd.nil _ _, fun e he => absurd he (by simp), Nat.zero_le _, by simp⟩
  · simp at hcs
    obtain ⟨rfl, rfl, rfl⟩ := hcs
    have hlm : len ≤ m := by rw [hmm]; split <;> omega
    have hC : Try.prog.cellsOf 26 = 1 := by kernel_rfl
    have key : ∀ i, i < len → ∃ e : BS, w.cell? (a.add i) = some e.v ∧ RdB w e.A e.l ∧ e.l.length ≤ maxLen := by
      intro i hil
      obtain ⟨cs', hc, ht'⟩ := hi i (by omega)
      rw [hC] at hc
      obtain ⟨_, hcl, hat⟩ := World.cells?_some hc
      have h0 := hat 0 (by omega)
      match cs', hcl, ht', h0 with
      | [v], _, ht', h0 =>
        obtain ⟨A', c', l', rfl, hr, hm'⟩ := trod_bytes ht'
        refine ⟨⟨A', c', l'⟩, ?_, hr, hm'⟩
        rw [add_of_add, Nat.mul_one, Nat.add_zero] at h0
        exact h0
    refine ⟨(List.range len).attach.map fun i => (key i.1 (by simpa using i.2)).choose, by simp, fun _ => ⟨a, rfl, fun j u hu => ?_⟩, fun e he => ?_, by simp; omega, fun e he => ?_⟩
    · have hj : j < len := by
        have := (List.getElem?_eq_some_iff.1 hu).1
        simpa using this
      rw [(key j hj).choose_spec.1]
      simp [hj] at hu
      rw [← hu]
    · simp only [List.mem_map, List.mem_attach, true_and, Subtype.exists] at he
      obtain ⟨i, hi', rfl⟩ := he
      exact (key i (by simpa using hi')).choose_spec.2.1
    · simp only [List.mem_map, List.mem_attach, true_and, Subtype.exists] at he
      obtain ⟨i, hi', rfl⟩ := he
      exact (key i (by simpa using hi')).choose_spec.2.2
end Go.Proofs.Ytgpadejkmpfafaa
