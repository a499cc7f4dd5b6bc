/- A slice of slices of bytes that came in, as the walks take it. -/
import Derived.Test.YtgpadejkmpfafaaDoorFrames
import Derived.Test.YtgpadejkmpfafaaDoorOpenBytes
import Derived.ProofKit
import Derived.Deep.Slices
import Derived.Deep.Fields
import Derived.ChangeSame
namespace Go.Proofs.YtgpadejkmpfafaaDoor
open Go.RowKit Go.ChangeShapes Go.WideShapes Go.Deep

theorem trod_bytesC {H : Type} {enc : TypeId × Value → H} {w : World} {base : Nat} {spare : Nat → Bool} {held : Bool} {n : Nat} {v : Value} {y : DataW H × List MemPlace}
    (h : DataW.trod enc Tryd.prog w base spare held n 22 [v] = some y) : ∃ A c l, v = .slice A (l.length) c ∧ RdB w A l ∧ l.length ≤ maxLen ∧ l.length ≤ c := by
  rcases open_ints Tryd.underlying22 Tryd.underlying5 (by kernel_rfl) h with ⟨hcs, _⟩ | ⟨x, l, c, zs, hcs, _, hl, hm, hz, _, hcell, hwz⟩
  · simp at hcs
    exact ⟨none, 0, [], hcs, Rd.nil _ _, Nat.zero_le _, Nat.zero_le _⟩
  · simp at hcs
    obtain ⟨b, e, h1, h2⟩ := bytes_of_row (by rw [hz]; split <;> omega) (by omega) hcell hwz
    exact ⟨_, c, b, by rw [e]; exact hcs, h1, h2, by rw [e]; exact hl⟩

theorem open_bs {H : Type} {enc : TypeId × Value → H} {w : World} {base : Nat} {spare : Nat → Bool} {held : Bool} {fuel : Nat} {A : Option Addr} {len cap : Nat} {y : DataW H × List MemPlace}
    (h : DataW.trod enc Tryd.prog w base spare held fuel 47 [.slice A len cap] = some y) : ∃ l : List (List UInt8), l.length = len ∧ BsAt w A l ∧ l.length ≤ maxLen ∧ ∀ e ∈ l, e.length ≤ maxLen := by
  rcases open_slice Tryd.underlying47 h with ⟨hcs, _⟩ | ⟨a, l, c, m, n, D, Pl, hcs, hb, hl, hm, hmm, hx, hi⟩
  · simp at hcs
    obtain ⟨rfl, rfl, rfl⟩ := hcs
    exact ⟨[], rfl, fun h => by simp at h, Nat.zero_le _, by simp⟩
  · simp at hcs
    obtain ⟨rfl, rfl, rfl⟩ := hcs
    have hlm : len ≤ m := by rw [hmm]; split <;> omega
    have hC : Tryd.prog.cellsOf 22 = 1 := by kernel_rfl
    have key : ∀ i, i < len → ∃ e : List UInt8, (∃ A' c', w.cell? (a.add i) = some (.slice A' e.length c') ∧ RdB w A' e ∧ e.length ≤ c') ∧ e.length ≤ maxLen := by
      intro i hil
      obtain ⟨cs', hc, ht'⟩ := hi i (by omega)
      rw [hC] at hc
      obtain ⟨_, hcl, hat⟩ := World.cells?_some hc
      have h0 := hat 0 (by omega)
      match cs', hcl, ht', h0 with
      | [v], _, ht', h0 =>
        obtain ⟨A', c', l', rfl, hr, hm', hc'⟩ := trod_bytesC ht'
        refine ⟨l', ⟨A', c', ?_, hr, hc'⟩, hm'⟩
        rw [add_of_add, Nat.mul_one, Nat.add_zero] at h0
        exact h0
    refine ⟨(List.range len).attach.map fun i => (key i.1 (by simpa using i.2)).choose, by simp, fun _ => ⟨a, rfl, fun j hj => ?_⟩, by simp; omega, fun e he => ?_⟩
    · have hj' : j < len := by simpa using hj
      have := (key j hj').choose_spec.1
      simpa using this
    · simp only [List.mem_map, List.mem_attach, true_and, Subtype.exists] at he
      obtain ⟨i, hi', rfl⟩ := he
      exact (key i (by simpa using hi')).choose_spec.2
end Go.Proofs.YtgpadejkmpfafaaDoor
