/- A stretch that came in. -/
import Derived.Test.YtoabloeechphkaaDoorCronLaid
namespace Go.Proofs.YtoabloeechphkaaDoor
open Go.ChangeShapes Go.WideShapes Go.ChangeAt Go.RowKit

theorem cellsSt : Tryd.prog.cellsOf 51 = 3 := by kernel_rfl
section
variable {H : Type} {enc : TypeId × Value → H} {w : World} {base : Nat} {spare : Nat → Bool} {held : Bool}
set_option maxRecDepth 20000 in
theorem open_stretch {v : Value} {r : Reach} {b0 fuel : Nat} {x : DataW H × List MemPlace} (hv : Value.okWide Tryd.prog w r b0 51 v) (h : DataW.trod enc Tryd.prog w base spare held fuel 51 v.cells.toList = some x) :
    ∃ x y z : Int, v = .agg #[.int .i64 x, .int .i64 y, .int .i64 z] ∧ (-9223372036854775808 ≤ x ∧ x ≤ 9223372036854775807) ∧ (-9223372036854775808 ≤ y ∧ y ≤ 9223372036854775807) ∧ (-9223372036854775808 ≤ z ∧ z ≤ 9223372036854775807) := by
  obtain ⟨cs, rfl, hsz⟩ := okWide_struct Tryd.underlying51 hv
  rw [cellsSt] at hsz
  obtain ⟨xs, n, -, -, -, hxl, hf⟩ := DataW.trod_struct Tryd.underlying51 h
  simp only [Value.cells] at hf
  have h0 : DataW.trod enc Tryd.prog w base spare held n 3 ((cs.toList.drop 0).take (Tryd.prog.cellsOf 3)) = xs[0]? := hf 0 _ rfl
  have h1 : DataW.trod enc Tryd.prog w base spare held n 3 ((cs.toList.drop 1).take (Tryd.prog.cellsOf 3)) = xs[1]? := hf 1 _ rfl
  have h2 : DataW.trod enc Tryd.prog w base spare held n 3 ((cs.toList.drop 2).take (Tryd.prog.cellsOf 3)) = xs[2]? := hf 2 _ rfl
  have hx3 : xs.length = 3 := hxl
  rw [List.getElem?_eq_getElem (by omega), cellsI] at h0 h1 h2
  have key : ∀ (j : Nat) (y : DataW H × List MemPlace), DataW.trod enc Tryd.prog w base spare held n 3 ((cs.toList.drop j).take 1) = some y → ∃ q : Int, (-9223372036854775808 ≤ q ∧ q ≤ 9223372036854775807) ∧ cs[j]? = some (.int .i64 q) := fun j y hj => by
    obtain ⟨z, hz1, -, hwf⟩ := DataW.trod_int Tryd.underlying3 hj
    have e := congrArg (fun l : List Value => l[0]?) hz1
    refine ⟨z, by simpa [Lit.wf, IntKind.min, IntKind.max, IntKind.signed, IntKind.bits] using hwf, ?_⟩
    simpa [List.getElem?_take, List.getElem?_drop] using e
  obtain ⟨q0, l0, e0⟩ := key 0 _ h0
  obtain ⟨q1, l1, e1⟩ := key 1 _ h1
  obtain ⟨q2, l2, e2⟩ := key 2 _ h2
  refine ⟨q0, q1, q2, ?_, l0, l1, l2⟩
  congr 1
  apply Array.ext_getElem?
  intro i
  by_cases hi : i < 3
  · have : i = 0 ∨ i = 1 ∨ i = 2 := by omega
    rcases this with rfl | rfl | rfl
    · rw [e0]; rfl
    · rw [e1]; rfl
    · rw [e2]; rfl
  · rw [Array.getElem?_eq_none (by omega), Array.getElem?_eq_none (by simp; omega)]
end
end Go.Proofs.YtoabloeechphkaaDoor
