/- The statement's parameter that came in: a graph and some nodes in one struct. -/
import Derived.Test.YtmehdlflhllhdaaOpenIss
import Derived.OpenShut
import Derived.ShutString
import Derived.Below
namespace Go.Proofs.Ytmehdlflhllhdaa
open Go.ChangeShapes Go.WideShapes Go.ChangeAt Go.RowKit

theorem cellsCa : Try.prog.cellsOf 40 = 3 := by kernel_rfl
theorem cellsIn : Try.prog.cellsOf 3 = 1 := by kernel_rfl
theorem cellsNe : Try.prog.cellsOf 22 = 1 := by kernel_rfl
theorem cellsLi : Try.prog.cellsOf 31 = 1 := by kernel_rfl
section
variable {H : Type} {enc : TypeId × Value → H} {w : World} {base : Nat} {spare : Nat → Bool} {held : Bool}
theorem trod_one_slice {t e : TypeId} {fuel : Nat} {cs : Array Value} {j : Nat} {y : DataW H × List MemPlace} (ht : Try.prog.underlying t = some (.slice e)) (h : DataW.trod enc Try.prog w base spare held fuel t ((cs.toList.drop j).take 1) = some y) :
    ∃ a n c, cs[j]? = some (.slice a n c) ∧ DataW.trod enc Try.prog w base spare held fuel t (Value.slice a n c).cells.toList = some y := by
  have key : ∀ v, (cs.toList.drop j).take 1 = [v] → cs[j]? = some v := fun v hv => by
    have e := congrArg (fun l : List Value => l[0]?) hv
    simpa [List.getElem?_take, List.getElem?_drop] using e
  rcases DataW.trod_slice ht h with ⟨hcs, _⟩ | ⟨a, n, c, _, _, _, _, hcs, _⟩
  · exact ⟨none, 0, 0, key _ hcs, by rw [hcs] at h; exact h⟩
  · exact ⟨some a, n, c, key _ hcs, by rw [hcs] at h; exact h⟩
set_option maxRecDepth 20000 in
theorem open_case {v : Value} {r : Go.Reach} {b0 fuel : Nat} {x : DataW H × List MemPlace} (hv : Value.okWide Try.prog w r b0 40 v) (h : DataW.trod enc Try.prog w base spare held fuel 40 v.cells.toList = some x) :
    ∃ (k : Int) (A : Option Addr) (len cap : Nat) (B : Option Addr) (nb cb : Nat), v = .agg #[.int .i64 k, .slice A len cap, .slice B nb cb] ∧
      (∃ l : List (List Int), l.length = len ∧ InR w A l ∧ l.length ≤ maxLen ∧ ∀ e ∈ l, e.length ≤ maxLen) ∧ (∃ l : List Int, l.length = nb ∧ RdI w B l ∧ l.length ≤ maxLen) := by
  obtain ⟨cs, rfl, hsz⟩ := okWide_struct Try.underlying40 hv
  rw [cellsCa] at hsz
  obtain ⟨xs, n, -, -, -, hxl, hf⟩ := DataW.trod_struct Try.underlying40 h
  simp only [Value.cells] at hf
  have h0 : DataW.trod enc Try.prog w base spare held n 3 ((cs.toList.drop 0).take (Try.prog.cellsOf 3)) = xs[0]? := hf 0 _ rfl
  have h1 : DataW.trod enc Try.prog w base spare held n 22 ((cs.toList.drop 1).take (Try.prog.cellsOf 22)) = xs[1]? := hf 1 _ rfl
  have h2 : DataW.trod enc Try.prog w base spare held n 31 ((cs.toList.drop 2).take (Try.prog.cellsOf 31)) = xs[2]? := hf 2 _ rfl
  have hx3 : xs.length = 3 := hxl
  rw [List.getElem?_eq_getElem (by omega)] at h0 h1 h2
  rw [cellsIn] at h0
  rw [cellsNe] at h1
  rw [cellsLi] at h2
  obtain ⟨k, e0⟩ : ∃ k : Int, cs[0]? = some (.int .i64 k) := by
    obtain ⟨z, hz1, _, _⟩ := DataW.trod_int Try.underlying3 h0
    have e := congrArg (fun l : List Value => l[0]?) hz1
    exact ⟨z, by simpa [List.getElem?_take, List.getElem?_drop] using e⟩
  obtain ⟨a1, n1, c1, e1, g1⟩ := trod_one_slice Try.underlying22 h1
  obtain ⟨a2, n2, c2, e2, g2⟩ := trod_one_slice Try.underlying31 h2
  obtain ⟨A', c', l', hv', hr', hm', _⟩ := trod_intsC (v := .slice a2 n2 c2) g2
  injection hv' with q1 q2 q3
  subst q1 q2 q3
  refine ⟨k, a1, n1, c1, a2, l'.length, c2, ?_, open_iss g1, ⟨l', rfl, hr', hm'⟩⟩
  congr 1
  apply Array.ext_getElem?
  intro i
  by_cases hi : i < 3
  · have : i = 0 ∨ i = 1 ∨ i = 2 := by omega
    rcases this with rfl | rfl | rfl
    · rw [e0]; rfl
    · rw [e1]; rfl
    · rw [e2]; rfl
  · rw [Array.getElem?_eq_none (by omega), Array.getElem?_eq_none (by simp; omega)]
end
end Go.Proofs.Ytmehdlflhllhdaa
