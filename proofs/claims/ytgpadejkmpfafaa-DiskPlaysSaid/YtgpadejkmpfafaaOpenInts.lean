/- A slice of ints that came in, as the walks take it. -/
import Derived.Test.YtgpadejkmpfafaaDiskCrash
namespace Go.Proofs.Ytgpadejkmpfafaa
open Go.RowKit

theorem ints_of_row {w : World} {x : Addr} {len : Nat} {zs : List Int} (hl : len ≤ zs.length) (hm : len ≤ maxLen)
    (hcell : ∀ i, i < zs.length → w.cell? (x.add i) = some (.int .i64 (zs.getD i 0))) (hw : ∀ n ∈ zs, (Lit.int .i64 n).wf = true) :
    ∃ l : List Int, l.length = len ∧ RdI w (some x) l ∧ l.length ≤ maxLen ∧ ∀ k ∈ l, -9223372036854775808 ≤ k ∧ k ≤ 9223372036854775807 := by
  refine ⟨zs.take len, by simp; omega, fun _ => ⟨x, rfl, fun j u hu => ?_⟩, by simp; omega, fun k hk => ?_⟩
  · have hj : j < len := by
      have := (List.getElem?_eq_some_iff.1 hu).1
      simp at this; omega
    rw [hcell j (by omega)]
    simp only [List.getElem?_map, List.getElem?_take, hj, if_true] at hu
    have hjz : j < zs.length := by omega
    rw [List.getElem?_eq_getElem hjz] at hu
    simp only [Option.map_some, Option.some.injEq] at hu
    subst hu
    simp [List.getD, List.getElem?_eq_getElem hjz]
  · have := hw k (List.mem_of_mem_take hk)
    simpa [Lit.wf, IntKind.min, IntKind.max, IntKind.signed, IntKind.bits] using this
end Go.Proofs.Ytgpadejkmpfafaa
