/- A slice of bytes that came in, as the walks take it. -/
import Derived.Test.YtgpadejkmpfafaaBase
namespace Go.Proofs.Ytgpadejkmpfafaa
open Go.RowKit

theorem bytes_of_row {w : World} {x : Addr} {len : Nat} {zs : List Int} (hl : len ≤ zs.length) (hm : len ≤ maxLen)
    (hcell : ∀ i, i < zs.length → w.cell? (x.add i) = some (.int .u8 (zs.getD i 0))) (hw : ∀ n ∈ zs, (Lit.int .u8 n).wf = true) :
    ∃ l : List UInt8, l.length = len ∧ RdB w (some x) l ∧ l.length ≤ maxLen := by
  have hwz : ∀ n ∈ zs, 0 ≤ n ∧ n ≤ 255 := fun n hn => by
    have := hw n hn
    simpa [Lit.wf, IntKind.min, IntKind.max, IntKind.signed, IntKind.bits] using this
  refine ⟨(zs.take len).map fun n => UInt8.ofNat n.toNat, by simp; omega, fun _ => ⟨x, rfl, fun j u hu => ?_⟩, by simp; omega⟩
  have hj : j < len := by
    have := (List.getElem?_eq_some_iff.1 hu).1
    simp at this; omega
  rw [hcell j (by omega)]
  simp only [List.getElem?_map, List.getElem?_take, hj, if_true] at hu
  have hjz : j < zs.length := by omega
  rw [List.getElem?_eq_getElem hjz] at hu
  simp only [Option.map_some, Option.some.injEq] at hu
  subst hu
  have hb := hwz zs[j] (List.getElem_mem hjz)
  simp only [List.getD, List.getElem?_eq_getElem hjz, Option.getD_some, B]
  congr 2
  simp
  omega
end Go.Proofs.Ytgpadejkmpfafaa
