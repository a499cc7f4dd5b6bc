/- The queue as the memory holds it: its heap, its map of parts. Drop: the walk. For every queue. -/
import Derived.Test.YthhjioeipjnjmaaQueS
import Derived.DeepKeys4
namespace Go.Proofs.Ythhjioeipjnjmaa
open Go.RowKit Go.WideMaps

theorem laid_out : laidOutB Try.prog = true := by kernel_rfl
theorem part_wide : (match Try.prog.underlying 26 with | some (.array _ _) | some (.struct _) => true | _ => false) = true := by kernel_rfl
theorem part_row : (26 : TypeId) < Try.prog.types.size := of_decide_eq_true (by kernel_rfl)
theorem part_at : Try.prog.keyTypeAt 3 26 = true := by kernel_rfl
set_option maxRecDepth 20000 in
theorem part_law : Go.Maps.Keyed Try.prog 26 := Go.Maps.Keyed.of_law (deep_law_laid laid_out (m := 3) (Nat.le_of_ble_eq_true rfl) part_row part_at part_wide)

/-- a part as the map knows it -/
def partV (a : ByteArray) (i : Int) : Value := .agg #[.string a, .int .i64 i]
theorem part_cells : Try.prog.cellsOf 26 = 2 := by kernel_rfl
theorem str_cells : Try.prog.cellsOf 9 = 1 := by kernel_rfl
theorem int_cells : Try.prog.cellsOf 3 = 1 := by kernel_rfl
theorem part_type : Try.prog.keyType 26 = true := by kernel_rfl
theorem part_lits (d : Nat) (a : ByteArray) (i : Int) (ha : a.size ≤ maxLen) (hi : (Lit.int .i64 i).wf = true) : Try.prog.keyLits (d + 2) 26 [.string a, .int .i64 i] = some [.string a.data.toList, .int .i64 i] := by
  simp [Program.keyLits, Try.underlying26, Try.underlying9, Try.underlying3, part_cells, str_cells, int_cells, ha, hi]
theorem wf_i64 {i : Int} (h1 : -9223372036854775808 ≤ i) (h2 : i ≤ 9223372036854775807) : (Lit.int .i64 i).wf = true := by
  simp [Lit.wf, IntKind.min, IntKind.max, IntKind.bits, IntKind.signed]; omega
theorem part_key (a : ByteArray) (i : Int) (ha : a.size ≤ maxLen) (h1 : -9223372036854775808 ≤ i) (h2 : i ≤ 9223372036854775807) : ∃ kl, keyOf Try.prog 26 (partV a i) = some kl := by
  obtain ⟨d, hd⟩ : ∃ d, Try.prog.types.size + 1 = d + 2 := ⟨Try.prog.types.size - 1, by kernel_rfl⟩
  have hl := part_lits d a i ha (wf_i64 h1 h2)
  have hf : (partV a i).formed Try.prog 26 = true := by
    simp [Value.formed, partV, Try.underlying26, part_cells]
  unfold keyOf
  rw [Try.underlying26]
  dsimp only
  rw [part_type, hf, hd]
  simp [partV, Value.cells, hl]
end Go.Proofs.Ythhjioeipjnjmaa
