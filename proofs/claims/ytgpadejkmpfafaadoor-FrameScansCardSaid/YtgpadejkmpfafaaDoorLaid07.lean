/- The table of frame.Sum as the rows list it: what it holds when a call begins; a world that holds it. -/
import Derived.Test.YtgpadejkmpfafaaDoorSum
import Derived.Test.YtgpadejkmpfafaaDoorRows
import Derived.Deep.DeepHandedRow
import Derived.Lib.LaidTab
namespace Go.Proofs.YtgpadejkmpfafaaDoor
open Go.ChangeShapes Go.WideShapes Go.ChangeAt Go.RowKit

theorem gTab : Tryd.prog.globalNamed "bywash/frame.half" = some 0 := by kernel_rfl
theorem gTabType : (Tryd.prog.globals[0]?).map (·.type) = some 72 := by kernel_rfl
theorem cellsTab : Tryd.prog.cellsOf 72 = 16 := by kernel_rfl
theorem cellsU32 : Tryd.prog.cellsOf 24 = 1 := by kernel_rfl
theorem half_at {W : World} (h : laidMetH Tryd.prog [("bywash/frame.half", Rows.laid_bywash_frame_half)] W) : HalfAt W := by
  have hT : Lib.TabIs Tryd.prog W "bywash/frame.half" .u32 (half.map fun (n : Nat) => (n : Int)) :=
    Lib.tabIs_of_head (rest := []) gTab gTabType Tryd.underlying72 Tryd.underlying24 cellsU32 cellsTab h
  intro j hj
  have := hT.cell gTab j (by simpa [half] using hj)
  rw [this]
  congr 2
  have hjl : j < half.length := by simpa [half] using hj
  simp [List.getD, hjl]
/-- a world for the witness: the settled one, the table holding what its initialiser lays -/
noncomputable def laidWorld (os : Os) : World :=
  { World.holding Tryd.prog os ⟨#[], #[], []⟩ with heap := (World.holding Tryd.prog os ⟨#[], #[], []⟩).heap.modify 0 fun
      | .cells _ t frozen => .cells #[.int .u32 0, .int .u32 498536548, .int .u32 997073096, .int .u32 651767980, .int .u32 1994146192, .int .u32 1802195444, .int .u32 1303535960, .int .u32 1342533948, .int .u32 3988292384, .int .u32 4027552580, .int .u32 3604390888, .int .u32 3412177804, .int .u32 2607071920, .int .u32 2262029012, .int .u32 2685067896, .int .u32 3183342108] t frozen
      | o => o }
end Go.Proofs.YtgpadejkmpfafaaDoor
