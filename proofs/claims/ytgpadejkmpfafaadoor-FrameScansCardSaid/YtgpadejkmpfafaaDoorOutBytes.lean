/- frame.Out.Bytes: a copy of what an Out holds. -/
import Derived.Test.YtgpadejkmpfafaaDoorOutInt
import Derived.Test.YtgpadejkmpfafaaDoorClone
namespace Go.Proofs.YtgpadejkmpfafaaDoor
open Go.RowKit

set_option maxHeartbeats 400000 in
theorem outBytes_any (g : Nat) (A : Option Addr) (l : List UInt8) (hl : l.length ≤ 140737488000000) (w : World) (ho : OutAt w g A l) :
    Calls Tryd.prog 16 #[.pointer (some ⟨g, 0, none⟩)] w fun e w' => ∃ A' c', e = .returned (.slice A' l.length c') ∧ CloneAt l w w' A' c' := by
  obtain ⟨c, hg, hown, hgA⟩ := ho
  have hcell := cell_of_one hg
  go_enter Tryd.func16, Tryd.ntmps16
  go_wp2_with (go_at_call 40; refine (clone_any A c l w hown.rd hl).mono ?_; rintro e w1 ⟨A1, c1, rfl, h1⟩)
  go_ret
  exact ⟨A1, c1, rfl, h1⟩
end Go.Proofs.YtgpadejkmpfafaaDoor
