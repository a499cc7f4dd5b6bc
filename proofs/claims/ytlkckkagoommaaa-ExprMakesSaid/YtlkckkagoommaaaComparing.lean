/- expr.comparing: which way of comparing an operation is. For every text. -/
import Derived.Test.YtlkckkagoommaaaEvalP
import Derived.Test.YtlkckkagoommaaaShelf
namespace Go.Proofs.Ytlkckkagoommaaa
open Go.RowKit
attribute [local go_sem ↓] Go.wp_at_zero Go.wp_at_succ

set_option maxRecDepth 20000 in
theorem comparing_any (s : ByteArray) (w : World) : Calls Try.prog 53 #[.string s] w fun e w' => e = .returned (.int .i64 (cmpI s)) ∧ Touch [] w w' := by
  have Hix := Lib.hid fun w' h => Go.Proofs.Try.slices_Index_string w.heap.size 0 7 7 [S [], S [61], S [33, 61], S [60], S [60, 61], S [62], S [62, 61]] s w' (by decide) (by decide) h
  go_enter Try.func53, Try.ntmps53
  go_wp2_with fail
  refine (Hix.out _ ?_).mono ?_
  · intro j hj
    have hj' : j < 7 := hj
    have : j = 0 ∨ j = 1 ∨ j = 2 ∨ j = 3 ∨ j = 4 ∨ j = 5 ∨ j = 6 := by omega
    rcases this with rfl | rfl | rfl | rfl | rfl | rfl | rfl <;> exact cell_blk (heap_alloc_new w _) rfl
  · rintro e w1 ⟨rfl, rfl⟩
    go_wp2_with fail
    go_ret
    exact ⟨rfl, (Touch.refl _ _).alloc _⟩
end Go.Proofs.Ytlkckkagoommaaa
