/- Items are compared; item, awake: the walks. No condition. -/
import Derived.Test.YthhjioeipjnjmaaQueX
import Derived.Test.YthhjioeipjnjmaaQueW
import Derived.DeepKeys
namespace Go.Proofs.Ythhjioeipjnjmaa
open Go.RowKit

theorem item_cells : Try.prog.cellsOf 28 = 4 := by kernel_rfl
theorem item_at : Try.prog.keyTypeAt 5 28 = true := by kernel_rfl
theorem item_lits (d : Nat) (x : QE) (hx : x.Ok) : Try.prog.keyLits (d + 3) 28 [.string x.asset, .int .i64 x.index, .int .i64 x.due, .int .i64 x.rank] = some [.string x.asset.data.toList, .int .i64 x.index, .int .i64 x.due, .int .i64 x.rank] := by
  have h0 := wf_i64 hx.i.1 hx.i.2
  have h1 := wf_i64 hx.d.1 hx.d.2
  have h2 := wf_i64 hx.r.1 hx.r.2
  have h3 := hx.t
  simp [Program.keyLits, Try.underlying28, Try.underlying26, Try.underlying9, Try.underlying3, item_cells, part_cells, str_cells, int_cells, h0, h1, h2, h3]
  rw [if_pos (by intro i h; rcases i with _ | _ | i
                 · simp
                 · simp
                 · exact absurd h (by omega))]
  rfl
/-- the same item -/
def sameI (x y : QE) : Bool := decide (x.asset = y.asset) && decide (x.index = y.index) && decide (x.due = y.due) && decide (x.rank = y.rank)
set_option maxRecDepth 20000 in
theorem item_formed (x : QE) : (itV x).formed Try.prog 28 = true := by
  kernel_rfl
set_option maxRecDepth 20000 in
theorem eq_item (x y : QE) (hx : x.Ok) (hy : y.Ok) (w : World) : (Op.equalIn 9999 28 (itV x) (itV y)).run Try.prog w = .ok (sameI x y) w := by
  have hlx := item_lits 2 x hx
  have hly := item_lits 2 y hy
  obtain ⟨r, hr, hiff⟩ := run_equalIn_deep (P := Try.prog) 9994 5 28 item_at w 5 5 (itV x) (itV y) _ _ (item_formed x) (item_formed y) hlx hly
  rw [hr]
  congr 1
  rw [Bool.eq_iff_iff, hiff]
  simp [sameI]
  constructor
  · rintro ⟨h1, h2, h3, h4⟩
    exact ⟨⟨⟨bs_eq (by rw [← Array.toList_inj] at *; exact h1), h2⟩, h3⟩, h4⟩
  · rintro ⟨⟨⟨h1, h2⟩, h3⟩, h4⟩
    exact ⟨by rw [h1], h2, h3, h4⟩
theorem sameI_same (x : QE) : sameI x x = true := by simp [sameI]

set_option maxRecDepth 20000 in
theorem item_any (a : ByteArray) (d : Int) (w : World) : Calls Try.prog 17 #[.string a, .int .i64 d] w fun e w' => e = .returned (.agg #[.string a, .int .i64 0, .int .i64 d, .int .i64 0]) ∧ Touch [] w w' := by
  go_enter Try.func17, Try.ntmps17
  go_wp2
  go_returns
  exact ⟨rfl, (Touch.refl [] w).alloc _⟩
end Go.Proofs.Ythhjioeipjnjmaa
