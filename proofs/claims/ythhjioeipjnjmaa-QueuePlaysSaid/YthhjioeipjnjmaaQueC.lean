/- entry.cmp: due, rank, put. For every two entries. -/
import Derived.Test.YthhjioeipjnjmaaQueM
import Derived.Test.YthhjioeipjnjmaaOrV
import Derived.Test.YthhjioeipjnjmaaShelf
import Derived.StillTailTactics
namespace Go.Proofs.Ythhjioeipjnjmaa
open Go.RowKit

theorem cfQ_or (a b : QE) : cfQ a b = orV [Lib.compareInt a.due b.due, Lib.compareInt a.rank b.rank, Lib.compareInt a.put b.put] := by
  unfold cfQ
  simp only [orV, cmI]
  generalize Lib.compareInt a.due b.due = x
  generalize Lib.compareInt a.rank b.rank = y
  generalize Lib.compareInt a.put b.put = z
  by_cases h1 : x = 0 <;> by_cases h2 : y = 0 <;> by_cases h3 : z = 0 <;> simp [h1, h2, h3]

set_option maxRecDepth 20000 in
set_option maxHeartbeats 1600000 in
theorem cmpE_any (p q : Nat) (a b : QE) (w : World) (a2 : w.cell? ⟨p, 2, none⟩ = some (.int .i64 a.due)) (a3 : w.cell? ⟨p, 3, none⟩ = some (.int .i64 a.rank)) (a4 : w.cell? ⟨p, 4, none⟩ = some (.int .i64 a.put))
    (b2 : w.cell? ⟨q, 2, none⟩ = some (.int .i64 b.due)) (b3 : w.cell? ⟨q, 3, none⟩ = some (.int .i64 b.rank)) (b4 : w.cell? ⟨q, 4, none⟩ = some (.int .i64 b.put)) :
    Calls Try.prog 23 #[ptrV p, ptrV q] w fun e w' => e = .returned (.int .i64 (cfQ a b)) ∧ ∃ o, w' = w.drew.alloc o := by
  obtain ⟨_, _, d1, r1, p1⟩ := a
  obtain ⟨_, _, d2, r2, p2⟩ := b
  rw [cfQ_or]
  dsimp only at *
  have h1 := fun w' => Try.cmp_Compare_int d1 d2 w'
  have h2 := fun w' => Try.cmp_Compare_int r1 r2 w'
  have h3 := fun w' => Try.cmp_Compare_int p1 p2 w'
  obtain ⟨x, hx⟩ : ∃ x, x = Lib.compareInt d1 d2 := ⟨_, rfl⟩
  obtain ⟨y, hy⟩ : ∃ y, y = Lib.compareInt r1 r2 := ⟨_, rfl⟩
  obtain ⟨z, hz⟩ : ∃ z, z = Lib.compareInt p1 p2 := ⟨_, rfl⟩
  rw [← hx, ← hy, ← hz]
  rw [← hx] at h1
  rw [← hy] at h2
  rw [← hz] at h3
  have H1 := Lib.hid h1; have H2 := Lib.hid h2; have H3 := Lib.hid h3
  clear h1 h2 h3 hx hy hz
  unfold ptrV
  go_enter Try.func23, Try.ntmps23
  go_wp2_with fail
  refine wp_still_tail' 31 (by kernel_rfl) (by kernel_rfl) ?_
  intro w2 hw2
  have ta := (Touch.refl [] w).drew
  rw [← hw2] at ta
  have e2 := ta.cell a2 (by simp)
  have e3 := ta.cell a3 (by simp)
  have e4 := ta.cell a4 (by simp)
  have f2 := ta.cell b2 (by simp)
  have f3 := ta.cell b3 (by simp)
  have f4 := ta.cell b4 (by simp)
  have Hw2 := Lib.hid hw2
  clear a2 a3 a4 b2 b3 b4 ta hw2
  simp only [List.take_succ_cons, List.take_zero, List.drop_succ_cons, List.drop_zero]
  repeat still_step
  still_call (H1.out _)
  repeat still_step
  still_call (H2.out _)
  repeat still_step
  still_call (H3.out _)
  refine wpStill_nil ?_
  have r3 : RdK inE (w2.alloc (.cells #[.int .i64 x, .int .i64 y, .int .i64 z] 3)) (some ⟨w2.heap.size, 0, none⟩) [x, y, z] := RdK.row w2 3 [x, y, z] _ rfl
  go_wp2_with fail
  refine (or_any _ 3 3 [x, y, z] rfl _ r3 (by omega)).mono ?_
  rintro e w3 ⟨rfl, rfl⟩
  go_wp2
  go_ret
  exact ⟨rfl, _, by rw [Hw2.out]⟩
end Go.Proofs.Ythhjioeipjnjmaa
