/- bywashref10.Match: a minute matches as the document says just if the program says so. -/
import Derived.Test.YtoabloeechphkaaDoorCronLawR
namespace Go.Proofs.YtoabloeechphkaaDoor
open Go.RowKit

theorem ref_cell {w : World} {B : Nat} {c : SD} {t : TypeId} (h : w.heap[B]? = some (.cells (refC c).toArray t (0, 0))) (i : Nat) (hi : i < 325) : w.cell? ⟨B, i, none⟩ = some (.bool (refAt c i)) :=
  cell_blk h (by rw [List.getElem?_toArray]; exact refC_get c i hi)

set_option maxRecDepth 100000 in
set_option maxHeartbeats 6400000 in
theorem rmatch_any (c : SD) (n : Nat) (hn : n < 2147483648) (w : World) :
    Calls Tryd.prog 16 #[.agg (refC c).toArray, .int .i64 n] w fun e w' => e = .returned (.bool (matchV c n)) ∧ Touch [] w w' := by
  obtain ⟨d, hd⟩ : ∃ d, d = dateV n := ⟨_, rfl⟩
  have hbd := date_bd n
  rw [← hd] at hbd
  have ho := fun w' => rof_any n hn w'
  rw [← hd] at ho
  have hv : matchV c n = ((c.has 3 d.mo && (if (c.any 2 || c.any 4) = true then c.has 2 d.d && c.has 4 d.wd else c.has 2 d.d || c.has 4 d.wd)) && (c.has 1 d.h && c.has 0 d.mi)) := by rw [hd]; rfl
  have t0 := (Touch.refl [] w).alloc (.cells (refC c).toArray 34)
  have hb := heap_alloc_new w (.cells (refC c).toArray 34)
  obtain ⟨b1, b2, b3, b4, b5, b6, b7, b8, b9⟩ := hbd
  have hdd := b6
  clear b1 b2 b5 b6
  obtain ⟨W, hW⟩ : ∃ W, W = w.alloc (.cells (refC c).toArray 34) := ⟨_, rfl⟩
  rw [← hW] at t0 hb
  have HW := Lib.hid hW
  have q0 : W.cell? ⟨w.heap.size, d.mi, none⟩ = some (.bool (c.has 0 d.mi)) := by
    have h := ref_cell hb (0 * 65 + d.mi) (by omega)
    rw [refAt_bit c 0 d.mi (by omega)] at h
    simpa [SD.has] using h
  have q1 : W.cell? ⟨w.heap.size, 65 + d.h, none⟩ = some (.bool (c.has 1 d.h)) := by
    have h := ref_cell hb (1 * 65 + d.h) (by omega)
    rw [refAt_bit c 1 d.h (by omega)] at h
    exact h
  have q3 : W.cell? ⟨w.heap.size, 195 + d.mo, none⟩ = some (.bool (c.has 3 d.mo)) := by
    have h := ref_cell hb (3 * 65 + d.mo) (by omega)
    rw [refAt_bit c 3 d.mo (by omega)] at h
    exact h
  have q2 : W.cell? ⟨w.heap.size, 130 + d.d, none⟩ = some (.bool (c.has 2 d.d)) := by
    have h := ref_cell hb (2 * 65 + d.d) (by omega)
    rw [refAt_bit c 2 d.d (by omega)] at h
    exact h
  have q4 : W.cell? ⟨w.heap.size, 260 + d.wd, none⟩ = some (.bool (c.has 4 d.wd)) := by
    have h := ref_cell hb (4 * 65 + d.wd) (by omega)
    rw [refAt_bit c 4 d.wd (by omega)] at h
    exact h
  have a2 : W.cell? ⟨w.heap.size, 194, none⟩ = some (.bool (c.any 2)) := by
    have h := ref_cell hb (2 * 65 + 64) (by omega)
    rw [refAt_any] at h
    exact h
  have a4 : W.cell? ⟨w.heap.size, 324, none⟩ = some (.bool (c.any 4)) := by
    have h := ref_cell hb (4 * 65 + 64) (by omega)
    rw [refAt_any] at h
    exact h
  obtain ⟨x0, hx0⟩ : ∃ x, x = c.has 0 d.mi := ⟨_, rfl⟩
  obtain ⟨x1, hx1⟩ : ∃ x, x = c.has 1 d.h := ⟨_, rfl⟩
  obtain ⟨x2, hx2⟩ : ∃ x, x = c.has 2 d.d := ⟨_, rfl⟩
  obtain ⟨x3, hx3⟩ : ∃ x, x = c.has 3 d.mo := ⟨_, rfl⟩
  obtain ⟨x4, hx4⟩ : ∃ x, x = c.has 4 d.wd := ⟨_, rfl⟩
  obtain ⟨y2, hy2⟩ : ∃ x, x = c.any 2 := ⟨_, rfl⟩
  obtain ⟨y4, hy4⟩ : ∃ x, x = c.any 4 := ⟨_, rfl⟩
  rw [← hx0] at q0
  rw [← hx1] at q1
  rw [← hx2] at q2
  rw [← hx3] at q3
  rw [← hx4] at q4
  rw [← hy2] at a2
  rw [← hy4] at a4
  rw [← hx0, ← hx1, ← hx2, ← hx3, ← hx4, ← hy2, ← hy4] at hv
  have Hv := Lib.hid hv; have Ho := Lib.hid ho
  have HQ : Hid (∀ W', Touch [] W W' → (W'.cell? ⟨w.heap.size, d.mi, none⟩ = some (.bool x0) ∧ W'.cell? ⟨w.heap.size, 65 + d.h, none⟩ = some (.bool x1) ∧ W'.cell? ⟨w.heap.size, 195 + d.mo, none⟩ = some (.bool x3)) ∧
    W'.cell? ⟨w.heap.size, 130 + d.d, none⟩ = some (.bool x2) ∧ W'.cell? ⟨w.heap.size, 260 + d.wd, none⟩ = some (.bool x4) ∧ W'.cell? ⟨w.heap.size, 194, none⟩ = some (.bool y2) ∧ W'.cell? ⟨w.heap.size, 324, none⟩ = some (.bool y4)) :=
    Lib.hid (fun W' t => ⟨⟨t.cell q0 (by simp), t.cell q1 (by simp), t.cell q3 (by simp)⟩, t.cell q2 (by simp), t.cell q4 (by simp), t.cell a2 (by simp), t.cell a4 (by simp)⟩)
  clear hx0 hx1 hx2 hx3 hx4 hy2 hy4 hv ho hd hW hb q0 q1 q2 q3 q4 a2 a4
  have i0 : (d.mi : Int) < 64 := by omega
  have i1 : (d.h : Int) < 64 := by omega
  have i2 : (d.d : Int) < 64 := by omega
  have i3 : (d.mo : Int) < 64 := by omega
  have i4 : (d.wd : Int) < 64 := by omega
  have j0 : (0 : Int) ≤ d.mi := by omega
  have j1 : (0 : Int) ≤ d.h := by omega
  have j2 : (0 : Int) ≤ d.d := by omega
  have j3 : (0 : Int) ≤ d.mo := by omega
  have j4 : (0 : Int) ≤ d.wd := by omega
  clear b3 b4 b7 b8 b9 hdd
  go_enter Tryd.func16, Tryd.ntmps16
  go_wp2_with fail
  rw [← HW.out]
  refine (Ho.out _).mono ?_
  rintro e w1 ⟨rfl, t1⟩
  have t1' := t1.alloc (.cells d.row 74)
  have hD := dateAt_blk (heap_alloc_new w1 (.cells d.row 74))
  unfold DateD.val DateD.row
  unfold DateD.row at t1' hD
  obtain ⟨⟨q0, q1, q3⟩, q2, q4, a2, a4⟩ := HQ.out _ t1'
  obtain ⟨c0, c1, c2, c3, c4, c5⟩ := hD
  rcases x0 with _ | _
  · go_wp2_with fail
    go_ret
    exact ⟨ret_bool (by rw [Hv.out]; simp), t0.trans0 t1'⟩
  rcases x1 with _ | _
  · go_wp2_with fail
    go_ret
    exact ⟨ret_bool (by rw [Hv.out]; simp), t0.trans0 t1'⟩
  rcases x3 with _ | _
  · go_wp2_with fail
    go_ret
    exact ⟨ret_bool (by rw [Hv.out]; simp), t0.trans0 t1'⟩
  go_wp2_with fail
  go_quiet (fail)
  rcases y2 with _ | _ <;> rcases y4 with _ | _ <;> rcases x2 with _ | _
  all_goals
    go_wp2_with fail
    go_ret
    exact ⟨ret_bool (by rw [Hv.out]; simp), (t0.trans0 t1').drewN _⟩
end Go.Proofs.YtoabloeechphkaaDoor
