/- bywashlaw06.step at Sync and Cut. -/
import Derived.Test.YtgpadejkmpfafaaStep
import Derived.Deep.RegionHeld3
namespace Go.Proofs.Ytgpadejkmpfafaa
open Go.RowKit

set_option maxRecDepth 100000 in
set_option maxHeartbeats 3200000 in
theorem step_sync (g : Nat) (fp : List Nat) (V : Fl) (r : DR) (h : Nat) (fq : List Nat) (rr : RR) (file n : Int) (vd vk : Value) (w : World) (P : PairAt w g fp V r h fq (toR V) rr) (hs : SameR r rr) (hdone : r.done < 1073741824) :
    Calls Try.prog 23 #[.pointer (some ⟨g, 0, none⟩), .pointer (some ⟨h, 0, none⟩), .agg #[.int .i64 2, .int .i64 file, .int .i64 n, vd, vk]] w fun e w' => StepPost g fp h fq r w e w' := by
  have ta := (Touch.refl [] w).alloc (.cells #[.int .i64 2, .int .i64 file, .int .i64 n, vd, vk] 41)
  have hdn := done_sync V r file
  obtain ⟨x, hx⟩ : ∃ x, pSync V r file = x := ⟨_, rfl⟩
  rw [hx] at hdn
  have hb := heap_alloc_new w (.cells #[.int .i64 2, .int .i64 file, .int .i64 n, vd, vk] 41)
  have Hx := Lib.hid hx
  have hf := P.dk.fok
  clear hx
  have T0 : Touch [] w (w.alloc (.cells #[.int .i64 2, .int .i64 file, .int .i64 n, vd, vk] 41)).drew := ta.drew
  have c1 : (w.alloc (.cells #[.int .i64 2, .int .i64 file, .int .i64 n, vd, vk] 41)).drew.cell? ⟨w.heap.size, 1, none⟩ = some (.int .i64 file) := cell_blk hb rfl
  have c2 : (w.alloc (.cells #[.int .i64 2, .int .i64 file, .int .i64 n, vd, vk] 41)).drew.cell? ⟨w.heap.size, 2, none⟩ = some (.int .i64 n) := cell_blk hb rfl
  have P0 := P.keep T0
  have hdD : DkAt (w.alloc (.cells #[.int .i64 2, .int .i64 file, .int .i64 n, vd, vk] 41)).drew g fp V r := P0.dk
  have hrD : RdAt (w.alloc (.cells #[.int .i64 2, .int .i64 file, .int .i64 n, vd, vk] 41)).drew h fq (toR V) rr := P0.rd
  have hnp : w.heap.size ∉ fp := fun hm => by have := P.dk.lt _ hm; omega
  have hnq : w.heap.size ∉ fq := fun hm => by have := P.rd.lt _ hm; omega
  go_enter Try.func23, Try.ntmps23
  go_wp2_with fail
  go_region_held3 (fun w' => w'.cell? ⟨w.heap.size, 1, none⟩ = some (.int .i64 file)) (first | exact c1 | exact e1 | exact d1) (first
    | (go_at_call 11; refine (sync_dkx g fp V r file _ (by first | with_reducible exact hdD | with_reducible exact hdD2) hdone x Hx.out).mono ?_; rintro e w1 ⟨rfl, s1⟩; (first | (obtain ⟨fpx, P1, T1, f1⟩ := P0.real s1; have hrD2 := P1.rd; have e1 := T1.cell c1 hnp; have e2 := T1.cell c2 hnp) | (obtain ⟨fpx, P3, T3, f3⟩ := P2.real s1; have hnq3 : w.heap.size ∉ fp := hnp; have d1 := T3.cell d1 hnp; have d2 := T3.cell d2 hnp)))
    | (go_at_call 39; refine (rsync_tw h fq V r rr file _ (by first | with_reducible exact hrD | with_reducible exact hrD2) hs hf x Hx.out).mono ?_; rintro e w2 ⟨rfl, rr2, s2, hs2⟩; (first | (obtain ⟨fqx, P2, T2, f2⟩ := P0.refr s2; have hdD2 := P2.dk; have d1 := T2.cell c1 hnq; have d2 := T2.cell c2 hnq) | (obtain ⟨fqx, P3, T3, f3⟩ := P1.refr s2; have e1 := T3.cell e1 hnq; have e2 := T3.cell e2 hnq))))
  all_goals
    go_wp2
    go_ret
    first
      | exact ⟨rfl, x.2.1, x.2.2, pair_12 T0 P0 s1 s2 hs2, hdn⟩
      | exact ⟨rfl, x.2.1, x.2.2, pair_21 T0 P0 s2 s1 hs2, hdn⟩

set_option maxRecDepth 100000 in
set_option maxHeartbeats 3200000 in
theorem step_cut (g : Nat) (fp : List Nat) (V : Fl) (r : DR) (h : Nat) (fq : List Nat) (rr : RR) (file n : Int) (vd vk : Value) (w : World) (P : PairAt w g fp V r h fq (toR V) rr) (hs : SameR r rr) (hdone : r.done < 1073741824) :
    Calls Try.prog 23 #[.pointer (some ⟨g, 0, none⟩), .pointer (some ⟨h, 0, none⟩), .agg #[.int .i64 3, .int .i64 file, .int .i64 n, vd, vk]] w fun e w' => StepPost g fp h fq r w e w' := by
  have ta := (Touch.refl [] w).alloc (.cells #[.int .i64 3, .int .i64 file, .int .i64 n, vd, vk] 41)
  have hdn := done_cut V r file n
  obtain ⟨x, hx⟩ : ∃ x, pCut V r file n = x := ⟨_, rfl⟩
  rw [hx] at hdn
  have hb := heap_alloc_new w (.cells #[.int .i64 3, .int .i64 file, .int .i64 n, vd, vk] 41)
  have Hx := Lib.hid hx
  have hf := P.dk.fok
  clear hx
  have T0 : Touch [] w (w.alloc (.cells #[.int .i64 3, .int .i64 file, .int .i64 n, vd, vk] 41)).drew := ta.drew
  have c1 : (w.alloc (.cells #[.int .i64 3, .int .i64 file, .int .i64 n, vd, vk] 41)).drew.cell? ⟨w.heap.size, 1, none⟩ = some (.int .i64 file) := cell_blk hb rfl
  have c2 : (w.alloc (.cells #[.int .i64 3, .int .i64 file, .int .i64 n, vd, vk] 41)).drew.cell? ⟨w.heap.size, 2, none⟩ = some (.int .i64 n) := cell_blk hb rfl
  have P0 := P.keep T0
  have hdD : DkAt (w.alloc (.cells #[.int .i64 3, .int .i64 file, .int .i64 n, vd, vk] 41)).drew g fp V r := P0.dk
  have hrD : RdAt (w.alloc (.cells #[.int .i64 3, .int .i64 file, .int .i64 n, vd, vk] 41)).drew h fq (toR V) rr := P0.rd
  have hnp : w.heap.size ∉ fp := fun hm => by have := P.dk.lt _ hm; omega
  have hnq : w.heap.size ∉ fq := fun hm => by have := P.rd.lt _ hm; omega
  go_enter Try.func23, Try.ntmps23
  go_wp2_with fail
  go_region_held3 (fun w' => w'.cell? ⟨w.heap.size, 1, none⟩ = some (.int .i64 file) ∧ w'.cell? ⟨w.heap.size, 2, none⟩ = some (.int .i64 n)) (first | exact ⟨c1, c2⟩ | exact ⟨e1, e2⟩ | exact ⟨d1, d2⟩) (first
    | (go_at_call 20; refine (cut_dkx g fp V r file n _ (by first | with_reducible exact hdD | with_reducible exact hdD2) hdone x Hx.out).mono ?_; rintro e w1 ⟨rfl, s1⟩; (first | (obtain ⟨fpx, P1, T1, f1⟩ := P0.real s1; have hrD2 := P1.rd; have e1 := T1.cell c1 hnp; have e2 := T1.cell c2 hnp) | (obtain ⟨fpx, P3, T3, f3⟩ := P2.real s1; have hnq3 : w.heap.size ∉ fp := hnp; have d1 := T3.cell d1 hnp; have d2 := T3.cell d2 hnp)))
    | (go_at_call 40; refine (rcut_tw h fq V r rr file n _ (by first | with_reducible exact hrD | with_reducible exact hrD2) hs hf x Hx.out).mono ?_; rintro e w2 ⟨rfl, rr2, s2, hs2⟩; (first | (obtain ⟨fqx, P2, T2, f2⟩ := P0.refr s2; have hdD2 := P2.dk; have d1 := T2.cell c1 hnq; have d2 := T2.cell c2 hnq) | (obtain ⟨fqx, P3, T3, f3⟩ := P1.refr s2; have e1 := T3.cell e1 hnq; have e2 := T3.cell e2 hnq))))
  all_goals
    go_wp2
    go_ret
    first
      | exact ⟨rfl, x.2.1, x.2.2, pair_12 T0 P0 s1 s2 hs2, hdn⟩
      | exact ⟨rfl, x.2.1, x.2.2, pair_21 T0 P0 s2 s1 hs2, hdn⟩
end Go.Proofs.Ytgpadejkmpfafaa
