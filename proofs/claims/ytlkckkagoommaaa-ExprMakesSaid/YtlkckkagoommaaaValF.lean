/- value.Of, value.Null, value.Text, value.Value.True, expr.bit: small functions on values. -/
import Derived.Test.YtlkckkagoommaaaTyped
namespace Go.Proofs.Ytlkckkagoommaaa
open Go.RowKit

/-- a struct of three cells is written -/
theorem out3 {X : World} {R : Nat} {t : TypeId} {a0 a1 a2 : Value} (h : X.heap[R]? = some (.cells #[a0, a1, a2] t (0, 0))) (v0 v1 v2 : Value) :
    (((X.setCell ⟨R, 0, none⟩ v0).setCell ⟨R, 1, none⟩ v1).setCell ⟨R, 2, none⟩ v2).heap[R]? = some (.cells #[v0, v1, v2] t (0, 0)) ∧ Touch [R] X (((X.setCell ⟨R, 0, none⟩ v0).setCell ⟨R, 1, none⟩ v1).setCell ⟨R, 2, none⟩ v2) :=
  ⟨set_blk (set_blk (set_blk h 0 v0) 1 v1) 2 v2, (((Touch.refl [R] X).setCell (p := ⟨R, 0, none⟩) (.inl (by simp)) v0).setCell (p := ⟨R, 1, none⟩) (.inl (by simp)) v1).setCell (p := ⟨R, 2, none⟩) (.inl (by simp)) v2⟩
theorem blk3 {w : World} {R : Nat} {a b c : Value} {t : TypeId} (h : w.heap[R]? = some (.cells #[a, b, c] t (0, 0))) : w.cell? ⟨R, 0, none⟩ = some a ∧ w.cell? ⟨R, 1, none⟩ = some b ∧ w.cell? ⟨R, 2, none⟩ = some c ∧
    w.frozen? ⟨R, 0, none⟩ = false ∧ w.frozen? ⟨R, 1, none⟩ = false ∧ w.frozen? ⟨R, 2, none⟩ = false :=
  ⟨cell_blk h rfl, cell_blk h rfl, cell_blk h rfl, by simp [World.frozen?, h], by simp [World.frozen?, h], by simp [World.frozen?, h]⟩

set_option maxRecDepth 20000 in
theorem of_any (n : Int) (w : World) : Calls Try.prog 23 #[.int .i64 n] w fun e w' => e = .returned (ofV n).val ∧ Touch [] w w' := by
  dsimp only [VD.val, ofV]
  go_enter Try.func23, Try.ntmps23
  go_wp2_with fail
  exact bodyPost_ret (results_cell_row rfl _ _ w.heap.size _ _ _ _ rfl (heap_alloc_new w _) Try.underlying30 rfl rfl) rfl ⟨rfl, (Touch.refl _ _).alloc _⟩
set_option maxRecDepth 20000 in
theorem null_any (w : World) : Calls Try.prog 19 #[] w fun e w' => e = .returned zeroV.val ∧ Touch [] w w' := by
  dsimp only [VD.val, zeroV]
  go_enter Try.func19, Try.ntmps19
  go_wp2_with fail
  exact bodyPost_ret (results_cell_row rfl _ _ w.heap.size _ _ _ _ rfl (heap_alloc_new w _) Try.underlying30 rfl rfl) rfl ⟨rfl, (Touch.refl _ _).alloc _⟩
set_option maxRecDepth 20000 in
theorem text_any (s : ByteArray) (w : World) : Calls Try.prog 64 #[.string s] w fun e w' => e = .returned (VD.val ⟨2, 0, s⟩) ∧ Touch [] w w' := by
  dsimp only [VD.val]
  go_enter Try.func64, Try.ntmps64
  go_wp2_with fail
  exact bodyPost_ret (results_cell_row rfl _ _ w.heap.size _ _ _ _ rfl (heap_alloc_new w _) Try.underlying30 rfl rfl) rfl ⟨rfl, (Touch.refl _ _).alloc _⟩
set_option maxRecDepth 20000 in
theorem true_any (v : VD) (w : World) : Calls Try.prog 41 #[v.val] w fun e w' => e = .returned (.bool v.tru) ∧ Touch [] w w' := by
  obtain ⟨k, n, s⟩ := v
  dsimp only [VD.val]
  have t0 := (Touch.refl [] w).alloc (.cells #[.int .i64 k, .int .i64 n, .string s] 30)
  by_cases h1 : k = 1
  · have hk : (k == 1) = true := by simpa using h1
    by_cases h0 : n = 0
    · have hn : (n != 0) = false := by simpa using h0
      have Hf := Lib.hid (show VD.tru ⟨k, n, s⟩ = false by simp [VD.tru, h0])
      clear h0 h1
      go_enter Try.func41, Try.ntmps41
      go_wp2_with fail
      go_ret
      exact ⟨by rw [Hf.out]; rfl, t0⟩
    · have hn : (n != 0) = true := by simpa using h0
      have Hf := Lib.hid (show VD.tru ⟨k, n, s⟩ = true by simp [VD.tru, h0, h1])
      clear h0 h1
      go_enter Try.func41, Try.ntmps41
      go_wp2_with fail
      go_ret
      exact ⟨by rw [Hf.out]; rfl, t0⟩
  · have hk : (k == 1) = false := by simpa using h1
    have Hf := Lib.hid (show VD.tru ⟨k, n, s⟩ = false by simp [VD.tru, h1])
    clear h1
    go_enter Try.func41, Try.ntmps41
    go_wp2_with fail
    go_ret
    exact ⟨by rw [Hf.out]; rfl, t0⟩
set_option maxRecDepth 20000 in
theorem bit_any (b : Bool) (w : World) : Calls Try.prog 70 #[.bool b] w fun e w' => e = .returned (bitV b).val ∧ Touch [] w w' := by
  have h1 := Lib.hid fun w' => of_any 1 w'
  have h0 := Lib.hid fun w' => of_any 0 w'
  simp only [VD.val, ofV] at h1 h0
  have t0 := (Touch.refl [] w).alloc (.cells #[.int .i64 0, .int .i64 0, .string ⟨#[]⟩] 30)
  have hb := heap_alloc_new w (.cells #[.int .i64 0, .int .i64 0, .string ⟨#[]⟩] 30)
  have Hb := Lib.hid hb
  clear hb
  cases b
  · simp only [bitV, VD.val, ofV]
    go_enter Try.func70, Try.ntmps70
    go_wp2_with fail
    refine (h0.out _).mono ?_
    rintro e w1 ⟨rfl, t1⟩
    have hb1 := t1.blk Hb.out (by simp)
    obtain ⟨c0, c1, c2, f0, f1, f2⟩ := blk3 hb1
    go_wp2_with fail
    obtain ⟨q1, q2⟩ := out3 hb1 (.int .i64 1) (.int .i64 0) (.string (S []))
    exact bodyPost_ret (results_cell_row rfl _ _ w.heap.size _ _ _ _ rfl q1 Try.underlying30 rfl rfl) rfl ⟨rfl, (t0.trans0 t1).trans q2 (fun b hb => .inr (by simp at hb; omega))⟩
  · simp only [bitV, VD.val, ofV]
    go_enter Try.func70, Try.ntmps70
    go_wp2_with fail
    refine (h1.out _).mono ?_
    rintro e w1 ⟨rfl, t1⟩
    have hb1 := t1.blk Hb.out (by simp)
    obtain ⟨c0, c1, c2, f0, f1, f2⟩ := blk3 hb1
    go_wp2_with fail
    obtain ⟨q1, q2⟩ := out3 hb1 (.int .i64 1) (.int .i64 1) (.string (S []))
    exact bodyPost_ret (results_cell_row rfl _ _ w.heap.size _ _ _ _ rfl q1 Try.underlying30 rfl rfl) rfl ⟨rfl, (t0.trans0 t1).trans q2 (fun b hb => .inr (by simp at hb; omega))⟩
end Go.Proofs.Ytlkckkagoommaaa
