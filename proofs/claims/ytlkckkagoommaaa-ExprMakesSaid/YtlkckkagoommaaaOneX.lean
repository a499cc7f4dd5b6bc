/- bywashlaw04: one, truth. -/
import Derived.Test.YtlkckkagoommaaaTopX
import Derived.Test.YtlkckkagoommaaaMakeX
namespace Go.Proofs.Ytlkckkagoommaaa
open Go.RowKit
attribute [local go_sem ↓] Go.wp_at_zero Go.wp_at_succ

set_option maxRecDepth 20000 in
theorem one_any (v : VD) (w : World) : Calls Try.prog 22 #[v.val] w fun e w' => (∃ A, e = .returned (.slice A 1 1) ∧ ValsAt w' A [v]) ∧ Touch [] w w' := by
  obtain ⟨k, n, s⟩ := v
  dsimp only [VD.val]
  have t0 := ((Touch.refl [] w).alloc (.cells #[.int .i64 k, .int .i64 n, .string s] 30)).alloc (.cells #[.int .i64 k, .int .i64 n, .string s] 30)
  go_enter Try.func22, Try.ntmps22
  go_wp2_with fail
  go_ret
  refine ⟨⟨_, rfl, ?_⟩, t0⟩
  have := RdK.row (enc := vdE) (w.alloc (.cells #[.int .i64 k, .int .i64 n, .string s] 30)) 30 [(⟨k, n, s⟩ : VD)] #[.int .i64 k, .int .i64 n, .string s] rfl
  simp only [World.size_alloc] at this
  exact this
set_option maxRecDepth 20000 in
theorem truth_any (b : Bool) (w : World) : Calls Try.prog 24 #[.bool b] w fun e w' => e = .returned (bitV b).val ∧ Touch [] w w' := by
  have h1 := Lib.hid fun w' => of_any 1 w'
  have h0 := Lib.hid fun w' => of_any 0 w'
  simp only [VD.val, ofV, S] at h1 h0
  have t0 := (Touch.refl [] w).alloc (.cells #[.int .i64 0, .int .i64 0, .string ⟨#[]⟩] 30)
  have hb := heap_alloc_new w (.cells #[.int .i64 0, .int .i64 0, .string ⟨#[]⟩] 30)
  have Hb := Lib.hid hb
  clear hb
  cases b
  · go_enter Try.func24, Try.ntmps24
    go_wp2_with fail
    refine (h0.out _).mono ?_
    rintro e w1 ⟨rfl, u1⟩
    obtain ⟨r0, r1, r2, f0, f1, f2⟩ := blk3 (u1.blk Hb.out (by simp))
    go_wp2_with fail
    obtain ⟨q1, q2⟩ := out3 (u1.blk Hb.out (by simp)) (.int .i64 1) (.int .i64 0) (.string ⟨#[]⟩)
    exact bodyPost_ret (results_cell_row rfl _ _ w.heap.size _ _ _ _ rfl q1 Try.underlying30 rfl rfl) rfl ⟨rfl, (t0.trans0 u1).trans q2 (fun b hb => .inr (by simp at hb; omega))⟩
  · go_enter Try.func24, Try.ntmps24
    go_wp2_with fail
    refine (h1.out _).mono ?_
    rintro e w1 ⟨rfl, u1⟩
    obtain ⟨r0, r1, r2, f0, f1, f2⟩ := blk3 (u1.blk Hb.out (by simp))
    go_wp2_with fail
    obtain ⟨q1, q2⟩ := out3 (u1.blk Hb.out (by simp)) (.int .i64 1) (.int .i64 1) (.string ⟨#[]⟩)
    exact bodyPost_ret (results_cell_row rfl _ _ w.heap.size _ _ _ _ rfl q1 Try.underlying30 rfl rfl) rfl ⟨rfl, (t0.trans0 u1).trans q2 (fun b hb => .inr (by simp at hb; omega))⟩

theorem allX0 {q : ND → Prop} {n : Nat} {d : ND} (h : q d) : allX q (n + 1) ((d, []) : TX (n + 1)) := ⟨h, fun a ha => by cases ha⟩
theorem allX2 {q : ND → Prop} {n : Nat} {d : ND} {a b : TX n} (h : q d) (ha : allX q n a) (hb : allX q n b) : allX q (n + 1) ((d, [a, b]) : TX (n + 1)) := ⟨h, fun x hx => by
  rcases List.mem_cons.1 hx with rfl | hx
  · exact ha
  · rw [List.mem_singleton.1 hx]; exact hb⟩
theorem allX3 {q : ND → Prop} {n : Nat} {d : ND} {a b c : TX n} (h : q d) (ha : allX q n a) (hb : allX q n b) (hc : allX q n c) : allX q (n + 1) ((d, [a, b, c]) : TX (n + 1)) := ⟨h, fun x hx => by
  rcases List.mem_cons.1 hx with rfl | hx
  · exact ha
  · rcases List.mem_cons.1 hx with rfl | hx
    · exact hb
    · rw [List.mem_singleton.1 hx]; exact hc⟩
/-- the schema of the fixed answers -/
def csA : List CD := [⟨S [97], 1⟩]
def nd4 (op : ByteArray) : ND := ⟨4, ⟨#[]⟩, ⟨0, 0, ⟨#[]⟩⟩, op⟩
def ndC (v : VD) : ND := ⟨2, ⟨#[]⟩, v, ⟨#[]⟩⟩
def ndA : ND := ⟨1, S [97], ⟨0, 0, ⟨#[]⟩⟩, ⟨#[]⟩⟩
theorem top1 : topX csA [ofV 2] 2 ((nd4 (S [43]), [((ndA, []) : TX 1), ((ndC (ofV 1), []) : TX 1)]) : TX 2) = (ofV 3, 0) := by kernel_rfl
theorem top2 : topX csA [ofV 1] 3 ((⟨5, S [105, 102], ⟨0, 0, ⟨#[]⟩⟩, ⟨#[]⟩⟩, [((nd4 (S [62]), [((ndA, []) : TX 1), ((ndC (ofV 1), []) : TX 1)]) : TX 2), ((nd4 (S [47]), [((ndC (ofV 1), []) : TX 1), ((ndC (ofV 0), []) : TX 1)]) : TX 2), ((ndC (ofV 5), []) : TX 2)]) : TX 3) = (ofV 5, 0) := by kernel_rfl
end Go.Proofs.Ytlkckkagoommaaa
