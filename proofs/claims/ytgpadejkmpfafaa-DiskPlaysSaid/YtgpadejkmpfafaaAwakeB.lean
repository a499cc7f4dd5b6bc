/- the fixed answer of the statements of layer 6: it stands. -/
import Derived.Test.YtgpadejkmpfafaaDk
namespace Go.Proofs.Ytgpadejkmpfafaa
open Go.RowKit

set_option maxRecDepth 20000 in
set_option maxHeartbeats 1600000 in
theorem awake6_any (w : World) : Calls Try.prog 10 #[] w fun e w' => e = .returned (.bool true) ∧ Touch [] w w' := by
  have hcc := fun (W : World) (C : Array Value) (n c : Nat) => Lib.run_convert_bytes_const (P := Try.prog) W 26 5 C n c Try.underlying26 Try.underlying5
  go_enter Try.func10, Try.ntmps10
  go_wp2_with fail
  refine (new_dk 100 w (by omega)).mono ?_
  rintro e w1 ⟨rfl, hd1, ht1⟩
  go_wp2_with fail
  have ta := (Touch.refl [] w1).alloc (.cells (([97, 98, 99] : List UInt8).map B).toArray 5 (3, 4))
  refine (append_dk w.heap.size _ _ _ 0 (some ⟨w1.heap.size, 0, none⟩) 3 [97, 98, 99] _ (hd1.step ta (by simp)) (RdB.newf w1 _ (3, 4)) (by simp) (by simp)).mono ?_
  rintro e w2 ⟨rfl, fp2, hd2, ht2, hf2⟩
  rw [show pApp [([], 0), ([], 0), ([], 0), ([], 0)] ⟨100, -1, 0, false⟩ 0 [97, 98, 99] = (0, [([97, 98, 99], 0), ([], 0), ([], 0), ([], 0)], ⟨100, -1, 1, false⟩) by kernel_rfl] at hd2 ⊢
  simp only at hd2 ⊢
  go_wp2_with fail
  refine (sync_dk w.heap.size _ _ _ 0 w2 hd2 (by simp)).mono ?_
  rintro e w3 ⟨rfl, fp3, hd3, ht3, hf3⟩
  rw [show pSync [([97, 98, 99], 0), ([], 0), ([], 0), ([], 0)] ⟨100, -1, 1, false⟩ 0 = (0, [([97, 98, 99], 3), ([], 0), ([], 0), ([], 0)], ⟨100, -1, 2, false⟩) by kernel_rfl] at hd3 ⊢
  simp only at hd3 ⊢
  go_wp2_with fail
  have tb := (Touch.refl [] w3).alloc (.cells (([100, 101, 102] : List UInt8).map B).toArray 5 (3, 4))
  refine (append_dk w.heap.size _ _ _ 0 (some ⟨w3.heap.size, 0, none⟩) 3 [100, 101, 102] _ (hd3.step tb (by simp)) (RdB.newf w3 _ (3, 4)) (by simp) (by simp)).mono ?_
  rintro e w4 ⟨rfl, fp4, hd4, ht4, hf4⟩
  rw [show pApp [([97, 98, 99], 3), ([], 0), ([], 0), ([], 0)] ⟨100, -1, 2, false⟩ 0 [100, 101, 102] = (0, [([97, 98, 99, 100, 101, 102], 3), ([], 0), ([], 0), ([], 0)], ⟨100, -1, 3, false⟩) by kernel_rfl] at hd4 ⊢
  simp only at hd4 ⊢
  go_wp2_with fail
  have tc := (Touch.refl [] w4).alloc (.cells #[.int .i64 2] 3)
  have hk : RdI (w4.alloc (.cells #[.int .i64 2] 3)) (some ⟨w4.heap.size, 0, none⟩) [2] := fun _ => ⟨_, rfl, fun j u hu => by
    match j, hu with
    | 0, hu => simp at hu; subst hu; exact cell_blk (heap_alloc_new w4 _) rfl⟩
  refine (crash_dk w.heap.size _ _ _ (some ⟨w4.heap.size, 0, none⟩) 1 [2] _ (hd4.step tc (by simp)) (fun w' ht => Rd.touch hk ht (fun b hb hm => ?_)) (by simp)).mono ?_
  · have hb' : b = w4.heap.size := by simpa [fpo] using hb
    subst hb'
    have := hd4.lt _ hm
    omega
  rintro e w5 ⟨rfl, fp5, hd5, ht5, hf5⟩
  rw [show crashK [2] [([97, 98, 99, 100, 101, 102], 3), ([], 0), ([], 0), ([], 0)] 4 = [([97, 98, 99, 100, 101], 5), ([], 0), ([], 0), ([], 0)] by kernel_rfl] at hd5
  simp only at hd5
  go_wp2_with fail
  refine (read_dk w.heap.size _ _ _ 0 w5 hd5).mono ?_
  rintro e w6 ⟨A6, c6, l6, hl6, rfl, hown6, ht6, hf6⟩
  rw [show (if checkI (false) 0 = 0 then (([([97, 98, 99, 100, 101], 5), ([], 0), ([], 0), ([], 0)] : Fl).getD (0 : Int).toNat ([], 0)).1 else []) = [97, 98, 99, 100, 101] by kernel_rfl] at hl6
  subst hl6
  rw [show checkI false 0 = 0 from rfl]
  have hcv : (convert 26 9 (.slice A6 5 c6)).run Try.prog w6 = .ok (.string ⟨#[97, 98, 99, 100, 101]⟩) w6 := run_str_of c6 (n := 5) rfl hown6.rd
  go_wp2_with fail
  refine (safe_dk w.heap.size _ _ _ 0 w6 (hd5.step ht6 (by simp))).mono ?_
  rintro e w7 ⟨rfl, rfl⟩
  rw [show (if (0 : Int) ≤ 0 ∧ (0 : Int) < 4 then ((([([97, 98, 99, 100, 101], 5), ([], 0), ([], 0), ([], 0)] : Fl).getD (0 : Int).toNat ([], 0)).2 : Int) else 0) = 5 by kernel_rfl]
  go_wp2_with fail
  go_ret
  have T1 : Touch [] w (w1.alloc (.cells (([97, 98, 99] : List UInt8).map B).toArray 5 (3, 4))) := ht1.trans0 ta
  have T2 : Touch [] w w2 := T1.trans ht2 (fun b hb => .inr (by simp at hb; omega))
  have F2 : ∀ b ∈ fp2, w.heap.size ≤ b := fun b hb => by
    rcases hf2 b hb with h | h
    · simp at h; omega
    · exact Nat.le_trans T1.size h
  have T3 : Touch [] w w3 := T2.trans ht3 (fun b hb => .inr (F2 b hb))
  have F3 : ∀ b ∈ fp3, w.heap.size ≤ b := fun b hb => by
    rcases hf3 b hb with h | h
    · exact F2 b h
    · exact Nat.le_trans T2.size h
  have T3' := T3.trans0 tb
  have T4 : Touch [] w w4 := T3'.trans ht4 (fun b hb => .inr (F3 b hb))
  have F4 : ∀ b ∈ fp4, w.heap.size ≤ b := fun b hb => by
    rcases hf4 b hb with h | h
    · exact F3 b h
    · exact Nat.le_trans T3'.size h
  have T4' := T4.trans0 tc
  have T5 : Touch [] w w5 := T4'.trans ht5 (fun b hb => .inr (F4 b hb))
  exact ⟨rfl, T5.trans0 ht6⟩
end Go.Proofs.Ytgpadejkmpfafaa
