/- the fixed answer of the statements of layer 7: it stands. -/
import Derived.Test.YtgpadejkmpfafaaDoorOutBytes
import Derived.Test.YtgpadejkmpfafaaDoorSum
namespace Go.Proofs.YtgpadejkmpfafaaDoor
open Go.RowKit

theorem crc_digits : sumOf [49, 50, 51, 52, 53, 54, 55, 56, 57] = 3421780262 := by decide +kernel
theorem enc_fixed : ([] : List UInt8) ++ encI 300 ++ encI (-1) ++ encI (-300) = [2, 44, 1, 16, 18, 43, 1] := by decide +kernel

set_option maxHeartbeats 400000 in
set_option maxRecDepth 20000 in
theorem awake_any (w : World) (hh : HalfAt w) : Calls Tryd.prog 9 #[] w fun e w' => e = .returned (.bool true) ∧ Touch [] w w' := by
  have ho : OutAt (w.alloc (.cells #[.slice none 0 0] 31)) w.heap.size none [] := ⟨0, heap_alloc_new w _, OwnB.nil _, by simp [fpo]⟩
  have ht := (Touch.refl [] w).alloc (.cells #[.slice none 0 0] 31)
  go_enter Tryd.func9, Tryd.ntmps9
  go_wp2_with fail
  refine (outInt_any w.heap.size none [] 300 (by omega) (by omega) (by simp) _ ho).mono ?_
  rintro e w1 ⟨rfl, A1, ho1, ht1, hf1⟩
  go_wp2_with fail
  refine (outInt_any w.heap.size A1 _ (-1) (by omega) (by omega) (by decide +kernel) w1 ho1).mono ?_
  rintro e w2 ⟨rfl, A2, ho2, ht2, hf2⟩
  go_wp2_with fail
  refine (outInt_any w.heap.size A2 _ (-300) (by omega) (by omega) (by decide +kernel) w2 ho2).mono ?_
  rintro e w3 ⟨rfl, A3, ho3, ht3, hf3⟩
  rw [enc_fixed] at ho3
  go_wp2_with fail
  refine (outBytes_any w.heap.size A3 _ (by simp) w3 ho3).mono ?_
  rintro e w4 ⟨A4, c4, rfl, hown4, ht4, hf4⟩
  have hcv : (convert 22 9 (.slice A4 7 c4)).run Tryd.prog w4 = .ok (.string ⟨#[2, 44, 1, 16, 18, 43, 1]⟩) w4 := run_str_of c4 (n := 7) rfl hown4.rd
  clear hown4 ho3 ho2 ho1 ho
  have hcc := fun (W : World) (C : Array Value) (n c : Nat) => Lib.run_convert_bytes_const (P := Tryd.prog) W 22 5 C n c Tryd.underlying22 Tryd.underlying5
  have T3 : Touch [] w w3 := ((ht.trans ht1 (by simp [fpo])).trans ht2 (fun b hb => by
    rcases List.mem_cons.1 hb with h | h
    · exact .inr (by omega)
    · have := hf1 b h; simp [fpo] at this; exact .inr (by omega))).trans ht3 (fun b hb => by
    rcases List.mem_cons.1 hb with h | h
    · exact .inr (by omega)
    · rcases hf2 b h with h' | h'
      · have := hf1 b h'; simp [fpo] at this; exact .inr (by omega)
      · have := ht1.size; simp at this; exact .inr (by omega))
  have T4 := T3.trans0 ht4
  have T5 := T4.alloc (.cells (([49, 50, 51, 52, 53, 54, 55, 56, 57] : List UInt8).map B).toArray 5 (9, 10))
  have hd := RdB.newf w4 [49, 50, 51, 52, 53, 54, 55, 56, 57] (9, 10)
  go_wp2_with fail
  refine (sum_any _ 9 [49, 50, 51, 52, 53, 54, 55, 56, 57] _ (by decide) hd (hh.touch T5 (by simp))).mono ?_
  rintro e w6 ⟨rfl, rfl⟩
  rw [crc_digits]
  go_wp2_with fail
  go_ret
  exact ⟨rfl, T5⟩
end Go.Proofs.YtgpadejkmpfafaaDoor
