/- bywashlaw07.FrameSums: the walk of the law. For every slice of bytes; the table as the program's text lays it. -/
import Derived.Test.YtgpadejkmpfafaaDoorAwakeA
import Derived.Test.YtgpadejkmpfafaaDoorCrcLaw
namespace Go.Proofs.YtgpadejkmpfafaaDoor
open Go.RowKit

set_option maxRecDepth 20000 in
set_option maxHeartbeats 400000 in
theorem sums_law (A : Option Addr) (c : Nat) (l : List UInt8) (w : World) (hl : l.length ≤ maxLen) (hr : RdB w A l) (hh : HalfAt w) :
    Calls Tryd.prog 3 #[.slice A l.length c] w fun e w' => e = .returned (.bool true) ∧ Touch [] w w' := by
  go_enter Tryd.func3, Tryd.ntmps3
  unfold maxLen at hl
  by_cases h3 : 3000 < l.length
  · go_wp2_with (go_at_call 9; refine (awake_any w hh).mono ?_; rintro e w1 ⟨rfl, ht1⟩)
    go_ret
    exact ⟨rfl, ht1⟩
  · have hs := sumOf_lt l
    go_wp2_with fail
    refine (sum_any A c l w hl hr hh).mono ?_
    rintro e w1 ⟨rfl, rfl⟩
    have hdig : ∀ W : World, RdB (W.alloc (.cells #[.int .u8 ((sumOf l : Int) % 256), .int .u8 ((sumOf l : Int) / 256 % 256), .int .u8 ((sumOf l : Int) / 65536 % 256), .int .u8 ((sumOf l : Int) / 16777216)] 5)) (some ⟨W.heap.size, 0, none⟩) (digs (sumOf l) 4) := fun W =>
      RdB.new' W _ (0, 0) _ (by simp [digs, B]; omega)
    have ta := (Touch.refl [] w).alloc (.cells #[] 5)
    have Hdig := Lib.hid hdig; clear hdig
    go_wp2_with (at_builtin; refine stop ?_)
    refine go ?_
    refine wpList_appB rfl (.tmp 11) (.tmp 12) rfl (some ⟨w.heap.size, 0, none⟩) 0 0 [] rfl rfl (OwnB.empty_new w) A l.length c l rfl rfl (hr.touch0 ta) (by omega) ?_
    intro A1 c1 w1 hown1 ht1 hf1
    go_wp2_with (at_builtin; refine stop ?_)
    refine go ?_
    refine wpList_appB rfl (.tmp 13) (.tmp 25) rfl A1 l.length c1 ([] ++ l) (by simp) rfl (hown1.touch0 ((Touch.refl [] w1).alloc _)) (some ⟨w1.heap.size, 0, none⟩) 4 4 (digs (sumOf l) 4) (digs_length _ _) rfl (Hdig.out w1) (by omega) ?_
    intro A2 c2 w2 hown2 ht2 hf2
    have T2 : Touch [] w w2 := (((ta.trans ht1 (by simp [fpo])).alloc _).trans ht2 (fun b hb => .inr (by
      have := ta.size
      rcases hf1 b hb with h | h
      · simp [fpo] at h; omega
      · omega)))
    have hlen : (([] ++ l) ++ digs (sumOf l) 4).length = l.length + 4 := by simp [digs_length]
    have hx : sumOf (([] ++ l) ++ digs (sumOf l) 4) = 558161692 := own_sum l
    have he : rsumOf l = sumOf l := (sum_eq l).symm
    have Hx := Lib.hid hx; clear hx
    have Hlen := Lib.hid hlen; clear hlen
    have He := Lib.hid he; clear he
    go_wp2_with fail
    refine (refSum_any A c l w2 (by unfold maxLen; omega) (hr.touch0 T2)).mono ?_
    rintro e w3 ⟨rfl, rfl⟩
    rw [He.out]
    go_wp2_with fail
    rw [← Hlen.out]
    refine (sum_any A2 c2 _ w2 (by rw [Hlen.out]; unfold maxLen; omega) hown2.rd (hh.touch T2 (by simp))).mono ?_
    rintro e w3 ⟨rfl, rfl⟩
    rw [Hx.out]
    go_wp2_with fail
    refine (awake_any w2 (hh.touch T2 (by simp))).mono ?_
    rintro e w3 ⟨rfl, ht3⟩
    go_wp2_with fail
    go_ret
    exact ⟨rfl, T2.trans0 ht3⟩
end Go.Proofs.YtgpadejkmpfafaaDoor
