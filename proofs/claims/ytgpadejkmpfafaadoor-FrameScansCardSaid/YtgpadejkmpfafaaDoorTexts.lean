/- frame.Out.Text, bywashref07.Text: a text's bytes. For every text. -/
import Derived.Test.YtgpadejkmpfafaaDoorRefInt
namespace Go.Proofs.YtgpadejkmpfafaaDoor
open Go.RowKit

/-- a text's bytes -/
def encT (s : ByteArray) : List UInt8 := encI s.size ++ s.data.toList
theorem encI_length (n : Int) : 1 ≤ (encI n).length ∧ (encI n).length ≤ 9 := by
  unfold encI
  have := le_length 8 (if n < 0 then (-1 - n).toNat else n.toNat)
  simp; omega
theorem size_toList (s : ByteArray) : s.data.toList.length = s.size := by rw [Array.length_toList]; rfl
theorem encT_length (s : ByteArray) : (encT s).length = (encI s.size).length + s.size := by
  unfold encT; rw [List.length_append, size_toList]

set_option maxHeartbeats 400000 in
theorem refText_any (s : ByteArray) (hs : s.size ≤ 140737488000000) (w : World) :
    Calls Tryd.prog 15 #[.string s] w fun e w' => ∃ A c, e = .returned (.slice A (encT s).length c) ∧ OwnB w' A c (encT s) ∧ Touch [] w w' ∧ (∀ b ∈ fpo A, w.heap.size ≤ b) := by
  go_enter Tryd.func15, Tryd.ntmps15
  have hL := encI_length s.size
  have hT := encT_length s
  go_wp2_with fail
  refine (refInt_any s.size (by omega) (by omega) w).mono ?_
  rintro e w1 ⟨A1, c1, rfl, hown1, ht1, hf1⟩
  have Hd := Lib.hid (show encT s = encI s.size ++ s.data.toList from rfl)
  go_wp2_with (at_builtin; refine stop ?_)
  refine go ?_
  refine wpList_appStr rfl (.tmp 5) (.tmp 6) rfl A1 (encI s.size).length c1 (encI s.size) rfl rfl hown1 s rfl (by omega) ?_
  intro A2 c2 w2 hown2 ht2 hf2
  go_wp2_with fail
  go_ret
  refine ⟨A2, c2, ret_slice hT.symm, hown2, ht1.trans ht2 (fun b hb => .inr (hf1 b hb)), fun b hb => ?_⟩
  have := ht1.size
  rcases hf2 b hb with h | h
  · exact hf1 b h
  · omega

set_option maxHeartbeats 400000 in
theorem outText_any (g : Nat) (A : Option Addr) (l : List UInt8) (s : ByteArray) (hl : l.length + s.size ≤ 140737487900000) (w : World) (ho : OutAt w g A l) :
    Calls Tryd.prog 14 #[.pointer (some ⟨g, 0, none⟩), .string s] w fun e w' => e = .returned (.pointer (some ⟨g, 0, none⟩)) ∧ OutPost g A (l ++ encT s) w w' := by
  go_enter Tryd.func14, Tryd.ntmps14
  have hL := encI_length s.size
  have hT := encT_length s
  have hgl : g < w.heap.size := by obtain ⟨c, hg, _⟩ := ho; exact lt_of_block hg
  go_wp2_with fail
  refine (outInt_any g A l s.size (by omega) (by omega) (by omega) w ho).mono ?_
  rintro e w1 ⟨rfl, A1, ⟨c1, hg1, hown1, hgA1⟩, ht1, hf1⟩
  have hcell1 := cell_of_one hg1
  have hfree1 := free_of_one hg1
  have hlen1 : (l ++ encI s.size).length = l.length + (encI s.size).length := by simp
  go_wp2_with (at_builtin; refine stop ?_)
  refine go ?_
  refine wpList_appStr rfl (.tmp 13) (.tmp 14) rfl A1 (l.length + (encI s.size).length) c1 (l ++ encI s.size) hlen1 rfl hown1 s rfl (by omega) ?_
  intro A2 c2 w2 hown2 ht2 hf2
  obtain ⟨hg3, hown3, hgA3, ht3, hcell3, hfree3⟩ := outStep hg1 hgA1 (l.length + (encI s.size).length + s.size) (by rw [List.length_append, size_toList, hlen1]) hown2 ht2 hf2
  have hs1 := ht1.size
  go_wp2_with fail
  go_ret
  have he : l ++ encT s = (l ++ encI s.size) ++ s.data.toList := by unfold encT; rw [List.append_assoc]
  refine ⟨rfl, A2, ⟨c2, ?_, ?_, hgA3⟩, ht1.trans ht3 (fun b hb => ?_), fun b hb => ?_⟩
  · rw [he]; exact hg3
  · rw [he]; exact hown3
  · rcases List.mem_cons.1 hb with h | h
    · exact .inl (by simp [h])
    · rcases hf1 b h with h' | h'
      · exact .inl (by simp [h'])
      · exact .inr h'
  · rcases hf2 b hb with h | h
    · exact hf1 b h
    · exact .inr (by omega)
end Go.Proofs.YtgpadejkmpfafaaDoor
