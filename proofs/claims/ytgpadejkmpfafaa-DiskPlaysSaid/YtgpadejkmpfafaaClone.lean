/- bytes.Clone: a copy of its own. For every slice of bytes. -/
import Derived.Test.YtgpadejkmpfafaaBase
namespace Go.Proofs.Ytgpadejkmpfafaa
open Go.RowKit

def CloneAt (l : List UInt8) (w w' : World) (A : Option Addr) (c : Nat) : Prop := OwnB w' A c l ∧ Touch [] w w' ∧ ∀ b ∈ fpo A, w.heap.size ≤ b

set_option maxHeartbeats 400000 in
theorem clone_any (A : Option Addr) (c : Nat) (l : List UInt8) (w : World) (h : RdB w A l) (hl : l.length ≤ 140737488000000) :
    Calls Try.prog 36 #[.slice A l.length c] w fun e w' => ∃ A' c', e = .returned (.slice A' l.length c') ∧ CloneAt l w w' A' c' := by
  go_enter Try.func36, Try.ntmps36
  rcases A with _ | ad
  · have h0 : l = [] := by
      rcases List.eq_nil_or_concat l with h0 | ⟨m, b, h0⟩
      · exact h0
      · obtain ⟨_, hx, _⟩ := h (by subst h0; simp)
        cases hx
    subst h0
    clear hl h
    have hnil : (binOp .eql 26 (.slice none 0 c) (.slice none 0 0)).run Try.prog w = .ok (.bool true) w := Lib.run_eql_slice_nil (P := Try.prog) w 26 5 none 0 c 0 0 Try.underlying26
    go_wp2
    go_ret
    exact ⟨none, 0, rfl, OwnB.nil _, Touch.refl _ _, by simp [fpo]⟩
  · have hnil : (binOp .eql 26 (.slice (some ad) l.length c) (.slice none 0 0)).run Try.prog w = .ok (.bool false) w := Lib.run_eql_slice_nil (P := Try.prog) w 26 5 (some ad) l.length c 0 0 Try.underlying26
    go_wp2_with (at_builtin; refine wpList_appB rfl (.tmp 5) (.tmp 6) rfl (some ⟨w.heap.size, 0, none⟩) 0 0 [] rfl rfl (OwnB.empty_new w) (some ad) l.length c l rfl rfl (h.touch0 ((Touch.refl [] w).alloc _)) (by omega) ?_; intro A1 c1 w1 hown1 ht1 hf1)
    go_ret
    exact ⟨A1, c1, ret_slice (by simp), hown1, ((Touch.refl [] w).alloc _).trans ht1 (by simp [fpo]), fun b hb => by
      rcases hf1 b hb with h | h
      · simp [fpo] at h; omega
      · simp at h; omega⟩
theorem clone_len (A : Option Addr) (n c : Nat) (l : List UInt8) (hn : l.length = n) (w : World) (h : RdB w A l) (hl : n ≤ 140737488000000) :
    Calls Try.prog 36 #[.slice A n c] w fun e w' => ∃ A' c', e = .returned (.slice A' n c') ∧ CloneAt l w w' A' c' := by
  subst hn
  exact clone_any A c l w h hl
theorem RdB.take {w : World} {A : Option Addr} {l : List UInt8} (h : RdB w A l) (k : Nat) : RdB w A (l.take k) := by
  have := Rd.cut h (A' := A) (k := 0) (n := k) (fun ad e _ => by rw [e]; simp [Addr.add])
  unfold RdB
  rw [List.map_take]
  simpa using this
end Go.Proofs.Ytgpadejkmpfafaa
