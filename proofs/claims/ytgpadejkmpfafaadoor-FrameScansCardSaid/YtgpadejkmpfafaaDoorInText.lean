/- frame.In.Text: the next text.  -/
import Derived.Test.YtgpadejkmpfafaaDoorInInt
namespace Go.Proofs.YtgpadejkmpfafaaDoor
open Go.RowKit

/-- the next text, and what is left -/
def rdT (l : List UInt8) : Option (List UInt8 × List UInt8) :=
  match rdI l with
  | none => none
  | some (n, l') => if n < 0 ∨ (l'.length : Int) < n then none else some (l'.take n.toNat, l'.drop n.toNat)

set_option maxHeartbeats 400000 in
theorem inText_bad (g : Nat) (A : Option Addr) (l : List UInt8) (w : World) (hi : InAt w g A l true) :
    Calls Tryd.prog 19 #[.pointer (some ⟨g, 0, none⟩)] w fun e w' => e = .returned (.string (S [])) ∧ InPost g A l true w w' := by
  go_enter Tryd.func19, Tryd.ntmps19
  go_wp2_with fail
  refine (inInt_bad g A l w hi).mono ?_
  rintro e w1 ⟨rfl, A1, hi1, ht1, hf1⟩
  go_wp2_with fail
  refine (take_no g A1 l true 0 (by omega) (by omega) w1 hi1 (.inl rfl)).mono ?_
  rintro e w2 ⟨rfl, hp⟩
  have hrun := run_str_of (w := w2) (A := none) (n := 0) 0 (l := []) rfl (Rd.nil _ _)
  go_wp2
  go_ret
  exact ⟨rfl, hp.trans ht1 hf1⟩

theorem rdI_bounds {l l' : List UInt8} {n : Int} (h : rdI l = some (n, l')) : -9223372036854775808 ≤ n ∧ n ≤ 9223372036854775807 := by
  unfold rdI at h
  split at h
  · cases h
  · dsimp only at h
    split at h <;> split at h <;> first | (cases h; omega) | cases h

/-- the outcome of In.Text -/
def TextPost (g : Nat) (A : Option Addr) (l : List UInt8) (w : World) (e : Ending) (w' : World) : Prop :=
  match rdT l with
  | some (t, l') => e = .returned (.string (S t)) ∧ InPost g A l' false w w'
  | none => e = .returned (.string (S [])) ∧ ∃ l', InPost g A l' true w w'

set_option maxHeartbeats 400000 in
theorem inText_ok (g : Nat) (A : Option Addr) (l : List UInt8) (w : World) (hi : InAt w g A l false) :
    Calls Tryd.prog 19 #[.pointer (some ⟨g, 0, none⟩)] w fun e w' => TextPost g A l w e w' := by
  have hI := inInt_ok g A l w hi
  rcases hr : rdI l with _ | ⟨n, l1⟩
  · have ht : rdT l = none := by simp [rdT, hr]
    unfold IntPost at hI
    rw [hr] at hI
    unfold TextPost
    rw [ht]
    clear hr ht
    go_enter Tryd.func19, Tryd.ntmps19
    go_wp2_with fail
    refine hI.mono ?_
    rintro e w1 ⟨rfl, l1, A1, hi1, ht1, hf1⟩
    go_wp2_with fail
    refine (take_no g A1 l1 true 0 (by omega) (by omega) w1 hi1 (.inl rfl)).mono ?_
    rintro e w2 ⟨rfl, hp⟩
    have hrun := run_str_of (w := w2) (A := none) (n := 0) 0 (l := []) rfl (Rd.nil _ _)
    go_wp2
    go_ret
    exact ⟨rfl, l1, hp.trans ht1 hf1⟩
  · obtain ⟨b1, b2⟩ := rdI_bounds hr
    unfold IntPost at hI
    rw [hr] at hI
    by_cases hn : n < 0 ∨ (l1.length : Int) < n
    · have ht : rdT l = none := by simp [rdT, hr, hn]
      unfold TextPost
      rw [ht]
      clear hr ht
      go_enter Tryd.func19, Tryd.ntmps19
      go_wp2_with fail
      refine hI.mono ?_
      rintro e w1 ⟨rfl, A1, hi1, ht1, hf1⟩
      go_wp2_with fail
      refine (take_no g A1 l1 false n b1 b2 w1 hi1 (.inr hn)).mono ?_
      rintro e w2 ⟨rfl, hp⟩
      have hrun := run_str_of (w := w2) (A := none) (n := 0) 0 (l := []) rfl (Rd.nil _ _)
      go_wp2
      go_ret
      exact ⟨rfl, l1, hp.trans ht1 hf1⟩
    · obtain ⟨k, rfl⟩ : ∃ k : Nat, n = (k : Int) := ⟨n.toNat, by omega⟩
      have hk : k ≤ l1.length := by omega
      have ht : rdT l = some (l1.take k, l1.drop k) := by simp only [rdT, hr, if_neg hn]; rfl
      unfold TextPost
      rw [ht]
      have hne := hi.ne
      clear hr ht hn
      go_enter Tryd.func19, Tryd.ntmps19
      go_wp2_with fail
      refine hI.mono ?_
      rintro e w1 ⟨rfl, A1, hi1, ht1, hf1⟩
      go_wp2_with fail
      refine (take_ok g A1 l1 k hk w1 hi1).mono ?_
      rintro e w2 ⟨⟨A0, rfl, hr0, hf0⟩, hp⟩
      obtain ⟨_, _, ht2, _⟩ := id hp
      have hr2 : RdB w2 A0 (l1.take k) := Rd.touch hr0 ht2 (fun b hb hm => hi1.ne ((by simpa using hm : b = g) ▸ hf0 b hb))
      have hrun := run_str_of (w := w2) (A := A0) (n := k) k (l := l1.take k) (by rw [List.length_take]; omega) hr2
      go_wp2
      go_ret
      exact ⟨rfl, hp.trans ht1 hf1⟩
end Go.Proofs.YtgpadejkmpfafaaDoor
