/- frame.In.Count: the next number, within bounds. -/
import Derived.Test.YtgpadejkmpfafaaDoorInText
namespace Go.Proofs.YtgpadejkmpfafaaDoor
open Go.RowKit

/-- the next count, and what is left -/
def rdC (most : Int) (l : List UInt8) : Option (Int × List UInt8) :=
  match rdI l with
  | none => none
  | some (n, l') => if n < 0 ∨ most < n then none else some (n, l')

/-- the outcome of In.Count -/
def CountPost (g : Nat) (A : Option Addr) (most : Int) (l : List UInt8) (w : World) (e : Ending) (w' : World) : Prop :=
  match rdC most l with
  | some (n, l') => e = .returned (.int .i64 n) ∧ InPost g A l' false w w'
  | none => e = .returned (.int .i64 0) ∧ ∃ l', InPost g A l' true w w'

set_option maxHeartbeats 400000 in
theorem inCount_bad (g : Nat) (A : Option Addr) (l : List UInt8) (most : Int) (w : World) (hi : InAt w g A l true) :
    Calls Tryd.prog 23 #[.pointer (some ⟨g, 0, none⟩), .int .i64 most] w fun e w' => e = .returned (.int .i64 0) ∧ InPost g A l true w w' := by
  go_enter Tryd.func23, Tryd.ntmps23
  go_wp2_with fail
  refine (inInt_bad g A l w hi).mono ?_
  rintro e w1 ⟨rfl, A1, hi1, ht1, hf1⟩
  by_cases hm : most < 0
  · obtain ⟨c1, hc1, hg1, hgl1, hc01, hc11, hfr1, hfr11⟩ := hi1.mk'
    have PB := hi1.spoil
    clear hg1
    go_wp2
    go_ret
    exact ⟨rfl, PB.trans ht1 hf1⟩
  · go_wp2
    go_ret
    exact ⟨rfl, A1, hi1, ht1, hf1⟩

set_option maxHeartbeats 400000 in
theorem inCount_ok (g : Nat) (A : Option Addr) (l : List UInt8) (most : Int) (w : World) (hi : InAt w g A l false) :
    Calls Tryd.prog 23 #[.pointer (some ⟨g, 0, none⟩), .int .i64 most] w fun e w' => CountPost g A most l w e w' := by
  have hI := inInt_ok g A l w hi
  rcases hr : rdI l with _ | ⟨n, l1⟩
  · have ht : rdC most l = none := by simp [rdC, hr]
    unfold IntPost at hI
    rw [hr] at hI
    unfold CountPost
    rw [ht]
    clear hr ht
    go_enter Tryd.func23, Tryd.ntmps23
    go_wp2_with fail
    refine hI.mono ?_
    rintro e w1 ⟨rfl, l1, A1, hi1, ht1, hf1⟩
    by_cases hm : most < 0
    · obtain ⟨c1, hc1, hg1, hgl1, hc01, hc11, hfr1, hfr11⟩ := hi1.mk'
      have PB := hi1.spoil
      clear hg1
      go_wp2
      go_ret
      exact ⟨rfl, l1, PB.trans ht1 hf1⟩
    · go_wp2
      go_ret
      exact ⟨rfl, l1, A1, hi1, ht1, hf1⟩
  · unfold IntPost at hI
    rw [hr] at hI
    by_cases hn : n < 0 ∨ most < n
    · have ht : rdC most l = none := by simp [rdC, hr, hn]
      unfold CountPost
      rw [ht]
      clear hr ht
      go_enter Tryd.func23, Tryd.ntmps23
      go_wp2_with fail
      refine hI.mono ?_
      rintro e w1 ⟨rfl, A1, hi1, ht1, hf1⟩
      obtain ⟨c1, hc1, hg1, hgl1, hc01, hc11, hfr1, hfr11⟩ := hi1.mk'
      have PB := hi1.spoil
      clear hg1
      by_cases hn0 : n < 0
      · clear hn
        go_wp2
        go_ret
        exact ⟨rfl, l1, PB.trans ht1 hf1⟩
      · have hn1 : most < n := by omega
        clear hn
        go_wp2
        go_ret
        exact ⟨rfl, l1, PB.trans ht1 hf1⟩
    · have ht : rdC most l = some (n, l1) := by simp only [rdC, hr, if_neg hn]
      unfold CountPost
      rw [ht]
      have hn0 : 0 ≤ n := by omega
      have hn1 : n ≤ most := by omega
      clear hr ht hn
      go_enter Tryd.func23, Tryd.ntmps23
      go_wp2_with fail
      refine hI.mono ?_
      rintro e w1 ⟨rfl, A1, hi1, ht1, hf1⟩
      go_wp2
      go_ret
      exact ⟨rfl, A1, hi1, ht1, hf1⟩
end Go.Proofs.YtgpadejkmpfafaaDoor
