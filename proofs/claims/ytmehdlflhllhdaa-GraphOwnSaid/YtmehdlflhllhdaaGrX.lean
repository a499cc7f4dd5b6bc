/- slices.IndexFunc and slices.ContainsFunc at New's closure: is one no node? For every list. -/
import Derived.Test.YtmehdlflhllhdaaGrG
namespace Go.Proofs.Ytmehdlflhllhdaa
open Go.RowKit

/-- a node of n -/
def nodeB (n : Nat) (k : Int) : Bool := decide (0 ≤ k ∧ k < n)
theorem nodeB_iff {n : Nat} {k : Int} : nodeB n k = true ↔ 0 ≤ k ∧ k < n := by unfold nodeB; simp
/-- all are nodes -/
def allN (n : Nat) (l : List Int) : Bool := l.all (nodeB n)

set_option maxHeartbeats 400000 in
theorem close_any (b g : Nat) (X : GX) (n : Nat) (k : Int) (w : World) (hb : w.cell? ⟨b, 0, none⟩ = some (gP g)) (h : HdAt w g X n) :
    Calls Try.prog 26 #[.int .i64 k, .pointer (some ⟨b, 0, none⟩)] w fun e w' => e = .returned (.bool (!nodeB n k)) ∧ w' = w := by
  have hh := has_any g X n k w h
  change Calls _ _ _ _ (fun e w' => e = .returned (.bool (nodeB n k)) ∧ w' = w) at hh
  obtain ⟨v, hv⟩ : ∃ v, v = nodeB n k := ⟨_, rfl⟩
  rw [← hv] at hh ⊢
  clear hv
  go_enter Try.func26, Try.ntmps26
  go_wp2_with fail
  refine hh.mono ?_
  rintro e w1 ⟨rfl, rfl⟩
  clear hh
  go_wp2
  go_ret
  exact ⟨rfl, rfl⟩

set_option maxHeartbeats 1000000 in
theorem indexF_any (b g : Nat) (X : GX) (n : Nat) (A : Option Addr) (c m : Nat) (l : List Int) (hm : l.length = m) (hl : m ≤ 1000000000) (w : World) (hb : w.cell? ⟨b, 0, none⟩ = some (gP g)) (h : HdAt w g X n) (hr : RdI w A l) :
    Calls Try.prog 37 #[.slice A m c, .func (.func 26) #[] #[.pointer (some ⟨b, 0, none⟩)]] w fun e w' => (∃ i : Int, e = .returned (.int .i64 i) ∧ -1 ≤ i ∧ i ≤ 1000000000 ∧ decide (0 ≤ i) = !allN n l) ∧ w' = w := by
  subst hm
  have hc := fun k => close_any b g X n k w hb h
  go_enter Try.func37, Try.ntmps37
  go_wp2
  go_loop [8] (fun i => ∃ k : Nat, k ≤ l.length ∧ i = .int .i64 k ∧ (l.take k).all (nodeB n) = true) (fun i => l.length - (intOf i).toNat)
  case atStart => exact ⟨0, by omega, rfl, by simp⟩
  case round =>
    obtain ⟨k, hk, rfl, hno⟩ := hrel
    have Hno := Lib.hid hno
    clear hno
    by_cases hlt : k < l.length
    · obtain ⟨ad, rfl, hck⟩ := hr.at_ k hlt
      have Hs := Lib.hid (List.take_succ_eq_append_getElem hlt)
      have Hm := Lib.hid (List.getElem_mem hlt)
      obtain ⟨x, hx⟩ : ∃ x, x = l[k] := ⟨_, rfl⟩
      rw [← hx] at hck Hs Hm
      have hcx := hc x
      clear hx hc
      rcases hv : nodeB n x with _ | _
      · rw [hv] at hcx
        have Hf : Hid (allN n l = false) := Lib.hid (by unfold allN; rw [List.all_eq_false]; exact ⟨x, Hm.out, by rw [hv]; simp⟩)
        clear hv
        go_wp2_with fail
        refine hcx.mono ?_
        rintro e w1 ⟨rfl, rfl⟩
        clear hcx
        go_wp2
        go_ret
        exact ⟨⟨(k : Int), rfl, by omega, by omega, by rw [Hf.out]; simp⟩, rfl⟩
      · rw [hv] at hcx
        have Hv := Lib.hid hv
        clear hv
        go_wp2_with fail
        refine hcx.mono ?_
        rintro e w1 ⟨rfl, rfl⟩
        clear hcx
        go_wp2
        go_round
        case rel => exact ⟨k + 1, by omega, by go_num, by rw [Hs.out, List.all_append, Hno.out]; simp [Hv.out]⟩
        case measure => simp [intOf]; omega
    · obtain rfl : k = l.length := by omega
      have Ht : Hid (allN n l = true) := Lib.hid (by have := Hno.out; rwa [List.take_length] at this)
      go_wp2
      go_ret
      exact ⟨⟨-1, rfl, by omega, by omega, by rw [Ht.out]; simp⟩, rfl⟩

set_option maxHeartbeats 800000 in
theorem contains_any (b g : Nat) (X : GX) (n : Nat) (A : Option Addr) (c m : Nat) (l : List Int) (hm : l.length = m) (hl : m ≤ 1000000000) (w : World) (hb : w.cell? ⟨b, 0, none⟩ = some (gP g)) (h : HdAt w g X n) (hr : RdI w A l) :
    Calls Try.prog 25 #[.slice A m c, .func (.func 26) #[] #[.pointer (some ⟨b, 0, none⟩)]] w fun e w' => e = .returned (.bool (!allN n l)) ∧ w' = w := by
  have hi := indexF_any b g X n A c m l hm hl w hb h hr
  have Hi := Lib.hid hi
  clear hi
  go_enter Try.func25, Try.ntmps25
  go_wp2_with fail
  refine Hi.out.mono ?_
  rintro e w1 ⟨⟨i, rfl, i1, i2, i3⟩, rfl⟩
  have I3 := Lib.hid i3
  clear i3
  go_wp2
  go_ret
  exact ⟨ret_bool (by rw [← I3.out]), rfl⟩
end Go.Proofs.Ytmehdlflhllhdaa
