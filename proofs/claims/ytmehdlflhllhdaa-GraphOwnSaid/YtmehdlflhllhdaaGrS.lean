/- bywashlaw16.same and small; bywashref16.Has. For every list. -/
import Derived.Test.YtmehdlflhllhdaaGrM
import Derived.BigQuiet
namespace Go.Proofs.Ytmehdlflhllhdaa
open Go.RowKit

/-- stands x in l? -/
def hasL (l : List Int) (x : Int) : Bool := decide (x ∈ l)
theorem hasL_iff {l : List Int} {x : Int} : hasL l x = true ↔ x ∈ l := by unfold hasL; simp
/-- are two lists one? -/
def oneL (l r : List Int) : Bool := decide (l = r)
theorem oneL_iff {l r : List Int} : oneL l r = true ↔ l = r := by unfold oneL; simp

set_option maxHeartbeats 800000 in
/-- bywashref16.Has -/
theorem refHas_any (A : Option Addr) (c n : Nat) (l : List Int) (hn : l.length = n) (hl : n ≤ 2000000000) (x : Int) (w : World) (h : RdI w A l) :
    Calls Try.prog 14 #[.slice A n c, .int .i64 x] w fun e w' => e = .returned (.bool (hasL l x)) ∧ w' = w := by
  subst hn
  go_enter Try.func14, Try.ntmps14
  go_wp2
  go_loop [5] (fun i => ∃ k : Nat, k ≤ l.length ∧ i = .int .i64 k ∧ x ∉ l.take k) (fun i => l.length - (intOf i).toNat)
  case atStart => exact ⟨0, by omega, rfl, by simp⟩
  case round =>
    obtain ⟨k, hk, rfl, hno⟩ := hrel
    have Hno := Lib.hid hno
    clear hno
    by_cases hlt : k < l.length
    · obtain ⟨ad, rfl, hc⟩ := h.at_ k hlt
      by_cases hx : l[k] = x
      · have Hin : Hid (hasL l x = true) := Lib.hid (hasL_iff.2 (by rw [← hx]; simp))
        rw [hx] at hc
        clear hx
        go_wp2
        go_ret
        exact ⟨ret_bool Hin.out.symm, rfl⟩
      · have hx' : (l[k] = x) = False := by simpa using hx
        have Hs := Lib.hid (List.take_succ_eq_append_getElem hlt)
        go_wp2
        go_round
        case rel => exact ⟨k + 1, by omega, by go_num, by rw [Hs.out]; simp only [List.mem_append, List.mem_singleton, not_or]; exact ⟨Hno.out, fun e => hx e.symm⟩⟩
        case measure => simp [intOf]; omega
    · obtain rfl : k = l.length := by omega
      have Hin : Hid (hasL l x = false) := Lib.hid (by have := Hno.out; rw [List.take_length] at this; unfold hasL; simpa using this)
      go_wp2
      go_ret
      exact ⟨ret_bool Hin.out.symm, rfl⟩

set_option maxHeartbeats 1600000 in
/-- bywashlaw16.same -/
theorem same_any (A : Option Addr) (c n : Nat) (l : List Int) (hn : l.length = n) (B : Option Addr) (d m : Nat) (r : List Int) (hm : r.length = m) (hl : n ≤ 2000000000) (hr : m ≤ 2000000000) (w : World) (h : RdI w A l) (g : RdI w B r) :
    Calls Try.prog 15 #[.slice A n c, .slice B m d] w fun e w' => e = .returned (.bool (oneL l r)) ∧ Touch [] w w' := by
  by_cases hnm : n = m
  · subst hnm
    go_enter Try.func15, Try.ntmps15
    go_wp2
    go_loopw [13] (fun i wr => ∃ k : Nat, k ≤ n ∧ i = .int .i64 k ∧ l.take k = r.take k ∧ Touch [] w wr) (fun i _ => n - (intOf i).toNat)
    case atStart => exact ⟨0, by omega, rfl, by simp, Touch.refl _ _⟩
    case round =>
      obtain ⟨k, hk, rfl, he, ht⟩ := hrel
      have He := Lib.hid he
      clear he
      by_cases hlt : k < n
      · have hlk : k < l.length := by omega
        have hrk : k < r.length := by omega
        obtain ⟨ad, rfl, hc⟩ := (show RdI wr A l from h.touch0 ht).at_ k hlk
        obtain ⟨ad2, rfl, hc2⟩ := (show RdI wr B r from g.touch0 ht).at_ k hrk
        have Hs := Lib.hid (List.take_succ_eq_append_getElem hlk)
        have Hs2 := Lib.hid (List.take_succ_eq_append_getElem hrk)
        have Hne : Hid (l[k] ≠ r[k] → oneL l r = false) := Lib.hid fun hx => by
          unfold oneL; simp only [decide_eq_false_iff_not]; intro e; subst e; exact hx rfl
        obtain ⟨a, ha⟩ : ∃ a, a = l[k] := ⟨_, rfl⟩
        obtain ⟨b, hb⟩ : ∃ b, b = r[k] := ⟨_, rfl⟩
        rw [← ha] at hc
        rw [← hb] at hc2
        have Ha := Lib.hid ha
        have Hb := Lib.hid hb
        clear ha hb
        by_cases hx : a = b
        · subst hx
          go_wp2_with fail
          go_quiet (fail)
          go_wp2_with fail
          go_roundw
          case rel => exact ⟨k + 1, by omega, by go_num, by rw [Hs.out, Hs2.out, He.out, ← Ha.out, ← Hb.out], ht.drewN _⟩
          case measure => simp [intOf]; omega
        · have Hf := Lib.hid (Hne.out (by rw [← Ha.out, ← Hb.out]; exact hx))
          have hx' : (a = b) = False := by simpa using hx
          go_wp2_with fail
          go_quiet (fail)
          go_wp2_with fail
          go_ret
          exact ⟨ret_bool Hf.out.symm, ht.drewN _⟩
      · obtain rfl : k = n := by omega
        have Hin : Hid (oneL l r = true) := Lib.hid (by
          have := He.out
          rw [List.take_of_length_le (by omega), List.take_of_length_le (by omega)] at this
          exact oneL_iff.2 this)
        go_wp2
        go_ret
        exact ⟨ret_bool Hin.out.symm, ht⟩
  · have Hf : Hid (oneL l r = false) := Lib.hid (by
      unfold oneL; simp only [decide_eq_false_iff_not]; intro e; subst e; omega)
    have hne : ((n : Int) = (m : Int)) = False := by simp; omega
    go_enter Try.func15, Try.ntmps15
    go_wp2
    go_ret
    exact ⟨ret_bool Hf.out.symm, Touch.refl _ _⟩

/-- may a graph be gone through? -/
def smallB (n : Int) (ls : List (List Int)) : Bool := ls.all (fun l => decide (l.length ≤ 40)) && decide (n ≤ 24) && decide (ls.length ≤ 40)
theorem smallB_iff {n : Int} {ls : List (List Int)} : smallB n ls = true ↔ (∀ l ∈ ls, l.length ≤ 40) ∧ n ≤ 24 ∧ ls.length ≤ 40 := by
  unfold smallB; simp [and_assoc]

set_option maxHeartbeats 1600000 in
theorem small_any (n : Int) (A : Option Addr) (c m : Nat) (ls : List (List Int)) (hm : ls.length = m) (hl : m ≤ maxLen) (w : World) (h : InR w A ls) (hb : ∀ l ∈ ls, l.length ≤ maxLen) :
    Calls Try.prog 9 #[.int .i64 n, .slice A m c] w fun e w' => e = .returned (.bool (smallB n ls)) ∧ w' = w := by
  subst hm
  unfold maxLen at hl
  go_enter Try.func9, Try.ntmps9
  go_wp2
  go_loop [9] (fun i => ∃ k : Nat, k ≤ ls.length ∧ i = .int .i64 k ∧ ∀ l ∈ ls.take k, l.length ≤ 40) (fun i => ls.length - (intOf i).toNat)
  case atStart => exact ⟨0, by omega, rfl, by simp⟩
  case round =>
    obtain ⟨k, hk, rfl, hno⟩ := hrel
    have Hno := Lib.hid hno
    clear hno
    by_cases hlt : k < ls.length
    · obtain ⟨ad, A', c', rfl, hc, _, _⟩ := h.at_ k hlt
      have hbk := hb _ (List.getElem_mem hlt)
      unfold maxLen at hbk
      have Hs := Lib.hid (List.take_succ_eq_append_getElem hlt)
      have Hmem := Lib.hid (List.getElem_mem hlt)
      obtain ⟨q, hq⟩ : ∃ q, q = ls[k].length := ⟨_, rfl⟩
      rw [← hq] at hc hbk
      have Hq := Lib.hid hq
      clear hq
      by_cases hx : 40 < q
      · have Hf : Hid (smallB n ls = false) := Lib.hid (by
          rcases hb : smallB n ls with _ | _
          · rfl
          · have := (smallB_iff.1 hb).1 _ Hmem.out; have := Hq.out; omega)
        go_wp2
        go_ret
        exact ⟨ret_bool Hf.out.symm, rfl⟩
      · go_wp2
        go_round
        case rel => exact ⟨k + 1, by omega, by go_num, by
          rw [Hs.out]; intro l hlm
          rcases List.mem_append.1 hlm with h1 | h1
          · exact Hno.out l h1
          · simp only [List.mem_singleton] at h1; subst h1; rw [← Hq.out]; omega⟩
        case measure => simp [intOf]; omega
    · obtain rfl : k = ls.length := by omega
      have Hall : Hid (∀ l ∈ ls, l.length ≤ 40) := Lib.hid (by have := Hno.out; rwa [List.take_length] at this)
      have Hsm : Hid (smallB n ls = (decide (n ≤ 24) && decide (ls.length ≤ 40))) := Lib.hid (by
        unfold smallB
        rw [show ls.all (fun l => decide (l.length ≤ 40)) = true by simpa using Hall.out]
        simp)
      by_cases h1 : n ≤ 24
      · by_cases h2 : ls.length ≤ 40
        · go_wp2
          go_ret
          exact ⟨ret_bool (by rw [Hsm.out]; simp [h1, h2] <;> omega), rfl⟩
        · have h2' : ((ls.length : Int) ≤ 40) = False := by simp; omega
          go_wp2
          go_ret
          exact ⟨ret_bool (by rw [Hsm.out]; simp [h1, h2] <;> omega), rfl⟩
      · have h1' : (n ≤ 24) = False := by simpa using h1
        go_wp2
        go_ret
        exact ⟨ret_bool (by rw [Hsm.out]; simp <;> omega), rfl⟩
end Go.Proofs.Ytmehdlflhllhdaa
