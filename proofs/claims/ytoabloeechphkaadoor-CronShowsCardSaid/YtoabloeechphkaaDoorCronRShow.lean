/- bywashref09.Two, bywashref10.digits, bywashref10.Show: the walks. -/
import Derived.Test.YtoabloeechphkaaDoorCronShow
namespace Go.Proofs.YtoabloeechphkaaDoor
open Go.RowKit Go.Shelf

theorem u8_of (n : Nat) (h : n < 256) : (UInt8.ofNat n).toNat = n := by rw [UInt8.toNat_ofNat']; exact Nat.mod_eq_of_lt h
set_option maxRecDepth 20000 in
set_option maxHeartbeats 800000 in
theorem two_any (n : Nat) (h : n < 100) (w : World) : Calls Tryd.prog 57 #[.int .i64 n] w fun e w' => e = .returned (.string (S [UInt8.ofNat (48 + n / 10), UInt8.ofNat (48 + n % 10)])) ∧ Touch [] w w' := by
  have h1 := u8_of (48 + n / 10) (by omega)
  have h2 := u8_of (48 + n % 10) (by omega)
  have hrd := RdB.new' w [UInt8.ofNat (48 + n / 10), UInt8.ofNat (48 + n % 10)] (0, 0) #[.int .u8 (48 + (n : Int) / 10), .int .u8 (48 + (n : Int) % 10)] (by
    simp [B, h1, h2]; omega)
  have hcv := run_str_of 2 (n := 2) rfl hrd
  obtain ⟨t, ht⟩ : ∃ t, t = [UInt8.ofNat (48 + n / 10), UInt8.ofNat (48 + n % 10)] := ⟨_, rfl⟩
  rw [← ht] at hcv ⊢
  clear ht
  have i0 : (0 : Int) ≤ (n : Int) := by omega
  have w1 : IntKind.u8.wrap (48 + (n : Int) / 10) = 48 + (n : Int) / 10 := IntWalk.u8_in _ (by omega)
  have w2 : IntKind.u8.wrap (48 + (n : Int) % 10) = 48 + (n : Int) % 10 := IntWalk.u8_in _ (by omega)
  have w3 : (48 + (n : Int) / 10) % 256 = 48 + (n : Int) / 10 := by omega
  have w4 : (48 + (n : Int) % 10) % 256 = 48 + (n : Int) % 10 := by omega
  have t0 := (Touch.refl [] w).alloc (.cells #[.int .u8 (48 + (n : Int) / 10), .int .u8 (48 + (n : Int) % 10)] 5)
  clear h1 h2 hrd
  go_enter Tryd.func57, Tryd.ntmps57
  go_wp2
  go_ret
  exact ⟨rfl, t0⟩
set_option maxRecDepth 20000 in
set_option maxHeartbeats 800000 in
theorem digits_any (n : Nat) (h : n < 64) (w : World) : Calls Tryd.prog 39 #[.int .i64 n] w fun e w' => e = .returned (.string (S (dg n))) ∧ Touch [] w w' := by
  have i0 : (0 : Int) ≤ (n : Int) := by omega
  by_cases h10 : n < 10
  · have h1 := u8_of (48 + n) (by omega)
    have hrd := RdB.new' w [UInt8.ofNat (48 + n)] (0, 0) #[.int .u8 (48 + (n : Int))] (by simp [B, h1]; omega)
    have hcv := run_str_of 1 (n := 1) rfl hrd
    have w1 : IntKind.u8.wrap (48 + (n : Int)) = 48 + (n : Int) := IntWalk.u8_in _ (by omega)
    have w3 : (48 + (n : Int)) % 256 = 48 + (n : Int) := by omega
    have hd : dg n = [UInt8.ofNat (48 + n)] := if_pos h10
    rw [← hd] at hcv
    have t0 := (Touch.refl [] w).alloc (.cells #[.int .u8 (48 + (n : Int))] 5)
    clear h1 hrd hd
    go_enter Tryd.func39, Tryd.ntmps39
    go_wp2
    go_ret
    exact ⟨rfl, t0⟩
  · have hd : dg n = [UInt8.ofNat (48 + n / 10), UInt8.ofNat (48 + n % 10)] := if_neg h10
    have Ht := Lib.hid (two_any n (by omega))
    rw [← hd] at Ht
    clear hd
    go_enter Tryd.func39, Tryd.ntmps39
    go_wp2_with fail
    refine (Ht.out _).mono ?_
    rintro e w1 ⟨rfl, t1⟩
    go_wp2_with fail
    go_ret
    exact ⟨rfl, t1⟩
theorem runs_next {s p : Nat} {l : List (Nat × Nat)} (h : Runs s p l) (hb : s.testBit p = false) : Runs s (p + 1) l := by
  cases h with
  | nil _ h => exact Runs.nil _ (fun j h1 h2 => h j (by omega) h2)
  | cons _ a b l h1 h2 h3 h4 h5 h6 h7 =>
    have : a ≠ p := fun e => by
      have := h5 a (Nat.le_refl _) h3
      rw [e, hb] at this; cases this
    exact Runs.cons _ a b l (by omega) (fun j h8 h9 => h2 j (by omega) h9) h3 h4 h5 h6 h7
theorem runs_here {s p : Nat} {l : List (Nat × Nat)} (h : Runs s p l) (hp : p < 64) (hb : s.testBit p = true) : ∃ b r, l = (p, b) :: r ∧ p ≤ b ∧ b < 64 ∧ (∀ j, p ≤ j → j ≤ b → s.testBit j = true) ∧ (b + 1 < 64 → s.testBit (b + 1) = false) ∧ Runs s (b + 1) r := by
  cases h with
  | nil _ h => rw [h p (Nat.le_refl _) hp] at hb; cases hb
  | cons _ a b l h1 h2 h3 h4 h5 h6 h7 =>
    have : a = p := by
      by_cases e : a = p
      · exact e
      · rw [h2 p (Nat.le_refl _) (by omega)] at hb; cases hb
    subst this
    exact ⟨b, l, rfl, h3, h4, h5, h6, h7⟩
theorem joinR_ne {l : List (Nat × Nat)} (hl : l ≠ []) (h : ∀ r ∈ l, r.1 < 64 ∧ r.2 < 64) : Lib.join (l.map runT) [44] ≠ [] := by
  cases l with
  | nil => exact absurd rfl hl
  | cons r q =>
    rw [List.map_cons, Lib.join_cons]
    have := (runT_chars (h r (by simp)).1 (h r (by simp)).2).2.1
    simp [this]
end Go.Proofs.YtoabloeechphkaaDoor
