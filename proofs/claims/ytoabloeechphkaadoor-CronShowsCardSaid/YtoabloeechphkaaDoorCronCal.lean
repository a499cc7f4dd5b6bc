/- calendar.Leap, Days, leaps, yearStart, split, right; bywashref09.Leap, Days. -/
import Derived.Test.YtoabloeechphkaaDoorCronG
namespace Go.Proofs.YtoabloeechphkaaDoor
open Go.RowKit

/-- the tests of a year, in the walk's spelling -/
theorem mod_t {y k : Nat} (K : Int) (hK : (k : Int) = K) (h : y % k = 0) : ((y : Int) % K == 0) = true ∧ ((y : Int) % K != 0) = false := by
  subst hK
  have e : ((y : Int) % (k : Int) == 0) = true := by rw [beq_iff_eq]; omega
  exact ⟨e, by rw [bne, e]; rfl⟩
theorem mod_f {y k : Nat} (K : Int) (hK : (k : Int) = K) (h : y % k ≠ 0) : ((y : Int) % K == 0) = false ∧ ((y : Int) % K != 0) = true := by
  subst hK
  have e : ((y : Int) % (k : Int) == 0) = false := by rw [beq_eq_false_iff_ne]; omega
  exact ⟨e, by rw [bne, e]; rfl⟩

set_option maxHeartbeats 400000 in
theorem leap_any (y : Nat) (hy : y ≤ 1000000) (w : World) : Calls Tryd.prog 51 #[.int .i64 y] w fun e w' => e = .returned (.bool (leapV y)) ∧ w = w' := by
  have L := leapV_iff y
  by_cases h4 : y % 4 = 0
  · obtain ⟨a1, a2⟩ := mod_t 4 rfl h4
    by_cases h100 : y % 100 = 0
    · obtain ⟨b1, b2⟩ := mod_t 100 rfl h100
      by_cases h400 : y % 400 = 0
      · obtain ⟨c1, c2⟩ := mod_t 400 rfl h400
        have hl : leapV y = true := L.2 ⟨h4, .inr h400⟩
        have Hl := Lib.hid hl
        clear hl L h4 h100 h400
        go_enter Tryd.func51, Tryd.ntmps51
        go_wp2
        go_ret
        exact ⟨by rw [Hl.out]; rfl, rfl⟩
      · obtain ⟨c1, c2⟩ := mod_f 400 rfl h400
        have hl : leapV y = false := by rw [Bool.eq_false_iff]; exact fun h => by have := L.1 h; omega
        have Hl := Lib.hid hl
        clear hl L h4 h100 h400
        go_enter Tryd.func51, Tryd.ntmps51
        go_wp2
        go_ret
        exact ⟨by rw [Hl.out]; rfl, rfl⟩
    · obtain ⟨b1, b2⟩ := mod_f 100 rfl h100
      have hl : leapV y = true := L.2 ⟨h4, .inl h100⟩
      have Hl := Lib.hid hl
      clear hl L h4 h100
      go_enter Tryd.func51, Tryd.ntmps51
      go_wp2
      go_ret
      exact ⟨by rw [Hl.out]; rfl, rfl⟩
  · obtain ⟨a1, a2⟩ := mod_f 4 rfl h4
    have hl : leapV y = false := by rw [Bool.eq_false_iff]; exact fun h => by have := L.1 h; omega
    have Hl := Lib.hid hl
    clear hl L h4
    go_enter Tryd.func51, Tryd.ntmps51
    go_wp2
    go_ret
    exact ⟨by rw [Hl.out]; rfl, rfl⟩

set_option maxHeartbeats 400000 in
theorem rleap_any (y : Nat) (hy : y ≤ 1000000) (w : World) : Calls Tryd.prog 49 #[.int .i64 y] w fun e w' => e = .returned (.bool (leapV y)) ∧ w = w' := by
  have L := leapV_iff y
  by_cases h400 : y % 400 = 0
  · obtain ⟨c1, c2⟩ := mod_t 400 rfl h400
    have hl : leapV y = true := L.2 ⟨by omega, .inr h400⟩
    have Hl := Lib.hid hl
    clear hl L h400
    go_enter Tryd.func49, Tryd.ntmps49
    go_wp2
    go_ret
    exact ⟨by rw [Hl.out]; rfl, rfl⟩
  · obtain ⟨c1, c2⟩ := mod_f 400 rfl h400
    by_cases h4 : y % 4 = 0
    · obtain ⟨a1, a2⟩ := mod_t 4 rfl h4
      by_cases h100 : y % 100 = 0
      · obtain ⟨b1, b2⟩ := mod_t 100 rfl h100
        have hl : leapV y = false := by rw [Bool.eq_false_iff]; exact fun h => by have := L.1 h; omega
        have Hl := Lib.hid hl
        clear hl L h4 h100 h400
        go_enter Tryd.func49, Tryd.ntmps49
        go_wp2
        go_ret
        exact ⟨by rw [Hl.out]; rfl, rfl⟩
      · obtain ⟨b1, b2⟩ := mod_f 100 rfl h100
        have hl : leapV y = true := L.2 ⟨h4, .inl h100⟩
        have Hl := Lib.hid hl
        clear hl L h4 h100 h400
        go_enter Tryd.func49, Tryd.ntmps49
        go_wp2
        go_ret
        exact ⟨by rw [Hl.out]; rfl, rfl⟩
    · obtain ⟨a1, a2⟩ := mod_f 4 rfl h4
      have hl : leapV y = false := by rw [Bool.eq_false_iff]; exact fun h => by have := L.1 h; omega
      have Hl := Lib.hid hl
      clear hl L h4 h400
      go_enter Tryd.func49, Tryd.ntmps49
      go_wp2
      go_ret
      exact ⟨by rw [Hl.out]; rfl, rfl⟩

theorem eq_t {m k : Nat} (K : Int) (hK : (k : Int) = K) (h : m = k) : ((m : Int) == K) = true := by subst hK; rw [beq_iff_eq]; omega
theorem eq_f {m k : Nat} (K : Int) (hK : (k : Int) = K) (h : m ≠ k) : ((m : Int) == K) = false := by subst hK; rw [beq_eq_false_iff_ne]; omega
theorem days_two (y : Nat) : daysV y 2 = if leapV y then 29 else 28 := rfl
theorem days_len {y m : Nat} (h0 : m ≠ 0) (h2 : m ≠ 2) : daysV y m = lenM m := by unfold daysV lenM; rw [if_neg h2, if_neg h0, if_neg h2]

set_option maxHeartbeats 400000 in
theorem days_any (y m : Nat) (hy : y ≤ 1000000) (h1 : 1 ≤ m) (h12 : m ≤ 12) (w : World) (hG : Gc w) : Calls Tryd.prog 35 #[.int .i64 y, .int .i64 m] w fun e w' => e = .returned (.int .i64 (daysV y m : Nat)) ∧ w = w' := by
  have hleap := leap_any y hy
  have Hleap := Lib.hid hleap
  clear hleap
  by_cases h2 : m = 2
  · subst h2
    have hc := hG.mon 2 (by omega)
    have hl : lenM 2 = 28 := rfl
    rw [hl] at hc
    have hd := days_two y
    clear hG
    go_enter Tryd.func35, Tryd.ntmps35
    rcases hv : leapV y with _ | _
    · rw [hv] at Hleap hd
      have Hd := Lib.hid hd
      clear hv hd hl
      go_wp2_with fail
      refine (Hleap.out _).mono ?_
      rintro e w1 ⟨rfl, rfl⟩
      go_wp2_with fail
      go_ret
      exact ⟨by rw [Hd.out]; rfl, rfl⟩
    · rw [hv] at Hleap hd
      have Hd := Lib.hid hd
      clear hv hd hl
      go_wp2_with fail
      refine (Hleap.out _).mono ?_
      rintro e w1 ⟨rfl, rfl⟩
      go_wp2_with fail
      go_ret
      exact ⟨by rw [Hd.out]; rfl, rfl⟩
  · have hc := hG.mon m (by omega)
    rw [← days_len (y := y) (by omega) h2] at hc
    have q := eq_f 2 rfl h2
    have i0 : (0 : Int) ≤ (m : Int) := by omega
    have i1 : (m : Int) < 13 := by omega
    clear h2 hG
    go_enter Tryd.func35, Tryd.ntmps35
    go_wp2_with fail
    go_ret
    exact ⟨rfl, rfl⟩

set_option maxHeartbeats 400000 in
theorem rdays_any (y m : Nat) (hy : y ≤ 1000000) (h1 : 1 ≤ m) (h12 : m ≤ 12) (w : World) : Calls Tryd.prog 50 #[.int .i64 y, .int .i64 m] w fun e w' => e = .returned (.int .i64 (daysV y m : Nat)) ∧ w = w' := by
  have hleap := rleap_any y hy
  have Hleap := Lib.hid hleap
  clear hleap
  by_cases h2 : m = 2
  · subst h2
    have hd := days_two y
    go_enter Tryd.func50, Tryd.ntmps50
    rcases hv : leapV y with _ | _
    · rw [hv] at Hleap hd
      have Hd := Lib.hid hd
      clear hv hd
      go_wp2_with fail
      refine (Hleap.out _).mono ?_
      rintro e w1 ⟨rfl, rfl⟩
      go_wp2_with fail
      go_ret
      exact ⟨by rw [Hd.out]; rfl, rfl⟩
    · rw [hv] at Hleap hd
      have Hd := Lib.hid hd
      clear hv hd
      go_wp2_with fail
      refine (Hleap.out _).mono ?_
      rintro e w1 ⟨rfl, rfl⟩
      go_wp2_with fail
      go_ret
      exact ⟨by rw [Hd.out]; rfl, rfl⟩
  · have hm : m = 1 ∨ m = 3 ∨ m = 4 ∨ m = 5 ∨ m = 6 ∨ m = 7 ∨ m = 8 ∨ m = 9 ∨ m = 10 ∨ m = 11 ∨ m = 12 := by omega
    clear h2 h1 h12
    go_enter Tryd.func50, Tryd.ntmps50
    rcases hm with rfl | rfl | rfl | rfl | rfl | rfl | rfl | rfl | rfl | rfl | rfl
    all_goals
      go_wp2_with fail
      go_ret
      exact ⟨rfl, rfl⟩

set_option maxHeartbeats 400000 in
theorem leaps_any (n : Nat) (hn : n ≤ 1000000) (w : World) : Calls Tryd.prog 68 #[.int .i64 n] w fun e w' => e = .returned (.int .i64 (leapsV n : Nat)) ∧ w = w' := by
  by_cases h0 : n = 0
  · subst h0
    go_enter Tryd.func68, Tryd.ntmps68
    go_wp2_with fail
    go_ret
    exact ⟨rfl, rfl⟩
  · have hv : (leapsV n : Int) = ((n : Int) - 1) / 4 - ((n : Int) - 1) / 100 + ((n : Int) - 1) / 400 + 1 := by
      unfold leapsV; rw [if_neg h0]; omega
    have Hv := Lib.hid hv
    have q := eq_f 0 rfl h0
    have i0 : 1 ≤ n := by omega
    clear hv h0
    go_enter Tryd.func68, Tryd.ntmps68
    go_wp2_with fail
    go_ret
    exact ⟨ret_int Hv.out.symm, rfl⟩
set_option maxHeartbeats 400000 in
theorem yearStart_any (n : Nat) (hn : n ≤ 1000000) (w : World) : Calls Tryd.prog 62 #[.int .i64 n] w fun e w' => e = .returned (.int .i64 (yearV n : Nat)) ∧ w = w' := by
  have hl := leaps_any n hn w
  have hv : (yearV n : Int) = (n : Int) * 365 + (leapsV n : Nat) := by unfold yearV; omega
  have hb := leapsV_le n
  have Hl := Lib.hid hl; have Hv := Lib.hid hv
  clear hl hv
  go_enter Tryd.func62, Tryd.ntmps62
  go_wp2_with fail
  refine Hl.out.mono ?_
  rintro e w1 ⟨rfl, rfl⟩
  go_wp2_with fail
  go_ret
  exact ⟨ret_int Hv.out.symm, rfl⟩
/-- is it a minute? -/
def minuteV (n : Int) : Bool := decide (0 ≤ n ∧ n < 2147483648)
theorem right_min (n : Int) (w : World) : Calls Tryd.prog 47 #[.int .i64 n] w fun e w' => e = .returned (.bool (minuteV n)) ∧ w = w' := by
  by_cases h0 : 0 ≤ n
  · by_cases h1 : n < 2147483648
    · have hv : minuteV n = true := decide_eq_true ⟨h0, h1⟩
      have Hv := Lib.hid hv; clear hv
      go_enter Tryd.func47, Tryd.ntmps47
      go_wp2_with fail
      go_ret
      exact ⟨by rw [Hv.out]; rfl, rfl⟩
    · have hv : minuteV n = false := decide_eq_false (fun h => h1 h.2)
      have Hv := Lib.hid hv; clear hv
      go_enter Tryd.func47, Tryd.ntmps47
      go_wp2_with fail
      go_ret
      exact ⟨by rw [Hv.out]; rfl, rfl⟩
  · have hv : minuteV n = false := decide_eq_false (fun h => h0 h.1)
    have Hv := Lib.hid hv; clear hv
    go_enter Tryd.func47, Tryd.ntmps47
    go_wp2_with fail
    go_ret
    exact ⟨by rw [Hv.out]; rfl, rfl⟩
end Go.Proofs.YtoabloeechphkaaDoor
