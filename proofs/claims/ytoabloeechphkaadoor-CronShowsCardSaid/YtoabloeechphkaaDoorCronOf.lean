/- calendar.split, calendar.Of, bywashref09.Of: the date of a minute, by the program and by the document. -/
import Derived.Test.YtoabloeechphkaaDoorCronCal
namespace Go.Proofs.YtoabloeechphkaaDoor
open Go.RowKit

theorem yrV_le (day : Nat) : yrV day * 365 ≤ day := Nat.le_trans (year_ge _) (yrV_is day).1

set_option maxRecDepth 20000 in
set_option maxHeartbeats 1600000 in
theorem split_any (day : Nat) (hd : day ≤ 2000000) (w : World) (hG : Gc w) : Calls Tryd.prog 48 #[.int .i64 day] w fun e w' =>
    e = .returned (.tuple #[.int .i64 ((2000 + yrV day : Nat) : Int), .int .i64 ((moV (2000 + yrV day) (ofV day) : Nat) : Int), .int .i64 ((ofV day - cumV (2000 + yrV day) (moV (2000 + yrV day) (ofV day)) + 1 : Nat) : Int)]) ∧ w = w' := by
  have hyb := yrV_le day
  have hg := year_guess day
  have HG := Lib.hid hG
  have Hd := Lib.hid hyb
  clear hG hyb
  go_enter Tryd.func48, Tryd.ntmps48
  go_wp2_with fail
  go_loop [5] (fun v => ∃ k : Nat, yearV k ≤ day ∧ v = .int .i64 k) (fun v => yrV day + 1 - (intOf v).toNat)
  case atStart => exact ⟨day / 146097 * 400 + day % 146097 / 366, hg, by go_num⟩
  case round =>
    clear hg
    obtain ⟨k, hk, rfl⟩ := hrel
    have hkb : k ≤ 6000 := by have := year_ge k; omega
    have hys := yearStart_any (k + 1) (by omega) w
    have Hys := Lib.hid hys
    clear hys
    have hy1 : yearV (k + 1) ≤ 3000000 := by have := year_le (k + 1); omega
    by_cases hc : yearV (k + 1) ≤ day
    · have hlt : k < yrV day := by
        rcases Nat.lt_or_ge k (yrV day) with h | h
        · exact h
        · have h1 := (yrV_is day).2
          have h2 := year_mono (show yrV day + 1 ≤ k + 1 by omega)
          omega
      have Hlt := Lib.hid hlt
      clear hlt
      go_wp2_with fail
      refine Hys.out.mono ?_
      rintro e w1 ⟨rfl, rfl⟩
      go_wp2_with fail
      go_round
      case rel => exact ⟨k + 1, hc, by go_num⟩
      case measure => have := Hlt.out; simp [intOf]; omega
    · have hn : k = yrV day := (yrV_of ⟨hk, by omega⟩).symm
      have Hn := Lib.hid hn
      have hys0 := yearStart_any k (by omega) w
      have Hys0 := Lib.hid hys0
      clear hn hys0
      go_wp2_with fail
      refine Hys.out.mono ?_
      rintro e w1 ⟨rfl, rfl⟩
      go_wp2_with fail
      refine Hys0.out.mono ?_
      rintro e w1 ⟨rfl, rfl⟩
      go_wp2_with fail
      have ho : ofV day = day - yearV k := by unfold ofV; rw [← Hn.out]
      have hM := month_is day
      have hol := ofV_lt day
      rw [← Hn.out] at hM hol
      obtain ⟨o, hoo⟩ : ∃ o, o = ofV day := ⟨_, rfl⟩
      rw [← hoo] at hM ho hol
      obtain ⟨M, hMM⟩ : ∃ M, M = moV (2000 + k) o := ⟨_, rfl⟩
      rw [← hMM] at hM
      have Ho := Lib.hid ho
      have hsz := sizeV_bd (2000 + k)
      have Hoo := Lib.hid hoo; have HMM := Lib.hid hMM
      clear hoo hMM ho
      have HM := Lib.hid hM
      clear hM
      go_loop [3, 4] (fun a b => ∃ m : Nat, 1 ≤ m ∧ m ≤ 12 ∧ cumV (2000 + k) m ≤ o ∧ a = .int .i64 m ∧ b = .int .i64 ((o - cumV (2000 + k) m : Nat) : Int)) (fun a _ => 13 - (intOf a).toNat)
      case atStart => exact ⟨1, by omega, by omega, by rw [cum_one]; omega, rfl, by rw [cum_one, Ho.out]; go_num⟩
      case round =>
        obtain ⟨m, hm1, hm2, hc1, rfl, rfl⟩ := hrel
        have hdd := days_any (2000 + k) m (by omega) hm1 hm2 w HG.out
        have hdb := daysV_bd (2000 + k) m
        have hst := cum_step (2000 + k) m hm1
        have Hdd := Lib.hid hdd; have Hst := Lib.hid hst
        clear hdd hst
        by_cases hc2 : cumV (2000 + k) m + daysV (2000 + k) m ≤ o
        · have hm3 : m < 12 := by
            rcases Nat.lt_or_ge m 12 with h | h
            · exact h
            · obtain rfl : m = 12 := by omega
              have h13 : cumV (2000 + k) (12 + 1) = sizeV (2000 + k) := cum_13 (2000 + k)
              have := Hst.out
              omega
          go_wp2_with fail
          refine Hdd.out.mono ?_
          rintro e w1 ⟨rfl, rfl⟩
          go_wp2_with fail
          refine Hdd.out.mono ?_
          rintro e w1 ⟨rfl, rfl⟩
          go_wp2_with fail
          go_round
          case rel => exact ⟨m + 1, by omega, by omega, by rw [Hst.out]; exact hc2, by go_num, by rw [Hst.out]; congr 1; omega⟩
          case measure => simp [intOf]; omega
        · have hmm : m = M := IsMonth.uniq ⟨hm1, hm2, hc1, by rw [Hst.out]; omega⟩ HM.out
          have Hmm := Lib.hid hmm
          clear hmm
          go_wp2_with fail
          refine Hdd.out.mono ?_
          rintro e w1 ⟨rfl, rfl⟩
          go_wp2_with fail
          go_ret3
          refine ⟨?_, rfl⟩
          rw [← Hn.out, ← Hoo.out, ← HMM.out, ← Hmm.out]
          simp [go_sem]

/-- a date as the program lays it -/
def DateD.row (d : DateD) : Array Value := #[.int .i64 (d.y : Nat), .int .i64 (d.mo : Nat), .int .i64 (d.d : Nat), .int .i64 (d.h : Nat), .int .i64 (d.mi : Nat), .int .i64 (d.wd : Nat)]
def DateD.val (d : DateD) : Value := .agg d.row

set_option maxRecDepth 20000 in
set_option maxHeartbeats 1600000 in
theorem of_yes (n : Nat) (hn : n < 2147483648) (w : World) (hG : Gc w) : Calls Tryd.prog 31 #[.int .i64 n] w fun e w' => e = .returned (.tuple #[(dateV n).val, .int .i64 0]) ∧ Touch [] w w' := by
  have hr := right_min n
  have hv : minuteV n = true := by unfold minuteV; exact decide_eq_true ⟨by omega, by omega⟩
  rw [hv] at hr
  have hd : n / 1440 ≤ 1491309 := by omega
  have hsp := fun w' (h : Gc w') => split_any (n / 1440) (by omega) w' h
  have hd1 : (dateV n).y = 2000 + yrV (n / 1440) := rfl
  have hd2 : (dateV n).mo = moV (2000 + yrV (n / 1440)) (ofV (n / 1440)) := rfl
  have hd3 : (dateV n).d = ofV (n / 1440) - cumV (2000 + yrV (n / 1440)) (moV (2000 + yrV (n / 1440)) (ofV (n / 1440))) + 1 := rfl
  have hd4 : ((dateV n).h : Int) = (n : Int) % 1440 / 60 := by show ((n % 1440 / 60 : Nat) : Int) = _; omega
  have hd5 : ((dateV n).mi : Int) = (n : Int) % 1440 % 60 := by show ((n % 1440 % 60 : Nat) : Int) = _; omega
  have hd6 : ((dateV n).wd : Int) = ((n : Int) / 1440 + 6) % 7 := by show (((n / 1440 + 6) % 7 : Nat) : Int) = _; omega
  rw [← hd3, ← hd2, ← hd1] at hsp
  unfold DateD.val DateD.row
  rw [hd4, hd5, hd6]
  have Hr := Lib.hid hr; have Hsp := Lib.hid hsp
  have hcast : ((n / 1440 : Nat) : Int) = (n : Int) / 1440 := by omega
  rw [hcast] at Hsp
  have HG := Lib.hid hG
  clear hr hv hsp hd1 hd2 hd3 hd4 hd5 hd6 hcast hG
  go_enter Tryd.func31, Tryd.ntmps31
  go_wp2_with fail
  refine (Hr.out _).mono ?_
  rintro e w1 ⟨rfl, rfl⟩
  go_wp2_with fail
  refine (Hsp.out _ (HG.out.touch0 (((Touch.refl [] w).alloc _).alloc _))).mono ?_
  rintro e w1 ⟨rfl, rfl⟩
  go_wp2_with fail
  refine bodyPost_ret (v := .tuple #[.agg #[.int .i64 ((dateV n).y : Nat), .int .i64 ((dateV n).mo : Nat), .int .i64 ((dateV n).d : Nat), .int .i64 ((n : Int) % 1440 / 60), .int .i64 ((n : Int) % 1440 % 60), .int .i64 (((n : Int) / 1440 + 6) % 7)], .int .i64 0]) (by simp [results, Tryd.results31, go_sem]) rfl ⟨rfl, ?_⟩
  exact ((Touch.refl [] w).alloc _).alloc _
set_option maxRecDepth 20000 in
set_option maxHeartbeats 1600000 in
theorem of_no (n : Int) (hn : n < 0 ∨ 2147483648 ≤ n) (w : World) : Calls Tryd.prog 31 #[.int .i64 n] w fun e w' => e = .returned (.tuple #[.agg #[.int .i64 0, .int .i64 0, .int .i64 0, .int .i64 0, .int .i64 0, .int .i64 0], .int .i64 30]) ∧ Touch [] w w' := by
  have hr := right_min n
  have hv : minuteV n = false := by unfold minuteV; exact decide_eq_false (by omega)
  rw [hv] at hr
  have Hr := Lib.hid hr
  clear hr hv hn
  go_enter Tryd.func31, Tryd.ntmps31
  go_wp2_with fail
  refine (Hr.out _).mono ?_
  rintro e w1 ⟨rfl, rfl⟩
  go_wp2_with fail
  refine bodyPost_ret (v := .tuple #[.agg #[.int .i64 0, .int .i64 0, .int .i64 0, .int .i64 0, .int .i64 0, .int .i64 0], .int .i64 30]) (by simp [results, Tryd.results31, go_sem]) rfl ⟨rfl, ?_⟩
  exact ((Touch.refl [] w).alloc _)
end Go.Proofs.YtoabloeechphkaaDoor
