/- bywashref09.Of: the date of a minute as the document says; the program's date is the same. -/
import Derived.Test.YtoabloeechphkaaDoorCronOf
namespace Go.Proofs.YtoabloeechphkaaDoor
open Go.RowKit

set_option maxRecDepth 20000 in
set_option maxHeartbeats 3200000 in
theorem rof_any (n : Nat) (hn : n < 2147483648) (w : World) : Calls Tryd.prog 34 #[.int .i64 n] w fun e w' => e = .returned (dateV n).val ∧ Touch [] w w' := by
  have hd : n / 1440 ≤ 1491309 := by omega
  have hd1 : (dateV n).y = 2000 + yrV (n / 1440) := rfl
  have hd2 : (dateV n).mo = moV (2000 + yrV (n / 1440)) (ofV (n / 1440)) := rfl
  have hd3 : (dateV n).d = ofV (n / 1440) - cumV (2000 + yrV (n / 1440)) (moV (2000 + yrV (n / 1440)) (ofV (n / 1440))) + 1 := rfl
  have hd4 : ((dateV n).h : Int) = (n : Int) % 1440 / 60 := by show ((n % 1440 / 60 : Nat) : Int) = _; omega
  have hd5 : ((dateV n).mi : Int) = (n : Int) % 1440 % 60 := by show ((n % 1440 % 60 : Nat) : Int) = _; omega
  have hd6 : ((dateV n).wd : Int) = ((n : Int) / 1440 + 6) % 7 := by show (((n / 1440 + 6) % 7 : Nat) : Int) = _; omega
  unfold DateD.val DateD.row
  rw [hd4, hd5, hd6]
  have hcast : ((n / 1440 : Nat) : Int) = (n : Int) / 1440 := by omega
  obtain ⟨day, hday⟩ : ∃ day, day = n / 1440 := ⟨_, rfl⟩
  rw [← hday] at hd hd1 hd2 hd3 hcast
  have D1 := Lib.hid hd1; have D2 := Lib.hid hd2; have D3 := Lib.hid hd3
  have Hc := Lib.hid hcast
  have hyb := yrV_le day
  have Hyb := Lib.hid hyb
  clear hd1 hd2 hd3 hd4 hd5 hd6 hcast hday hyb
  go_enter Tryd.func34, Tryd.ntmps34
  go_wp2_with fail
  rw [← Hc.out]
  have tW := (Touch.refl [] w).alloc (.cells #[.int .i64 0, .int .i64 0, .int .i64 0, .int .i64 0, .int .i64 0, .int .i64 0] 74)
  obtain ⟨W, hW⟩ : ∃ W, W = w.alloc (.cells #[.int .i64 0, .int .i64 0, .int .i64 0, .int .i64 0, .int .i64 0, .int .i64 0] 74) := ⟨_, rfl⟩
  rw [← hW] at tW ⊢
  have hb : W.heap[w.heap.size]? = some (.cells #[.int .i64 0, .int .i64 0, .int .i64 0, .int .i64 0, .int .i64 0, .int .i64 0] 74 (0, 0)) := by rw [hW]; exact heap_alloc_new w _
  have HW := Lib.hid hW
  have HB := Lib.hid hb
  clear hW hb
  go_loop [5, 6, 7] (fun l y _ => ∃ k : Nat, yearV k ≤ day ∧ l = .int .i64 ((day - yearV k : Nat) : Int) ∧ y = .int .i64 ((2000 + k : Nat) : Int)) (fun _ y _ => 2000 + yrV day + 1 - (intOf y).toNat)
  case atStart => exact ⟨0, by rw [year_zero]; omega, by rw [year_zero]; rfl, rfl⟩
  case round =>
    obtain ⟨k, hk, rfl, rfl⟩ := hrel
    have hkb : k ≤ 6000 := by have := year_ge k; omega
    have hl := rleap_any (2000 + k) (by omega) W
    have hst := year_step k
    have hsz : sizeV (2000 + k) = if leapV (2000 + k) then 366 else 365 := rfl
    have Hst := Lib.hid hst
    by_cases hc : yearV (k + 1) ≤ day
    · have hlt : k < yrV day := by
        rcases Nat.lt_or_ge k (yrV day) with h | h
        · exact h
        · have h1 := (yrV_is day).2
          have h2 := year_mono (show yrV day + 1 ≤ k + 1 by omega)
          omega
      have Hlt := Lib.hid hlt
      clear hlt hst
      rcases hv : leapV (2000 + k) with _ | _
      all_goals
        rw [hv] at hl hsz
        simp only [if_true, if_false, Bool.false_eq_true] at hsz
        rw [hsz] at Hst
        have Hl := Lib.hid hl
        have hge := Hst.out
        have hge2 : yearV k + 365 ≤ day := by omega
        have hge3 : yearV (k + 1) - yearV k ≤ day - yearV k := by omega
        rw [Hst.out] at hge3 hc
        clear hl hsz hv hge
        go_wp2_with fail
        refine Hl.out.mono ?_
        rintro e w1 ⟨rfl, rfl⟩
        go_wp2_with fail
        go_round
        case rel => exact ⟨k + 1, by rw [Hst.out]; exact hc, by rw [Hst.out]; congr 1; omega, by go_num⟩
        case measure => have := Hlt.out; simp [intOf]; omega
    · have hn : k = yrV day := (yrV_of ⟨hk, by omega⟩).symm
      have Hn := Lib.hid hn
      clear hn
      rcases hv : leapV (2000 + k) with _ | _
      all_goals
        rw [hv] at hl hsz
        simp only [if_true, if_false, Bool.false_eq_true] at hsz
        have Hsz := Lib.hid hsz
        rw [hsz] at hst
        have Hl := Lib.hid hl
        have hlt : day - yearV k < 366 := by omega
        have hlt2 := hc
        rw [hst] at hlt2
        clear hl hsz hv hst
        go_wp2_with fail
        refine Hl.out.mono ?_
        rintro e w1 ⟨rfl, rfl⟩
        go_wp2_with fail
        have ho : ofV day = day - yearV k := by unfold ofV; rw [← Hn.out]
        have hM := month_is day
        have hol := ofV_lt day
        rw [← Hn.out] at hM hol
        rw [← ho] at hlt ⊢
        obtain ⟨o, hoo⟩ : ∃ o, o = ofV day := ⟨_, rfl⟩
        rw [← hoo] at hM ho hol hlt ⊢
        obtain ⟨M, hMM⟩ : ∃ M, M = moV (2000 + k) o := ⟨_, rfl⟩
        rw [← hMM] at hM
        have hsz2 := sizeV_bd (2000 + k)
        have Hoo := Lib.hid hoo; have HMM := Lib.hid hMM
        clear hoo hMM ho
        have HM := Lib.hid hM
        clear hM
        go_loop [5, 8] (fun b a => ∃ m : Nat, 1 ≤ m ∧ m ≤ 12 ∧ cumV (2000 + k) m ≤ o ∧ a = .int .i64 m ∧ b = .int .i64 ((o - cumV (2000 + k) m : Nat) : Int)) (fun _ a => 13 - (intOf a).toNat)
        case atStart => exact ⟨1, by omega, by omega, by rw [cum_one]; omega, rfl, by rw [cum_one]; rfl⟩
        case round =>
          obtain ⟨m, hm1, hm2, hc1, rfl, rfl⟩ := hrel
          have hdd := rdays_any (2000 + k) m (by omega) hm1 hm2 W
          have hdb := daysV_bd (2000 + k) m
          have hst := cum_step (2000 + k) m hm1
          have Hdd := Lib.hid hdd; have Hst2 := Lib.hid hst
          clear hdd hst
          by_cases hc2 : cumV (2000 + k) m + daysV (2000 + k) m ≤ o
          · have hm3 : m < 12 := by
              rcases Nat.lt_or_ge m 12 with h | h
              · exact h
              · obtain rfl : m = 12 := by omega
                have h13 : cumV (2000 + k) (12 + 1) = sizeV (2000 + k) := cum_13 (2000 + k)
                have := Hst2.out
                omega
            go_wp2_with fail
            refine Hdd.out.mono ?_
            rintro e w1 ⟨rfl, rfl⟩
            go_wp2_with fail
            refine Hdd.out.mono ?_
            rintro e w1 ⟨rfl, rfl⟩
            go_wp2_with fail
            go_round
            case rel => exact ⟨m + 1, by omega, by omega, by rw [Hst2.out]; exact hc2, by go_num, by rw [Hst2.out]; congr 1; omega⟩
            case measure => simp [intOf]; omega
          · have hmm : m = M := IsMonth.uniq ⟨hm1, hm2, hc1, by rw [Hst2.out]; omega⟩ HM.out
            have Hmm := Lib.hid hmm
            clear hmm
            have hBl := HB.out
            have hlt3 : w.heap.size < W.heap.size := (Array.getElem?_eq_some_iff.1 hBl).1
            have hcell := fun i v h => cell_blk (i := i) (v := v) hBl h
            have c0 := hcell 0 _ rfl
            have c1 := hcell 1 _ rfl
            have c2 := hcell 2 _ rfl
            have c3 := hcell 3 _ rfl
            have c4 := hcell 4 _ rfl
            have c5 := hcell 5 _ rfl
            have f0 : ∀ i, W.frozen? ⟨w.heap.size, i, none⟩ = false := fun i => by simp [World.frozen?, hBl]
            clear hcell
            have HB2 := Lib.hid hBl
            clear hBl
            go_wp2_with fail
            refine Hdd.out.mono ?_
            rintro e w1 ⟨rfl, rfl⟩
            go_wp2_with fail
            have E1 : ((dateV n).y : Int) = 2000 + (k : Int) := by rw [D1.out, ← Hn.out]; omega
            have E2 : ((dateV n).mo : Int) = (m : Int) := by rw [D2.out, ← Hn.out, ← Hoo.out, ← HMM.out, Hmm.out]
            have E3 : ((dateV n).d : Int) = ((o - cumV (2000 + k) m : Nat) : Int) + 1 := by rw [D3.out, ← Hn.out, ← Hoo.out, ← HMM.out, ← Hmm.out]; rfl
            have E5 : (n : Int) % 1440 % 60 = (n : Int) % 60 := by omega
            refine bodyPost_ret (results_cell_row rfl _ _ w.heap.size _ _ _ _ rfl (set_blk (set_blk (set_blk (set_blk (set_blk (set_blk HB2.out 0 _) 1 _) 2 _) 3 _) 4 _) 5 _) Tryd.underlying74 rfl rfl) rfl ?_
            refine ⟨?_, (((((tW.setCell (.inr (Nat.le_refl _)) _).setCell (.inr (Nat.le_refl _)) _).setCell (.inr (Nat.le_refl _)) _).setCell (.inr (Nat.le_refl _)) _).setCell (.inr (Nat.le_refl _)) _).setCell (.inr (Nat.le_refl _)) _⟩
            rw [E1, E2, E3, E5, ← Hc.out]
            rfl
end Go.Proofs.YtoabloeechphkaaDoor
