/- cron.Spec.Next: the next minute that matches. For every spec and every number. -/
import Derived.Test.YtoabloeechphkaaDoorCronWithin
namespace Go.Proofs.YtoabloeechphkaaDoor
open Go.RowKit

/-- the answer: the least minute from lo on that matches, or none -/
def NextPost (c : SD) (lo : Nat) (w : World) (e : Ending) (w' : World) : Prop :=
  ((∃ n : Nat, e = .returned (.tuple #[.int .i64 n, .bool true]) ∧ lo ≤ n ∧ n < 2147483648 ∧ matchV c n = true ∧ ∀ m, lo ≤ m → m < n → matchV c m = false) ∨
    (e = .returned (.tuple #[.int .i64 0, .bool false]) ∧ ∀ m, lo ≤ m → m < 2147483648 → matchV c m = false)) ∧ Touch [] w w'

theorem date_day (x : Nat) : (dateV x).y = (dateV (x / 1440 * 1440)).y ∧ (dateV x).mo = (dateV (x / 1440 * 1440)).mo ∧ (dateV x).d = (dateV (x / 1440 * 1440)).d ∧ (dateV x).wd = (dateV (x / 1440 * 1440)).wd := by
  have e : x / 1440 * 1440 / 1440 = x / 1440 := Nat.mul_div_cancel _ (by decide)
  simp only [dateV, e]
  exact ⟨trivial, trivial, trivial, trivial⟩
theorem dayV_day (c : SD) (x : Nat) : dayV c (dateV x) = dayV c (dateV (x / 1440 * 1440)) := by
  obtain ⟨_, h2, h3, h4⟩ := date_day x
  unfold dayV; rw [h2, h3, h4]
theorem matchV_eq (c : SD) (D m : Nat) (hm : m < 1440) : matchV c (D * 1440 + m) = (dayV c (dateV (D * 1440)) && timeV c m) := by
  have e1 : (D * 1440 + m) / 1440 = D := by omega
  have e2 : (D * 1440 + m) % 1440 = m := by omega
  unfold matchV timeV
  rw [dayV_day, e1]
  have e3 : (dateV (D * 1440 + m)).h = m / 60 := by show (D * 1440 + m) % 1440 / 60 = _; rw [e2]
  have e4 : (dateV (D * 1440 + m)).mi = m % 60 := by show (D * 1440 + m) % 1440 % 60 = _; rw [e2]
  rw [e3, e4]
theorem date_y (n : Nat) (h : n < 2147483648) : (dateV n).y ≤ 10000 := by
  have := yrV_le (n / 1440)
  show 2000 + yrV (n / 1440) ≤ _
  omega
theorem day_split (x D : Nat) (h : D * 1440 ≤ x) (h2 : x < D * 1440 + 1440) : ∃ m, m < 1440 ∧ x = D * 1440 + m := ⟨x - D * 1440, by omega, by omega⟩

set_option maxRecDepth 20000 in
set_option maxHeartbeats 1600000 in
theorem next_bad (c : SD) (hc : c.Ok) (n : Int) (w : World) (hG : Gc w) (hr : c.right = false) :
    Calls Tryd.prog 17 #[c.val, .int .i64 n] w fun e w' => e = .returned (.tuple #[.int .i64 0, .bool false]) ∧ Touch [] w w' := by
  have t0 := (Touch.refl [] w).alloc (.cells c.row 27)
  have hch := check_any c hc (w.alloc (.cells c.row 27)) (hG.touch0 t0)
  have Hch := Lib.hid hch
  obtain ⟨e1, e2⟩ := SD.err_ne hr
  clear hch hr hG
  unfold SD.val SD.row at *
  go_enter Tryd.func17, Tryd.ntmps17
  go_wp2_with fail
  refine Hch.out.mono ?_
  rintro e w1 ⟨rfl, t1⟩
  go_wp2_with fail
  go_ret2
  exact ⟨rfl, t0.trans0 t1⟩
set_option maxRecDepth 20000 in
set_option maxHeartbeats 1600000 in
theorem next_end (c : SD) (hc : c.Ok) (n : Int) (hn : 2147483647 ≤ n) (w : World) (hG : Gc w) (hr : c.right = true) :
    Calls Tryd.prog 17 #[c.val, .int .i64 n] w fun e w' => e = .returned (.tuple #[.int .i64 0, .bool false]) ∧ Touch [] w w' := by
  have t0 := (Touch.refl [] w).alloc (.cells c.row 27)
  have hch := check_any c hc (w.alloc (.cells c.row 27)) (hG.touch0 t0)
  have Hch := Lib.hid hch
  obtain ⟨e1, e2⟩ := SD.err_eq hr
  clear hch hr hG
  unfold SD.val SD.row at *
  go_enter Tryd.func17, Tryd.ntmps17
  go_wp2_with fail
  refine Hch.out.mono ?_
  rintro e w1 ⟨rfl, t1⟩
  go_wp2_with fail
  go_ret2
  exact ⟨rfl, t0.trans0 t1⟩

set_option maxRecDepth 100000 in
set_option maxHeartbeats 6400000 in
theorem next_any (c : SD) (hc : c.Ok) (n : Int) (hn0 : -9223372036854775808 ≤ n) (hn : n < 2147483647) (lo : Nat) (hlo : (lo : Int) = max n (-1) + 1) (w : World) (hG : Gc w) (hr : c.right = true) :
    Calls Tryd.prog 17 #[c.val, .int .i64 n] w (NextPost c lo w) := by
  have t0 := (Touch.refl [] w).alloc (.cells c.row 27)
  have hS := specAt_new w c
  have hch := check_any c hc (w.alloc (.cells c.row 27)) (hG.touch0 t0)
  have Hch := Lib.hid hch
  obtain ⟨e1, e2⟩ := SD.err_eq hr
  have HG := Lib.hid (hG.touch0 t0)
  have h3 : ∀ n, n < 64 → ∀ w', Calls Tryd.prog 33 #[c.val, .int .i64 3, .int .i64 (n : Nat)] w' fun e w'' => e = .returned (.bool (c.has 3 n)) ∧ Touch [] w' w'' := fun n hn w' => has_any c hc 3 n (by omega) hn w'
  have hdy := fun d h1 h2 h3 w' => day_any c hc d h1 h2 h3 w'
  have hwi := fun f hf w' => within_any c hc f hf w'
  have hlo1 : lo < 2147483648 := by omega
  clear hch hr hG
  unfold SD.val DateD.val SD.row DateD.row at *
  have H3 := Lib.hid h3; have Hdy := Lib.hid hdy; have Hwi := Lib.hid hwi; have HS := Lib.hid hS
  clear h3 hdy hwi hS
  have Hlo := Lib.hid hlo
  clear hlo
  go_enter Tryd.func17, Tryd.ntmps17
  go_wp2_with fail
  refine Hch.out.mono ?_
  rintro e w1 ⟨rfl, t1⟩
  have htt := t0.trans0 t1
  have HG1 := Lib.hid (HG.out.touch0 t1)
  have HS1 := Lib.hid (HS.out.touch0 t1)
  obtain ⟨D0, hD0⟩ : ∃ D0, D0 = lo / 1440 := ⟨_, rfl⟩
  obtain ⟨F0, hF0⟩ : ∃ F0, F0 = lo % 1440 := ⟨_, rfl⟩
  have hF1 : F0 < 1440 := by omega
  have hD1 : D0 ≤ 1491309 := by omega
  have hDF : lo = D0 * 1440 + F0 := by omega
  have HDF := Lib.hid hDF
  by_cases hneg : n < -1
  · have hl0 := Hlo.out
    have z1 : D0 = 0 := by omega
    have z2 : F0 = 0 := by omega
    have Z1 := Lib.hid z1; have Z2 := Lib.hid z2
    clear hl0 z1 z2 hD0 hF0 hDF
    go_wp2_with fail
    go_loopw [7, 8] (fun f d wr => ∃ D F : Nat, D ≤ 1491400 ∧ F < 1440 ∧ Hid (lo ≤ D * 1440 + F) ∧ d = .int .i64 D ∧ f = .int .i64 F ∧ Hid (∀ m, lo ≤ m → m < D * 1440 + F → m < 2147483648 → matchV c m = false) ∧ Touch [] w1 wr) (fun _ d _ => 1500000 - (intOf d).toNat)
    case atStart => exact ⟨D0, F0, by omega, hF1, Lib.hid (by have := HDF.out; omega), by rw [Z1.out]; rfl, by rw [Z2.out]; rfl, Lib.hid (fun m h1 h2 => by have := HDF.out; omega), Touch.refl _ _⟩
    case round =>
      obtain ⟨D, F, hD, hF, hLO, rfl, rfl, hno, ht⟩ := hrel
      have hg := HG1.out.touch0 ht
      by_cases hin : D * 1440 < 2147483648
      · obtain ⟨d, hd⟩ : ∃ d, d = dateV (D * 1440) := ⟨_, rfl⟩
        have hbd := date_bd (D * 1440)
        have hyy := date_y (D * 1440) hin
        rw [← hd] at hbd hyy
        have ho := of_yes (D * 1440) hin wr hg
        rw [← hd] at ho
        have e4 : ((D * 1440 : Nat) : Int) = (D : Int) * 1440 := by omega
        rw [e4] at ho
        unfold DateD.val DateD.row at ho
        have Ho := Lib.hid ho; have Hd := Lib.hid hd
        clear ho e4 hd
        obtain ⟨b1, b2, b3, b4, b5, b6, b7, b8, b9⟩ := hbd
        have g3 := H3.out d.mo (by omega)
        have gdy := Hdy.out d (by omega) (by omega) (by omega)
        obtain ⟨p, hp⟩ : ∃ p, p = c.has 3 d.mo := ⟨_, rfl⟩
        rw [← hp] at g3
        obtain ⟨q, hq⟩ : ∃ q, q = dayV c d := ⟨_, rfl⟩
        rw [← hq] at gdy
        have G3 := Lib.hid g3; have Gdy := Lib.hid gdy; have Hp := Lib.hid hp; have Hq := Lib.hid hq
        clear g3 gdy hp hq
        have hG2 := Lib.hid hg
        clear hg
        go_wp2_with fail
        refine Ho.out.mono ?_
        rintro e w2 ⟨rfl, t2⟩
        have t2' := t2.alloc (.cells d.row 69)
        have hX := And.intro ((HS1.out.touch0 ht).touch0 t2') (dateAt_blk (heap_alloc_new w2 (.cells d.row 69)))
        unfold DateD.row at t2' hX
        have HX := Lib.hid hX
        clear hX
        obtain ⟨⟨s0, s1, s2, s3, s4, a0, a1, a2, a3, a4⟩, ⟨c0, c1, c2, c3, c4, c5⟩⟩ := HX.out
        go_wp2_with fail
        refine (G3.out _).mono ?_
        rintro e w3 ⟨rfl, t3⟩
        clear s0 s1 s2 s3 s4 a0 a1 a2 a3 a4 c0 c1 c2 c3 c4 c5
        obtain ⟨⟨s0, s1, s2, s3, s4, a0, a1, a2, a3, a4⟩, ⟨c0, c1, c2, c3, c4, c5⟩⟩ := And.intro (HX.out.1.touch0 t3) (HX.out.2.touch0 t3)
        rcases p with _ | _
        · have hdd := fun w' h => days_any d.y d.mo (by omega) b2 b3 w' h
          have Hdd := Lib.hid hdd
          have hdb := daysV_bd d.y d.mo
          clear hdd
          have t23 := t2'.trans0 t3
          have HG3 := Lib.hid (hG2.out.touch0 t23)
          go_wp2_with fail
          go_quiet ((go_at_call 35; exact Calls.q0 (Hdd.out _ (HG3.out.touch0 ((Touch.refl [] _).drewN _)))))
          go_wp2_with fail
          go_roundw
          case rel => exact ⟨D + (daysV d.y d.mo - d.d) + 1, 0, by omega, by omega, Lib.hid (by have := hLO.out; omega), by congr 1; omega, rfl, Lib.hid (fun m h1 h2 h3 => by
            rcases Nat.lt_or_ge m (D * 1440 + F) with hj | hj
            · exact hno.out m h1 hj h3
            · obtain ⟨k, hk⟩ : ∃ k, k = m / 1440 - D := ⟨_, rfl⟩
              have hk2 : m / 1440 = D + k := by omega
              have hsm := same_month D k (by rw [← Hd.out]; omega)
              obtain ⟨_, hmo, _, _⟩ := date_day m
              rw [hk2, hsm, ← Hd.out] at hmo
              unfold matchV dayV
              rw [hmo, ← Hp.out]; rfl), (ht.trans0 t23).drewN _⟩
          case measure => simp [intOf]; omega
        · rcases q with _ | _
          · go_wp2_with fail
            refine (Gdy.out _).mono ?_
            rintro e w4 ⟨rfl, t4⟩
            go_wp2_with fail
            go_roundw
            case rel => exact ⟨D + 1, 0, by omega, by omega, Lib.hid (by have := hLO.out; omega), by go_num, rfl, Lib.hid (fun m h1 h2 h3 => by
              rcases Nat.lt_or_ge m (D * 1440 + F) with hj | hj
              · exact hno.out m h1 hj h3
              · obtain ⟨j, hj2, rfl⟩ := day_split m D (by omega) (by omega)
                rw [matchV_eq c D j hj2, ← Hd.out, ← Hq.out]; rfl), (ht.trans0 t2').trans0 (t3.trans0 t4)⟩
            case measure => simp [intOf]; omega
          · go_wp2_with fail
            refine (Gdy.out _).mono ?_
            rintro e w4 ⟨rfl, t4⟩
            clear s0 s1 s2 s3 s4 a0 a1 a2 a3 a4 c0 c1 c2 c3 c4 c5
            obtain ⟨⟨s0, s1, s2, s3, s4, a0, a1, a2, a3, a4⟩, ⟨c0, c1, c2, c3, c4, c5⟩⟩ := And.intro ((HX.out.1.touch0 t3).touch0 t4) ((HX.out.2.touch0 t3).touch0 t4)
            go_wp2_with fail
            refine (Hwi.out F hF _).mono ?_
            rintro e w5 ⟨r, rfl, hwis, t5⟩
            have hnx : ∀ m, lo ≤ m → m < (D + 1) * 1440 → m < 2147483648 → (∀ j, j < 1440 → F ≤ j → D * 1440 + j = m → timeV c j = false) → matchV c m = false := fun m h1 h2 h3 h4 => by
              rcases Nat.lt_or_ge m (D * 1440 + F) with hj | hj
              · exact hno.out m h1 hj h3
              · obtain ⟨j, hj2, rfl⟩ := day_split m D (by omega) (by omega)
                rw [matchV_eq c D j hj2, h4 j hj2 (by omega) rfl]; simp
            have Hnx := Lib.hid hnx
            clear hnx
            rcases hwis with ⟨m, rfl, hm1, hm2, hm3, hm4⟩ | ⟨rfl, hm4⟩
            · have Hm3 := Lib.hid hm3; have Hm4 := Lib.hid hm4
              clear hm3 hm4
              by_cases hlt : D * 1440 + m < 2147483648
              · have HLT := Lib.hid hlt
                have zz : decide ((D : Int) * 1440 + (m : Int) < 2147483648) = true := decide_eq_true (by omega)
                clear hlt
                go_wp2_with fail
                go_ret2
                exact ⟨.inl ⟨D * 1440 + m, rfl, by have := hLO.out; omega, HLT.out, by rw [matchV_eq c D m hm2, ← Hd.out, ← Hq.out, Hm3.out]; rfl, fun x h1 h2 => Hnx.out x h1 (by omega) (by have := HLT.out; omega) (fun j h3 h4 h5 => Hm4.out j h4 (by omega))⟩, (htt.trans0 ht).trans0 ((t2'.trans0 t3).trans0 (t4.trans0 t5))⟩
              · have HLT := Lib.hid hlt
                have zz : decide ((D : Int) * 1440 + (m : Int) < 2147483648) = false := decide_eq_false (by omega)
                clear hlt
                go_wp2_with fail
                go_roundw
                case rel => exact ⟨D + 1, 0, by omega, by omega, Lib.hid (by have := hLO.out; omega), by go_num, rfl, Lib.hid (fun x h1 h2 h3 => Hnx.out x h1 (by omega) h3 (fun j h4 h5 h6 => Hm4.out j h5 (by have := HLT.out; omega))), (ht.trans0 t2').trans0 ((t3.trans0 t4).trans0 t5)⟩
                case measure => simp [intOf]; omega
            · have Hm4 := Lib.hid hm4
              clear hm4
              go_wp2_with fail
              go_roundw
              case rel => exact ⟨D + 1, 0, by omega, by omega, Lib.hid (by have := hLO.out; omega), by go_num, rfl, Lib.hid (fun x h1 h2 h3 => Hnx.out x h1 (by omega) h3 (fun j h4 h5 h6 => Hm4.out j h5 h4)), (ht.trans0 t2').trans0 ((t3.trans0 t4).trans0 t5)⟩
              case measure => simp [intOf]; omega
      · have ho := of_no (D * 1440) (.inr (by omega)) wr
        have Ho := Lib.hid ho
        clear ho
        go_wp2_with fail
        refine Ho.out.mono ?_
        rintro e w2 ⟨rfl, t2⟩
        go_wp2_with fail
        go_ret2
        exact ⟨.inr ⟨rfl, fun m h1 h2 => hno.out m h1 (by omega) h2⟩, (htt.trans0 ht).trans0 (t2.alloc _)⟩
  · have hl0 := Hlo.out
    have z1 : ((n + 1) / 1440) = (D0 : Int) := by omega
    have z2 : ((n + 1) % 1440) = (F0 : Int) := by omega
    have Z1 := Lib.hid z1; have Z2 := Lib.hid z2
    clear hl0 z1 z2 hD0 hF0 hDF
    go_wp2_with fail
    go_loopw [7, 8] (fun f d wr => ∃ D F : Nat, D ≤ 1491400 ∧ F < 1440 ∧ Hid (lo ≤ D * 1440 + F) ∧ d = .int .i64 D ∧ f = .int .i64 F ∧ Hid (∀ m, lo ≤ m → m < D * 1440 + F → m < 2147483648 → matchV c m = false) ∧ Touch [] w1 wr) (fun _ d _ => 1500000 - (intOf d).toNat)
    case atStart => exact ⟨D0, F0, by omega, hF1, Lib.hid (by have := HDF.out; omega), by rw [Z1.out], by rw [Z2.out], Lib.hid (fun m h1 h2 => by have := HDF.out; omega), Touch.refl _ _⟩
    case round =>
      obtain ⟨D, F, hD, hF, hLO, rfl, rfl, hno, ht⟩ := hrel
      have hg := HG1.out.touch0 ht
      by_cases hin : D * 1440 < 2147483648
      · obtain ⟨d, hd⟩ : ∃ d, d = dateV (D * 1440) := ⟨_, rfl⟩
        have hbd := date_bd (D * 1440)
        have hyy := date_y (D * 1440) hin
        rw [← hd] at hbd hyy
        have ho := of_yes (D * 1440) hin wr hg
        rw [← hd] at ho
        have e4 : ((D * 1440 : Nat) : Int) = (D : Int) * 1440 := by omega
        rw [e4] at ho
        unfold DateD.val DateD.row at ho
        have Ho := Lib.hid ho; have Hd := Lib.hid hd
        clear ho e4 hd
        obtain ⟨b1, b2, b3, b4, b5, b6, b7, b8, b9⟩ := hbd
        have g3 := H3.out d.mo (by omega)
        have gdy := Hdy.out d (by omega) (by omega) (by omega)
        obtain ⟨p, hp⟩ : ∃ p, p = c.has 3 d.mo := ⟨_, rfl⟩
        rw [← hp] at g3
        obtain ⟨q, hq⟩ : ∃ q, q = dayV c d := ⟨_, rfl⟩
        rw [← hq] at gdy
        have G3 := Lib.hid g3; have Gdy := Lib.hid gdy; have Hp := Lib.hid hp; have Hq := Lib.hid hq
        clear g3 gdy hp hq
        have hG2 := Lib.hid hg
        clear hg
        go_wp2_with fail
        refine Ho.out.mono ?_
        rintro e w2 ⟨rfl, t2⟩
        have t2' := t2.alloc (.cells d.row 69)
        have hX := And.intro ((HS1.out.touch0 ht).touch0 t2') (dateAt_blk (heap_alloc_new w2 (.cells d.row 69)))
        unfold DateD.row at t2' hX
        have HX := Lib.hid hX
        clear hX
        obtain ⟨⟨s0, s1, s2, s3, s4, a0, a1, a2, a3, a4⟩, ⟨c0, c1, c2, c3, c4, c5⟩⟩ := HX.out
        go_wp2_with fail
        refine (G3.out _).mono ?_
        rintro e w3 ⟨rfl, t3⟩
        clear s0 s1 s2 s3 s4 a0 a1 a2 a3 a4 c0 c1 c2 c3 c4 c5
        obtain ⟨⟨s0, s1, s2, s3, s4, a0, a1, a2, a3, a4⟩, ⟨c0, c1, c2, c3, c4, c5⟩⟩ := And.intro (HX.out.1.touch0 t3) (HX.out.2.touch0 t3)
        rcases p with _ | _
        · have hdd := fun w' h => days_any d.y d.mo (by omega) b2 b3 w' h
          have Hdd := Lib.hid hdd
          have hdb := daysV_bd d.y d.mo
          clear hdd
          have t23 := t2'.trans0 t3
          have HG3 := Lib.hid (hG2.out.touch0 t23)
          go_wp2_with fail
          go_quiet ((go_at_call 35; exact Calls.q0 (Hdd.out _ (HG3.out.touch0 ((Touch.refl [] _).drewN _)))))
          go_wp2_with fail
          go_roundw
          case rel => exact ⟨D + (daysV d.y d.mo - d.d) + 1, 0, by omega, by omega, Lib.hid (by have := hLO.out; omega), by congr 1; omega, rfl, Lib.hid (fun m h1 h2 h3 => by
            rcases Nat.lt_or_ge m (D * 1440 + F) with hj | hj
            · exact hno.out m h1 hj h3
            · obtain ⟨k, hk⟩ : ∃ k, k = m / 1440 - D := ⟨_, rfl⟩
              have hk2 : m / 1440 = D + k := by omega
              have hsm := same_month D k (by rw [← Hd.out]; omega)
              obtain ⟨_, hmo, _, _⟩ := date_day m
              rw [hk2, hsm, ← Hd.out] at hmo
              unfold matchV dayV
              rw [hmo, ← Hp.out]; rfl), (ht.trans0 t23).drewN _⟩
          case measure => simp [intOf]; omega
        · rcases q with _ | _
          · go_wp2_with fail
            refine (Gdy.out _).mono ?_
            rintro e w4 ⟨rfl, t4⟩
            go_wp2_with fail
            go_roundw
            case rel => exact ⟨D + 1, 0, by omega, by omega, Lib.hid (by have := hLO.out; omega), by go_num, rfl, Lib.hid (fun m h1 h2 h3 => by
              rcases Nat.lt_or_ge m (D * 1440 + F) with hj | hj
              · exact hno.out m h1 hj h3
              · obtain ⟨j, hj2, rfl⟩ := day_split m D (by omega) (by omega)
                rw [matchV_eq c D j hj2, ← Hd.out, ← Hq.out]; rfl), (ht.trans0 t2').trans0 (t3.trans0 t4)⟩
            case measure => simp [intOf]; omega
          · go_wp2_with fail
            refine (Gdy.out _).mono ?_
            rintro e w4 ⟨rfl, t4⟩
            clear s0 s1 s2 s3 s4 a0 a1 a2 a3 a4 c0 c1 c2 c3 c4 c5
            obtain ⟨⟨s0, s1, s2, s3, s4, a0, a1, a2, a3, a4⟩, ⟨c0, c1, c2, c3, c4, c5⟩⟩ := And.intro ((HX.out.1.touch0 t3).touch0 t4) ((HX.out.2.touch0 t3).touch0 t4)
            go_wp2_with fail
            refine (Hwi.out F hF _).mono ?_
            rintro e w5 ⟨r, rfl, hwis, t5⟩
            have hnx : ∀ m, lo ≤ m → m < (D + 1) * 1440 → m < 2147483648 → (∀ j, j < 1440 → F ≤ j → D * 1440 + j = m → timeV c j = false) → matchV c m = false := fun m h1 h2 h3 h4 => by
              rcases Nat.lt_or_ge m (D * 1440 + F) with hj | hj
              · exact hno.out m h1 hj h3
              · obtain ⟨j, hj2, rfl⟩ := day_split m D (by omega) (by omega)
                rw [matchV_eq c D j hj2, h4 j hj2 (by omega) rfl]; simp
            have Hnx := Lib.hid hnx
            clear hnx
            rcases hwis with ⟨m, rfl, hm1, hm2, hm3, hm4⟩ | ⟨rfl, hm4⟩
            · have Hm3 := Lib.hid hm3; have Hm4 := Lib.hid hm4
              clear hm3 hm4
              by_cases hlt : D * 1440 + m < 2147483648
              · have HLT := Lib.hid hlt
                have zz : decide ((D : Int) * 1440 + (m : Int) < 2147483648) = true := decide_eq_true (by omega)
                clear hlt
                go_wp2_with fail
                go_ret2
                exact ⟨.inl ⟨D * 1440 + m, rfl, by have := hLO.out; omega, HLT.out, by rw [matchV_eq c D m hm2, ← Hd.out, ← Hq.out, Hm3.out]; rfl, fun x h1 h2 => Hnx.out x h1 (by omega) (by have := HLT.out; omega) (fun j h3 h4 h5 => Hm4.out j h4 (by omega))⟩, (htt.trans0 ht).trans0 ((t2'.trans0 t3).trans0 (t4.trans0 t5))⟩
              · have HLT := Lib.hid hlt
                have zz : decide ((D : Int) * 1440 + (m : Int) < 2147483648) = false := decide_eq_false (by omega)
                clear hlt
                go_wp2_with fail
                go_roundw
                case rel => exact ⟨D + 1, 0, by omega, by omega, Lib.hid (by have := hLO.out; omega), by go_num, rfl, Lib.hid (fun x h1 h2 h3 => Hnx.out x h1 (by omega) h3 (fun j h4 h5 h6 => Hm4.out j h5 (by have := HLT.out; omega))), (ht.trans0 t2').trans0 ((t3.trans0 t4).trans0 t5)⟩
                case measure => simp [intOf]; omega
            · have Hm4 := Lib.hid hm4
              clear hm4
              go_wp2_with fail
              go_roundw
              case rel => exact ⟨D + 1, 0, by omega, by omega, Lib.hid (by have := hLO.out; omega), by go_num, rfl, Lib.hid (fun x h1 h2 h3 => Hnx.out x h1 (by omega) h3 (fun j h4 h5 h6 => Hm4.out j h5 h4)), (ht.trans0 t2').trans0 ((t3.trans0 t4).trans0 t5)⟩
              case measure => simp [intOf]; omega
      · have ho := of_no (D * 1440) (.inr (by omega)) wr
        have Ho := Lib.hid ho
        clear ho
        go_wp2_with fail
        refine Ho.out.mono ?_
        rintro e w2 ⟨rfl, t2⟩
        go_wp2_with fail
        go_ret2
        exact ⟨.inr ⟨rfl, fun m h1 h2 => hno.out m h1 (by omega) h2⟩, (htt.trans0 ht).trans0 (t2.alloc _)⟩
end Go.Proofs.YtoabloeechphkaaDoor
