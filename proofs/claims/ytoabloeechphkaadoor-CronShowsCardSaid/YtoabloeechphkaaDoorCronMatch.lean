/- cron.Spec.Match: does a minute match? For every spec and every number. -/
import Derived.Test.YtoabloeechphkaaDoorCronDay
namespace Go.Proofs.YtoabloeechphkaaDoor
open Go.RowKit

theorem SD.err_ne {c : SD} (h : c.right = false) : (c.err == 0) = false ∧ (c.err != 0) = true := by rw [SD.err_no h]; exact ⟨rfl, rfl⟩
theorem SD.err_eq {c : SD} (h : c.right = true) : (c.err == 0) = true ∧ (c.err != 0) = false := by rw [SD.err_yes h]; exact ⟨rfl, rfl⟩

set_option maxRecDepth 20000 in
set_option maxHeartbeats 1600000 in
theorem match_no (c : SD) (n : Int) (hn : n < 0 ∨ 2147483648 ≤ n) (w : World) :
    Calls Tryd.prog 15 #[c.val, .int .i64 n] w fun e w' => e = .returned (.bool false) ∧ Touch [] w w' := by
  have ho := of_no n hn
  have Ho := Lib.hid ho
  clear ho hn
  unfold SD.val SD.row
  go_enter Tryd.func15, Tryd.ntmps15
  have t0 := (Touch.refl [] w).alloc (.cells c.row 27)
  unfold SD.row at t0
  go_wp2_with fail
  refine (Ho.out _).mono ?_
  rintro e w1 ⟨rfl, t1⟩
  go_wp2_with fail
  go_ret
  exact ⟨rfl, (t0.trans0 t1).alloc _⟩

set_option maxRecDepth 20000 in
set_option maxHeartbeats 3200000 in
theorem match_any (c : SD) (hc : c.Ok) (n : Nat) (hn : n < 2147483648) (w : World) (hG : Gc w) :
    Calls Tryd.prog 15 #[c.val, .int .i64 n] w fun e w' => e = .returned (.bool (c.right && matchV c n)) ∧ Touch [] w w' := by
  obtain ⟨d, hd⟩ : ∃ d, d = dateV n := ⟨_, rfl⟩
  have hbd := date_bd n
  rw [← hd] at hbd
  have ho := fun w' h => of_yes n hn w' h
  rw [← hd] at ho
  have hch := fun w' h => check_any c hc w' h
  have hdy := fun w' => day_any c hc d (by omega) (by omega) (by omega) w'
  have h1 : ∀ w', Calls Tryd.prog 33 #[c.val, .int .i64 1, .int .i64 (d.h : Nat)] w' fun e w'' => e = .returned (.bool (c.has 1 d.h)) ∧ Touch [] w' w'' := fun w' => has_any c hc 1 d.h (by omega) (by omega) w'
  have h0 : ∀ w', Calls Tryd.prog 33 #[c.val, .int .i64 0, .int .i64 (d.mi : Nat)] w' fun e w'' => e = .returned (.bool (c.has 0 d.mi)) ∧ Touch [] w' w'' := fun w' => has_any c hc 0 d.mi (by omega) (by omega) w'
  have hv : (c.right && matchV c n) = (c.right && (dayV c d && (c.has 1 d.h && c.has 0 d.mi))) := by rw [hd]; rfl
  obtain ⟨p, hp⟩ : ∃ p, p = dayV c d := ⟨_, rfl⟩
  obtain ⟨q, hq⟩ : ∃ q, q = c.has 1 d.h := ⟨_, rfl⟩
  rw [← hp, ← hq] at hv
  rw [← hp] at hdy
  rw [← hq] at h1
  have Ho := Lib.hid ho; have Hch := Lib.hid hch; have Hdy := Lib.hid hdy; have H1 := Lib.hid h1; have H0 := Lib.hid h0; have Hv := Lib.hid hv
  clear ho hch hdy h1 h0 hv hd hp hq hbd
  unfold SD.val DateD.val SD.row DateD.row at *
  have t0 := (Touch.refl [] w).alloc (.cells c.row 27)
  have hS := specAt_new w c
  unfold SD.row at t0 hS
  have HG := Lib.hid hG; clear hG
  have HS := Lib.hid hS; clear hS
  go_enter Tryd.func15, Tryd.ntmps15
  go_wp2_with fail
  refine (Ho.out _ (HG.out.touch0 t0)).mono ?_
  rintro e w1 ⟨rfl, t1⟩
  have t1' := t1.alloc (.cells d.row 69)
  have hD := dateAt_blk (heap_alloc_new w1 (.cells d.row 69))
  unfold DateD.row at t1' hD
  obtain ⟨s0, s1, s2, s3, s4, a0, a1, a2, a3, a4⟩ := HS.out.touch0 t1'
  obtain ⟨c0, c1, c2, c3, c4, c5⟩ := hD
  rcases hr : c.right with _ | _
  · have Hr := Lib.hid hr
    obtain ⟨e1, e2⟩ := SD.err_ne hr
    clear hr
    go_wp2_with fail
    refine (Hch.out _ (HG.out.touch0 (t0.trans0 t1'))).mono ?_
    rintro e w2 ⟨rfl, t2⟩
    go_wp2_with fail
    go_ret
    exact ⟨ret_bool (by rw [Hr.out]; rfl), (t0.trans0 t1').trans0 t2⟩
  · have Hr := Lib.hid hr
    obtain ⟨e1, e2⟩ := SD.err_eq hr
    clear hr
    go_wp2_with fail
    refine (Hch.out _ (HG.out.touch0 (t0.trans0 t1'))).mono ?_
    rintro e w2 ⟨rfl, t2⟩
    have HX : Hid _ := Lib.hid (And.intro ((HS.out.touch0 t1').touch0 t2) ((dateAt_blk (heap_alloc_new w1 (.cells d.row 69))).touch0 t2))
    clear s0 s1 s2 s3 s4 a0 a1 a2 a3 a4 c0 c1 c2 c3 c4 c5
    obtain ⟨⟨s0, s1, s2, s3, s4, a0, a1, a2, a3, a4⟩, ⟨c0, c1, c2, c3, c4, c5⟩⟩ := HX.out
    go_wp2_with fail
    refine (Hdy.out _).mono ?_
    rintro e w3 ⟨rfl, t3⟩
    clear s0 s1 s2 s3 s4 a0 a1 a2 a3 a4 c0 c1 c2 c3 c4 c5
    obtain ⟨⟨s0, s1, s2, s3, s4, a0, a1, a2, a3, a4⟩, ⟨c0, c1, c2, c3, c4, c5⟩⟩ := And.intro (HX.out.1.touch0 t3) (HX.out.2.touch0 t3)
    rcases p with _ | _
    · go_wp2_with fail
      go_ret
      exact ⟨ret_bool (by rw [Hv.out, Hr.out]; rfl), ((t0.trans0 t1').trans0 t2).trans0 t3⟩
    · go_wp2_with fail
      refine (H1.out _).mono ?_
      rintro e w4 ⟨rfl, t4⟩
      clear s0 s1 s2 s3 s4 a0 a1 a2 a3 a4 c0 c1 c2 c3 c4 c5
      obtain ⟨⟨s0, s1, s2, s3, s4, a0, a1, a2, a3, a4⟩, ⟨c0, c1, c2, c3, c4, c5⟩⟩ := And.intro ((HX.out.1.touch0 t3).touch0 t4) ((HX.out.2.touch0 t3).touch0 t4)
      rcases q with _ | _
      · go_wp2_with fail
        go_ret
        exact ⟨ret_bool (by rw [Hv.out, Hr.out]; rfl), (((t0.trans0 t1').trans0 t2).trans0 t3).trans0 t4⟩
      · go_wp2_with fail
        refine (H0.out _).mono ?_
        rintro e w5 ⟨rfl, t5⟩
        go_wp2_with fail
        go_ret
        exact ⟨ret_bool (by rw [Hv.out, Hr.out]; simp), ((((t0.trans0 t1').trans0 t2).trans0 t3).trans0 t4).trans0 t5⟩
end Go.Proofs.YtoabloeechphkaaDoor
