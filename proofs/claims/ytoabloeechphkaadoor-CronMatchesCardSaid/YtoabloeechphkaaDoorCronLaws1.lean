/- bywashlaw10.CronMatches: the walk of the law. For every spec and every number. -/
import Derived.Test.YtoabloeechphkaaDoorCronAwake
import Derived.Test.YtoabloeechphkaaDoorCronRM
import Derived.Test.YtoabloeechphkaaDoorCronLawR
namespace Go.Proofs.YtoabloeechphkaaDoor
open Go.RowKit

set_option maxRecDepth 100000 in
set_option maxHeartbeats 6400000 in
theorem matches_law (c : SD) (hc : c.Ok) (n : Int) (hn : -9223372036854775808 ≤ n ∧ n ≤ 9223372036854775807) (w : World) (hG : Gc w) :
    Calls Tryd.prog 4 #[c.val, .int .i64 n] w fun e w' => e = .returned (.bool true) ∧ Touch [] w w' := by
  have t0 := (Touch.refl [] w).alloc (.cells c.row 27)
  have hS := specAt_new w c
  have hAw := fun w' h => awake10_any w' h
  have hR := fun w' => lright_any c hc w'
  have hF := fun w' => ref_any c hc w'
  have HG := Lib.hid hG
  unfold SD.val SD.row at *
  have HS := Lib.hid hS; have HAw := Lib.hid hAw; have HR := Lib.hid hR; have HF := Lib.hid hF
  clear hS hAw hR hF hG
  by_cases hin : 0 ≤ n ∧ n < 2147483648
  · obtain ⟨m, rfl⟩ := Int.eq_ofNat_of_zero_le hin.1
    have hm : m < 2147483648 := by omega
    have hM := fun w' h => match_any c hc m hm w' h
    have hRM := fun w' => rmatch_any c m hm w'
    unfold SD.val SD.row at hM
    obtain ⟨b, hb⟩ : ∃ b, b = matchV c m := ⟨_, rfl⟩
    obtain ⟨r, hr⟩ : ∃ r, r = c.right := ⟨_, rfl⟩
    rw [← hb] at hM hRM
    rw [← hr] at hM HR
    have HM := Lib.hid hM; have HRM := Lib.hid hRM
    clear hM hRM hb hr
    go_enter Tryd.func4, Tryd.ntmps4
    obtain ⟨s0, s1, s2, s3, s4, a0, a1, a2, a3, a4⟩ := HS.out
    go_wp2_with fail
    refine (HM.out _ (HG.out.touch0 t0)).mono ?_
    rintro e w1 ⟨rfl, t1⟩
    clear s0 s1 s2 s3 s4 a0 a1 a2 a3 a4
    obtain ⟨s0, s1, s2, s3, s4, a0, a1, a2, a3, a4⟩ := HS.out.touch0 t1
    go_wp2_with fail
    refine (HR.out _).mono ?_
    rintro e w2 ⟨rfl, t2⟩
    clear s0 s1 s2 s3 s4 a0 a1 a2 a3 a4
    obtain ⟨s0, s1, s2, s3, s4, a0, a1, a2, a3, a4⟩ := (HS.out.touch0 t1).touch0 t2
    rcases r with _ | _
    · go_wp2_with fail
      refine (HAw.out _ (HG.out.touch0 ((t0.trans0 t1).trans0 t2))).mono ?_
      rintro e w3 ⟨rfl, t3⟩
      go_wp2_with fail
      go_ret
      exact ⟨rfl, ((t0.trans0 t1).trans0 t2).trans0 t3⟩
    · go_wp2_with fail
      refine (HF.out _).mono ?_
      rintro e w3 ⟨rfl, t3⟩
      go_wp2_with fail
      refine (HRM.out _).mono ?_
      rintro e w4 ⟨rfl, t4⟩
      rcases b with _ | _
      all_goals
        go_wp2_with fail
        refine (HAw.out _ (HG.out.touch0 ((((t0.trans0 t1).trans0 t2).trans0 t3).trans0 t4))).mono ?_
        rintro e w5 ⟨rfl, t5⟩
        go_wp2_with fail
        go_ret
        exact ⟨rfl, ((((t0.trans0 t1).trans0 t2).trans0 t3).trans0 t4).trans0 t5⟩
  · have hM := fun w' => match_no c n (by omega) w'
    unfold SD.val SD.row at hM
    obtain ⟨r, hr⟩ : ∃ r, r = c.right := ⟨_, rfl⟩
    rw [← hr] at HR
    have HM := Lib.hid hM
    clear hM hr
    go_enter Tryd.func4, Tryd.ntmps4
    obtain ⟨s0, s1, s2, s3, s4, a0, a1, a2, a3, a4⟩ := HS.out
    go_wp2_with fail
    refine (HM.out _).mono ?_
    rintro e w1 ⟨rfl, t1⟩
    clear s0 s1 s2 s3 s4 a0 a1 a2 a3 a4
    obtain ⟨s0, s1, s2, s3, s4, a0, a1, a2, a3, a4⟩ := HS.out.touch0 t1
    go_wp2_with fail
    refine (HR.out _).mono ?_
    rintro e w2 ⟨rfl, t2⟩
    rcases r with _ | _
    · go_wp2_with fail
      refine (HAw.out _ (HG.out.touch0 ((t0.trans0 t1).trans0 t2))).mono ?_
      rintro e w3 ⟨rfl, t3⟩
      go_wp2_with fail
      go_ret
      exact ⟨rfl, ((t0.trans0 t1).trans0 t2).trans0 t3⟩
    · by_cases h0 : n < 0
      · go_wp2_with fail
        refine (HAw.out _ (HG.out.touch0 ((t0.trans0 t1).trans0 t2))).mono ?_
        rintro e w3 ⟨rfl, t3⟩
        go_wp2_with fail
        go_ret
        exact ⟨rfl, ((t0.trans0 t1).trans0 t2).trans0 t3⟩
      · have h1 : 2147483648 ≤ n := by omega
        go_wp2_with fail
        refine (HAw.out _ (HG.out.touch0 ((t0.trans0 t1).trans0 t2))).mono ?_
        rintro e w3 ⟨rfl, t3⟩
        go_wp2_with fail
        go_ret
        exact ⟨rfl, ((t0.trans0 t1).trans0 t2).trans0 t3⟩
end Go.Proofs.YtoabloeechphkaaDoor
