/- bywashlaw10.CronNext: the walk of the law. For every spec and every number. -/
import Derived.Test.YtoabloeechphkaaDoorCronAwake
import Derived.Test.YtoabloeechphkaaDoorCronRM
import Derived.Test.YtoabloeechphkaaDoorCronLawR
namespace Go.Proofs.YtoabloeechphkaaDoor
open Go.RowKit

set_option maxRecDepth 100000 in
set_option maxHeartbeats 6400000 in
theorem next_law (c : SD) (hc : c.Ok) (n : Int) (hn : -9223372036854775808 ≤ n ∧ n ≤ 9223372036854775807) (w : World) (hG : Gc w) :
    Calls Tryd.prog 5 #[c.val, .int .i64 n] w fun e w' => e = .returned (.bool true) ∧ Touch [] w w' := by
  have t0 := (Touch.refl [] w).alloc (.cells c.row 27)
  have hS := specAt_new w c
  have hAw := fun w' h => awake10_any w' h
  have hR := fun w' => lright_any c hc w'
  have hF := fun w' => ref_any c hc w'
  have hRM := fun m hm w' => rmatch_any c m hm w'
  have HG := Lib.hid hG
  have hst := fun w' => run_store34 c w'
  have hin := info34 c
  obtain ⟨X, hX⟩ : ∃ X, X = (refC c).toArray := ⟨_, rfl⟩
  have hst : ∀ w' : World, (storeCells ⟨w'.heap.size, 0, none⟩ X.toList).run Tryd.prog (w'.alloc (.cells Tryd.zeroCells34 34)) = .ok () (w'.alloc (.cells X 34)) := fun w' => by rw [hX]; exact hst w'
  rw [← hX] at hF hRM hin
  have h325 : X.size = 325 := by rw [hX, List.size_toArray, refC_length]
  have Hst := Lib.hid hst; have Hin := Lib.hid hin
  clear hst hin hX
  obtain ⟨W0, hW0⟩ : ∃ W0, W0 = w.alloc (.cells c.row 27) := ⟨_, rfl⟩
  rw [← hW0] at t0 hS
  have HW := hW0
  unfold SD.row at HW
  unfold SD.val SD.row at hR hF
  have HW0 := Lib.hid HW
  have HS := Lib.hid hS; have HAw := Lib.hid hAw; have HR := Lib.hid hR; have HF := Lib.hid hF; have HRM := Lib.hid hRM
  clear hS hAw hR hF hG hRM hW0 HW
  rcases hr : c.right with _ | _
  · have hN := next_bad c hc n W0 (HG.out.touch0 t0) hr
    rw [hr] at HR
    unfold SD.val SD.row at hN ⊢
    have HN := Lib.hid hN
    clear hN hr
    go_enter Tryd.func5, Tryd.ntmps5
    obtain ⟨s0, s1, s2, s3, s4, a0, a1, a2, a3, a4⟩ := HS.out
    go_wp2_with (with_reducible rw [← HW0.out])
    refine HN.out.mono ?_
    rintro e w1 ⟨rfl, t1⟩
    clear s0 s1 s2 s3 s4 a0 a1 a2 a3 a4
    obtain ⟨s0, s1, s2, s3, s4, a0, a1, a2, a3, a4⟩ := HS.out.touch0 t1
    go_wp2_with fail
    refine (HR.out _).mono ?_
    rintro e w2 ⟨rfl, t2⟩
    go_wp2_with fail
    refine (HAw.out _ (HG.out.touch0 ((t0.trans0 t1).trans0 t2))).mono ?_
    rintro e w3 ⟨rfl, t3⟩
    go_wp2_with fail
    go_ret
    exact ⟨rfl, ((t0.trans0 t1).trans0 t2).trans0 t3⟩
  rw [hr] at HR
  by_cases hend : 2147483647 ≤ n
  · have hN := next_end c hc n hend W0 (HG.out.touch0 t0) hr
    unfold SD.val SD.row at hN ⊢
    have HN := Lib.hid hN
    clear hN hr
    go_enter Tryd.func5, Tryd.ntmps5
    obtain ⟨s0, s1, s2, s3, s4, a0, a1, a2, a3, a4⟩ := HS.out
    go_wp2_with (with_reducible rw [← HW0.out])
    refine HN.out.mono ?_
    rintro e w1 ⟨rfl, t1⟩
    clear s0 s1 s2 s3 s4 a0 a1 a2 a3 a4
    obtain ⟨s0, s1, s2, s3, s4, a0, a1, a2, a3, a4⟩ := HS.out.touch0 t1
    go_wp2_with fail
    refine (HR.out _).mono ?_
    rintro e w2 ⟨rfl, t2⟩
    go_wp2_with fail
    refine wp_loop_rounds 1 ?_
    rw [rounds_succ]
    go_wp2_with fail
    refine (HAw.out _ (HG.out.touch0 ((t0.trans0 t1).trans0 t2))).mono ?_
    rintro e w3 ⟨rfl, t3⟩
    go_wp2_with fail
    go_ret
    exact ⟨rfl, ((t0.trans0 t1).trans0 t2).trans0 t3⟩
  obtain ⟨lo, hlo⟩ : ∃ lo : Nat, (lo : Int) = max n (-1) + 1 := ⟨(max n (-1) + 1).toNat, by omega⟩
  have hlo2 : lo < 2147483648 := by omega
  have hN := next_any c hc n hn.1 (by omega) lo hlo W0 (HG.out.touch0 t0) hr
  unfold SD.val SD.row at hN ⊢
  have HN := Lib.hid hN
  clear hN hr
  go_enter Tryd.func5, Tryd.ntmps5
  obtain ⟨s0, s1, s2, s3, s4, a0, a1, a2, a3, a4⟩ := HS.out
  go_wp2_with (with_reducible rw [← HW0.out])
  refine HN.out.mono ?_
  rintro e w1 ⟨⟨N, rfl, g1, g2, g3, g4⟩ | ⟨rfl, g4⟩, t1⟩
  · have Hlo := Lib.hid hlo
    clear s0 s1 s2 s3 s4 a0 a1 a2 a3 a4 hlo
    obtain ⟨s0, s1, s2, s3, s4, a0, a1, a2, a3, a4⟩ := HS.out.touch0 t1
    have g3' := HRM.out N g2
    rw [g3] at g3'
    have H3 := Lib.hid g3'
    have H4 := Lib.hid g4
    clear g3' g3 g4
    have z1 : ((N : Int) ≤ n) = False := eq_false (by have := Hlo.out; omega)
    have z2 : ((N : Int) < 0) = False := eq_false (by omega)
    have z3 : (2147483648 ≤ (N : Int)) = False := eq_false (by omega)
    have Hg := Lib.hid (And.intro g1 (And.intro g2 (And.intro hlo2 hn)))
    clear g1 g2 hlo2 hn hend
    go_wp2_with fail
    refine (HR.out _).mono ?_
    rintro e w2 ⟨rfl, t2⟩
    clear s0 s1 s2 s3 s4 a0 a1 a2 a3 a4
    obtain ⟨s0, s1, s2, s3, s4, a0, a1, a2, a3, a4⟩ := (HS.out.touch0 t1).touch0 t2
    go_wp2_with fail
    refine (HF.out _).mono ?_
    rintro e w3 ⟨rfl, t3⟩
    go_wp2_with fail
    refine (H3.out _).mono ?_
    rintro e w4 ⟨rfl, t4⟩
    clear s0 s1 s2 s3 s4 a0 a1 a2 a3 a4
    obtain ⟨s0, s1, s2, s3, s4, a0, a1, a2, a3, a4⟩ := (((HS.out.touch0 t1).touch0 t2).touch0 t3).touch0 t4
    go_wp2_with fail
    refine (HF.out _).mono ?_
    rintro e w5 ⟨rfl, t5⟩
    have hst := Hst.out w5
    have T5 := ((((t0.trans0 t1).trans0 t2).trans0 t3).trans0 t4).trans0 t5
    have hlo := Hlo.out.symm
    go_wp2_with fail
    have hwl : wrap64 (lo : Int) = lo := IntWalk.wrap64_in _ (by have := Hg.out.2.2.1; omega)
    rw [hwl]
    clear hst s0 s1 s2 s3 s4 a0 a1 a2 a3 a4
    have tW := T5.alloc (.cells X 34)
    have hb := heap_alloc_new w5 (.cells X 34)
    obtain ⟨W, hW⟩ : ∃ W, W = w5.alloc (.cells X 34) := ⟨_, rfl⟩
    rw [← hW] at tW hb ⊢
    have HB := Lib.hid hb
    clear hW hb
    clear hlo hwl
    obtain ⟨q1, q2, q3, q4⟩ := Hg.out
    go_loopw [11] (fun mv wr => ∃ m : Nat, lo ≤ m ∧ m ≤ N ∧ mv = .int .i64 m ∧ Touch [] W wr) (fun mv _ => 2147483650 - (intOf mv).toNat)
    case atStart => exact ⟨lo, Nat.le_refl _, q1, rfl, Touch.refl _ _⟩
    case round =>
      obtain ⟨m, hm1, hm2, rfl, ht⟩ := hrel
      by_cases hgo : m < N ∧ m < lo + 3000
      · obtain ⟨hA, hB⟩ := hgo
        have hM := HRM.out m (by omega)
        rw [H4.out m hm1 hA] at hM
        have HM := Lib.hid hM
        have hrow := ht.blk HB.out (by simp)
        have y1 : ((m : Int) < (N : Int)) = True := eq_true (by omega)
        have y2 : ((m : Int) < (lo : Int) + 3000) = True := eq_true (by omega)
        clear hM
        go_wp2_with (refine wpList_load_row rfl 34 (.tmp 9) rfl w5.heap.size rfl _ _ _ _ hrow Tryd.underlying34 rfl Hin.out ?_)
        refine (HM.out _).mono ?_
        rintro e w6 ⟨rfl, t6⟩
        go_wp2_with fail
        go_roundw
        case rel => exact ⟨m + 1, by omega, by omega, by go_num, ht.trans0 t6⟩
        case measure => simp [intOf]; omega
      · have hout : (((m : Int) < (N : Int)) = True ∧ ((m : Int) < (lo : Int) + 3000) = False) ∨ ((m : Int) < (N : Int)) = False := by
          by_cases hA : m < N
          · exact .inl ⟨eq_true (by omega), eq_false (by omega)⟩
          · exact .inr (eq_false (by omega))
        have Hrest : Hid (∀ wy, Touch [] W wy → Gc wy) := Lib.hid (fun wy ty => HG.out.touch0 (tW.trans0 ty))
        rcases hout with ⟨y1, y2⟩ | y1
        all_goals
          go_wp2_with fail
          go_loopw [12] (fun mv wr2 => ∃ j : Nat, lo ≤ j ∧ j ≤ N ∧ mv = .int .i64 ((j : Int) - 1) ∧ Touch [] W wr2) (fun mv _ => (intOf mv + 1).toNat)
          case atStart => exact ⟨N, q1, Nat.le_refl _, rfl, ht⟩
          case round =>
            clear y1
            try clear y2
            clear ht
            obtain ⟨j, hj1, hj2, rfl, ht2⟩ := hrel
            by_cases hgo2 : lo + 1 ≤ j ∧ (N : Int) - 3000 < (j : Int) - 1
            · obtain ⟨hA, hB⟩ := hgo2
              have hM := HRM.out (j - 1) (by omega)
              rw [H4.out (j - 1) (by omega) (by omega)] at hM
              rw [show ((j - 1 : Nat) : Int) = (j : Int) - 1 by omega] at hM
              have HM := Lib.hid hM
              have hrow := ht2.blk HB.out (by simp)
              have y1 : ((lo : Int) ≤ (j : Int) - 1) = True := eq_true (by omega)
              have y2 : ((N : Int) - 3000 < (j : Int) - 1) = True := eq_true (by omega)
              clear hM
              go_wp2_with (refine wpList_load_row rfl 34 (.tmp 9) rfl w5.heap.size rfl _ _ _ _ hrow Tryd.underlying34 rfl Hin.out ?_)
              refine (HM.out _).mono ?_
              rintro e w6 ⟨rfl, t6⟩
              go_wp2_with fail
              go_roundw
              case rel => exact ⟨j - 1, by omega, by omega, by go_num, ht2.trans0 t6⟩
              case measure => simp [intOf]; omega
            · have hout : (((lo : Int) ≤ (j : Int) - 1) = True ∧ ((N : Int) - 3000 < (j : Int) - 1) = False) ∨ ((lo : Int) ≤ (j : Int) - 1) = False := by
                by_cases hA : lo + 1 ≤ j
                · exact .inl ⟨eq_true (by omega), eq_false (by omega)⟩
                · exact .inr (eq_false (by omega))
              rcases hout with ⟨y1, y2⟩ | y1
              all_goals
                go_wp2_with fail
                refine (HAw.out _ (Hrest.out _ ht2)).mono ?_
                rintro e w7 ⟨rfl, t7⟩
                go_wp2_with fail
                go_ret
                exact ⟨rfl, (tW.trans0 ht2).trans0 t7⟩
  · have Hlo := Lib.hid hlo
    have H4 := Lib.hid g4
    clear s0 s1 s2 s3 s4 a0 a1 a2 a3 a4 g4 hlo
    have T1 := t0.trans0 t1
    obtain ⟨s0, s1, s2, s3, s4, a0, a1, a2, a3, a4⟩ := HS.out.touch0 t1
    go_wp2_with fail
    refine (HR.out _).mono ?_
    rintro e w2 ⟨rfl, t2⟩
    clear s0 s1 s2 s3 s4 a0 a1 a2 a3 a4
    have T2 := T1.trans0 t2
    have HS2 := Lib.hid ((HS.out.touch0 t1).touch0 t2)
    go_wp2_with fail
    go_loopw [8] (fun mv wr => ∃ j : Nat, 2147480000 ≤ j ∧ j ≤ 2147483647 ∧ mv = .int .i64 j ∧ Touch [] w2 wr) (fun mv _ => (intOf mv).toNat)
    case atStart => exact ⟨2147483647, by omega, by omega, rfl, Touch.refl _ _⟩
    case round =>
      obtain ⟨j, hj1, hj2, rfl, ht⟩ := hrel
      by_cases hgo : 2147480647 < j ∧ n < (j : Int)
      · obtain ⟨hA, hB⟩ := hgo
        have hM := HRM.out j (by omega)
        rw [H4.out j (by have := Hlo.out; omega) (by omega)] at hM
        have HM := Lib.hid hM
        have y1 : ((2147480647 : Int) < (j : Int)) = True := eq_true (by omega)
        have y2 : (n < (j : Int)) = True := eq_true hB
        clear hM
        obtain ⟨s0, s1, s2, s3, s4, a0, a1, a2, a3, a4⟩ := HS2.out.touch0 ht
        go_wp2_with fail
        refine (HF.out _).mono ?_
        rintro e w5 ⟨rfl, t5⟩
        go_wp2_with fail
        refine (HM.out _).mono ?_
        rintro e w6 ⟨rfl, t6⟩
        go_wp2_with fail
        go_roundw
        case rel => exact ⟨j - 1, by omega, by omega, by go_num, (ht.trans0 t5).trans0 t6⟩
        case measure => simp [intOf]; omega
      · have hout : (((2147480647 : Int) < (j : Int)) = True ∧ (n < (j : Int)) = False) ∨ ((2147480647 : Int) < (j : Int)) = False := by
          by_cases hA : 2147480647 < j
          · exact .inl ⟨eq_true (by omega), eq_false (by omega)⟩
          · exact .inr (eq_false (by omega))
        rcases hout with ⟨y1, y2⟩ | y1
        all_goals
          go_wp2_with fail
          refine (HAw.out _ (HG.out.touch0 (T2.trans0 ht))).mono ?_
          rintro e w7 ⟨rfl, t7⟩
          go_wp2_with fail
          go_ret
          exact ⟨rfl, (T2.trans0 ht).trans0 t7⟩
end Go.Proofs.YtoabloeechphkaaDoor
