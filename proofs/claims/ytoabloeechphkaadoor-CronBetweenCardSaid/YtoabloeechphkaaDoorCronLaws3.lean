/- bywashlaw10.CronBetween: the walk of the law. For every spec and all numbers. -/
import Derived.Test.YtoabloeechphkaaDoorCronAwake
import Derived.Test.YtoabloeechphkaaDoorCronBet
import Derived.Test.YtoabloeechphkaaDoorCronRM
import Derived.Test.YtoabloeechphkaaDoorCronLawR
namespace Go.Proofs.YtoabloeechphkaaDoor
open Go.RowKit

theorem bet_at (c : SD) (lo m q : Nat) (h1 : lo ≤ m) (h2 : m < q) (hm : matchV c m = true) : (bet c lo q)[(bet c lo m).length]? = some m ∧ (bet c lo m).length < (bet c lo q).length := by
  obtain ⟨rest, hr⟩ := bet_pre c lo (m + 1) (q - (m + 1))
  rw [show m + 1 + (q - (m + 1)) = q by omega, bet_succ, hm, decide_eq_true h1] at hr
  rw [hr]
  simp
theorem bet_no (c : SD) (lo m : Nat) (hm : matchV c m = false) : bet c lo (m + 1) = bet c lo m := by
  rw [bet_succ, hm]; simp

set_option maxRecDepth 100000 in
set_option maxHeartbeats 12800000 in
theorem between_law (c : SD) (hc : c.Ok) (f : Int) (hf : -9223372036854775808 ≤ f ∧ f ≤ 9223372036854775807) (t : Int) (hf2 : -9223372036854775808 ≤ t ∧ t ≤ 9223372036854775807) (w : World) (hG : Gc w) :
    Calls Tryd.prog 6 #[c.val, .int .i64 f, .int .i64 t] w fun e w' => e = .returned (.bool true) ∧ Touch [] w w' := by
  have t0 := (Touch.refl [] w).alloc (.cells c.row 27)
  have hS := specAt_new w c
  have hAw := fun w' h => awake10_any w' h
  have hR := fun w' => lright_any c hc w'
  have hF := fun w' => ref_any c hc w'
  have hRM := fun m hm w' => rmatch_any c m hm w'
  have HG := Lib.hid hG
  obtain ⟨W0, hW0⟩ : ∃ W0, W0 = w.alloc (.cells c.row 27) := ⟨_, rfl⟩
  rw [← hW0] at t0 hS
  have HW := hW0
  unfold SD.row at HW
  unfold SD.val SD.row at hR hF
  have HW0 := Lib.hid HW
  have hB := between_any c hc f t hf W0 (HG.out.touch0 t0)
  have HS := Lib.hid hS; have HAw := Lib.hid hAw; have HR := Lib.hid hR; have HF := Lib.hid hF; have HRM := Lib.hid hRM
  unfold SD.val SD.row at hB ⊢
  have HB := Lib.hid hB
  clear hS hAw hR hF hG hRM hW0 HW hB
  go_enter Tryd.func6, Tryd.ntmps6
  obtain ⟨s0, s1, s2, s3, s4, a0, a1, a2, a3, a4⟩ := HS.out
  go_wp2_with (with_reducible rw [← HW0.out])
  refine HB.out.mono ?_
  rintro e w1 ⟨⟨lo, hi, A, cap, hr, rfl, rfl, hlh, hhi, hlen, rfl, hown, hA⟩ | ⟨rfl, hwhy⟩, t1⟩
  · rw [hr] at HR
    have Hown := Lib.hid hown; have Hlen := Lib.hid hlen
    have Hbl := Lib.hid (bet_len c lo)
    obtain ⟨L, hL⟩ : ∃ L, L = bet c lo (hi + 1) := ⟨_, rfl⟩
    rw [← hL] at Hown Hlen ⊢
    have HL := Lib.hid hL
    have hbn := Hlen.out
    clear hown hlen hr hL
    have i1 : ¬ (hi : Int) < (lo : Int) - 1 := by omega
    have i2 : ¬ (lo : Int) - 1 < -1 := by omega
    obtain ⟨n, hn⟩ : ∃ n, n = L.length := ⟨_, rfl⟩
    rw [← hn] at hbn ⊢
    have Hn := Lib.hid hn
    clear hn
    clear s0 s1 s2 s3 s4 a0 a1 a2 a3 a4
    obtain ⟨s0, s1, s2, s3, s4, a0, a1, a2, a3, a4⟩ := HS.out.touch0 t1
    go_wp2_with fail
    refine (HR.out _).mono ?_
    rintro e w2 ⟨rfl, t2⟩
    by_cases h9 : 9000 < (hi : Int) - ((lo : Int) - 1)
    · go_wp2_with fail
      refine (HAw.out _ (HG.out.touch0 ((t0.trans0 t1).trans0 t2))).mono ?_
      rintro e w9 ⟨rfl, t9⟩
      go_wp2_with fail
      go_ret
      exact ⟨rfl, ((t0.trans0 t1).trans0 t2).trans0 t9⟩
    · clear s0 s1 s2 s3 s4 a0 a1 a2 a3 a4
      obtain ⟨s0, s1, s2, s3, s4, a0, a1, a2, a3, a4⟩ := (HS.out.touch0 t1).touch0 t2
      go_wp2_with fail
      refine (HF.out _).mono ?_
      rintro e w3 ⟨rfl, t3⟩
      have hst := run_store34 c w3
      have T3 := ((t0.trans0 t1).trans0 t2).trans0 t3
      go_wp2_with fail
      clear hst s0 s1 s2 s3 s4 a0 a1 a2 a3 a4
      have tW := T3.alloc (.cells (refC c).toArray 34)
      have tA := (((Touch.refl [] w1).trans0 t2).trans0 t3).alloc (.cells (refC c).toArray 34)
      have hb := heap_alloc_new w3 (.cells (refC c).toArray 34)
      obtain ⟨W, hW⟩ : ∃ W, W = w3.alloc (.cells (refC c).toArray 34) := ⟨_, rfl⟩
      rw [← hW] at tW hb tA ⊢
      have HBk := Lib.hid hb
      have HO := Lib.hid (Hown.out.touch0 tA)
      clear hW hb tA
      go_loopw [10, 11] (fun iv mv wr => ∃ m k : Nat, lo ≤ m ∧ m ≤ hi + 1 ∧ k ≤ n ∧ Hid (k = (bet c lo m).length) ∧ iv = .int .i64 k ∧ mv = .int .i64 m ∧ Touch [] W wr) (fun _ mv _ => 2147483650 - (intOf mv).toNat)
      case atStart => exact ⟨lo, 0, by omega, by omega, by omega, Lib.hid (by rw [bet_start]; rfl), rfl, by go_num, Touch.refl _ _⟩
      case round =>
        obtain ⟨m, k, hm1, hm2, hkn, hk, rfl, rfl, ht⟩ := hrel
        by_cases hlt : m < hi + 1
        · have hrow := ht.blk HBk.out (by simp)
          have hM := HRM.out m (by omega)
          rcases hmv : matchV c m with _ | _
          · rw [hmv] at hM
            have HM := Lib.hid hM
            have he := bet_no c lo m hmv
            have He := Lib.hid he
            clear hM hmv he
            go_wp2_with (refine wpList_load_row rfl 34 (.tmp 9) rfl w3.heap.size rfl _ _ _ _ hrow Tryd.underlying34 rfl (info34 c) ?_)
            refine (HM.out _).mono ?_
            rintro e w4 ⟨rfl, t4⟩
            go_wp2_with fail
            go_roundw
            case rel => exact ⟨m + 1, k, by omega, by omega, hkn, Lib.hid (by rw [He.out]; exact hk.out), rfl, by go_num, ht.trans0 t4⟩
            case measure => simp [intOf]; omega
          · rw [hmv] at hM
            have HM := Lib.hid hM
            obtain ⟨hat, hlt2⟩ := bet_at c lo m (hi + 1) hm1 hlt hmv
            have hbs : bet c lo (m + 1) = bet c lo m ++ [m] := by rw [bet_succ, hmv, decide_eq_true hm1]; rfl
            have Hbs := Lib.hid hbs
            rw [← hk.out, ← HL.out] at hat hlt2
            have hkL : k < n := by rw [Hn.out]; exact hlt2
            have hri := (HO.out.touch0 ht).rd
            have Hri := Lib.hid hri
            have Hat := Lib.hid hat
            clear hM hmv hat hri hbs hlt2
            go_wp2_with (refine wpList_load_row rfl 34 (.tmp 9) rfl w3.heap.size rfl _ _ _ _ hrow Tryd.underlying34 rfl (info34 c) ?_)
            refine (HM.out _).mono ?_
            rintro e w4 ⟨rfl, t4⟩
            obtain ⟨ad, bb, off, hAe, had, -, hcell⟩ := (Hri.out.touch0 t4).at_ 1 encN_len (by omega) k (by rw [← Hn.out]; exact hkL)
            have hcell := hcell 0 (.int .i64 (m : Nat)) (by
              have h1 := Hat.out
              rw [List.getElem?_eq_getElem (by rw [← Hn.out]; exact hkL)] at h1
              injection h1 with h1
              rw [h1]; rfl)
            rw [Nat.mul_one] at had
            rw [Nat.add_zero] at hcell
            subst hAe
            have k0 : (0 : Int) ≤ (k : Int) := by omega
            have k1 : ¬ (n : Int) ≤ (k : Int) := by omega
            have k2 : (k : Int) < (n : Int) := by omega
            go_wp2_with fail
            go_roundw
            case rel => exact ⟨m + 1, k + 1, by omega, by omega, by omega, Lib.hid (by rw [Hbs.out, List.length_append, ← hk.out]; rfl), by go_num, by go_num, ht.trans0 t4⟩
            case measure => simp [intOf]; omega
        · obtain rfl : m = hi + 1 := by omega
          have hkn2 : k = n := by rw [hk.out, Hn.out, HL.out]
          subst hkn2
          go_wp2_with fail
          refine (HAw.out _ (HG.out.touch0 (tW.trans0 ht))).mono ?_
          rintro e w9 ⟨rfl, t9⟩
          go_wp2_with fail
          go_ret
          exact ⟨rfl, (tW.trans0 ht).trans0 t9⟩
  · by_cases hgood : c.right = true ∧ f ≤ t ∧ -1 ≤ f ∧ 0 ≤ t ∧ t < 2147483648
    · obtain ⟨hr, g1, g2, g3, g4⟩ := hgood
      have h9 : 9000 < t - f := by
        rcases hwhy with h | h | h | h | h | ⟨lo, hi, h1, h2, h3⟩
        · rw [hr] at h; cases h
        · omega
        · omega
        · omega
        · omega
        · have := bet_len c lo (hi + 1) (by omega)
          omega
      rw [hr] at HR
      have i1 : ¬ t < f := by omega
      have i2 : ¬ f < -1 := by omega
      have i3 : ¬ t < 0 := by omega
      have i4 : ¬ 2147483648 ≤ t := by omega
      clear hwhy hr
      clear s0 s1 s2 s3 s4 a0 a1 a2 a3 a4
      obtain ⟨s0, s1, s2, s3, s4, a0, a1, a2, a3, a4⟩ := HS.out.touch0 t1
      go_wp2_with fail
      refine (HR.out _).mono ?_
      rintro e w2 ⟨rfl, t2⟩
      go_wp2_with fail
      refine (HAw.out _ (HG.out.touch0 ((t0.trans0 t1).trans0 t2))).mono ?_
      rintro e w9 ⟨rfl, t9⟩
      go_wp2_with fail
      go_ret
      exact ⟨rfl, ((t0.trans0 t1).trans0 t2).trans0 t9⟩
    · rcases hr : c.right with _ | _
      · rw [hr] at HR
        clear hwhy hgood hr
        clear s0 s1 s2 s3 s4 a0 a1 a2 a3 a4
        obtain ⟨s0, s1, s2, s3, s4, a0, a1, a2, a3, a4⟩ := HS.out.touch0 t1
        go_wp2_with fail
        refine (HR.out _).mono ?_
        rintro e w2 ⟨rfl, t2⟩
        go_wp2_with fail
        refine (HAw.out _ (HG.out.touch0 ((t0.trans0 t1).trans0 t2))).mono ?_
        rintro e w9 ⟨rfl, t9⟩
        go_wp2_with fail
        go_ret
        exact ⟨rfl, ((t0.trans0 t1).trans0 t2).trans0 t9⟩
      · rw [hr] at HR
        have hg : t < f ∨ f < -1 ∨ t < 0 ∨ 2147483648 ≤ t := by
          by_cases q : t < f ∨ f < -1 ∨ t < 0 ∨ 2147483648 ≤ t
          · exact q
          · exact absurd ⟨hr, by omega, by omega, by omega, by omega⟩ hgood
        clear hwhy hgood hr
        by_cases z0 : t < f
        · clear s0 s1 s2 s3 s4 a0 a1 a2 a3 a4
          obtain ⟨s0, s1, s2, s3, s4, a0, a1, a2, a3, a4⟩ := HS.out.touch0 t1
          go_wp2_with fail
          refine (HR.out _).mono ?_
          rintro e w2 ⟨rfl, t2⟩
          go_wp2_with fail
          refine (HAw.out _ (HG.out.touch0 ((t0.trans0 t1).trans0 t2))).mono ?_
          rintro e w9 ⟨rfl, t9⟩
          go_wp2_with fail
          go_ret
          exact ⟨rfl, ((t0.trans0 t1).trans0 t2).trans0 t9⟩
        by_cases z1 : f < -1
        · clear s0 s1 s2 s3 s4 a0 a1 a2 a3 a4
          obtain ⟨s0, s1, s2, s3, s4, a0, a1, a2, a3, a4⟩ := HS.out.touch0 t1
          go_wp2_with fail
          refine (HR.out _).mono ?_
          rintro e w2 ⟨rfl, t2⟩
          go_wp2_with fail
          refine (HAw.out _ (HG.out.touch0 ((t0.trans0 t1).trans0 t2))).mono ?_
          rintro e w9 ⟨rfl, t9⟩
          go_wp2_with fail
          go_ret
          exact ⟨rfl, ((t0.trans0 t1).trans0 t2).trans0 t9⟩
        by_cases z2 : t < 0
        · clear s0 s1 s2 s3 s4 a0 a1 a2 a3 a4
          obtain ⟨s0, s1, s2, s3, s4, a0, a1, a2, a3, a4⟩ := HS.out.touch0 t1
          go_wp2_with fail
          refine (HR.out _).mono ?_
          rintro e w2 ⟨rfl, t2⟩
          go_wp2_with fail
          refine (HAw.out _ (HG.out.touch0 ((t0.trans0 t1).trans0 t2))).mono ?_
          rintro e w9 ⟨rfl, t9⟩
          go_wp2_with fail
          go_ret
          exact ⟨rfl, ((t0.trans0 t1).trans0 t2).trans0 t9⟩
        have z3 : 2147483648 ≤ t := by omega
        clear s0 s1 s2 s3 s4 a0 a1 a2 a3 a4
        obtain ⟨s0, s1, s2, s3, s4, a0, a1, a2, a3, a4⟩ := HS.out.touch0 t1
        go_wp2_with fail
        refine (HR.out _).mono ?_
        rintro e w2 ⟨rfl, t2⟩
        go_wp2_with fail
        refine (HAw.out _ (HG.out.touch0 ((t0.trans0 t1).trans0 t2))).mono ?_
        rintro e w9 ⟨rfl, t9⟩
        go_wp2_with fail
        go_ret
        exact ⟨rfl, ((t0.trans0 t1).trans0 t2).trans0 t9⟩
end Go.Proofs.YtoabloeechphkaaDoor
