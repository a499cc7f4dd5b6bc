/- Part 5 of the texts of this proof, one behind the other; each begins with its own sentence. No condition beyond those that its theorems state. -/
import Derived.Test.YtafoklilkdnepaaGreatDoorRu4
/- slices.symMergeCmpFunc on rows of slices: whole. (gen_st.py) -/
namespace Go.Proofs.YtafoklilkdnepaaGreatDoor
open Go.RowKit

set_option maxRecDepth 20000 in
set_option maxHeartbeats 16000000 in
theorem sm_main (G c n : Nat) (hn : n ≤ 100000) (S : Nat → SL) (R : Nat → Nat → Int) (D : Nat → Nat) (hRD : ∀ x y, R x y < 0 ↔ D x < D y) (w0 : World) (hC : CmpOkV S R G n w0) (a m b mid : Nat) (ham : a + 1 < m) (hmb : m + 1 < b) (hb : b ≤ n) (hmid : mid = (a + b) / 2)
  (hl : ∀ s, a < s → s < mid → SmSpecV S G c n D w0 a s mid) (hr : ∀ e, mid < e → e < b → SmSpecV S G c n D w0 mid e b) : SmSpecV S G c n D w0 a m b := by
 intro f wr hR hT hs1 hs2 hlr hfn
 obtain ⟨W0, hW0⟩ : ∃ W0, W0 = wr := ⟨_, rfl⟩
 subst hW0
 have HR := Lib.hid hR
 have HT := Lib.hid hT
 have HS := Lib.hid (And.intro hs1 (And.intro hs2 hlr))
 have HC := Lib.hid hC
 have HF := Lib.hid hfn
 have HLc := Lib.hid hl
 have HRc := Lib.hid hr
 have HM := Lib.hid hmid
 have b1 : a < mid := by omega
 have b2 : mid < b := by omega
 have e1 : ((m : Int) - (a : Int) == 1) = false := by simp; omega
 have e2 : ((b : Int) - (m : Int) == 1) = false := by simp; omega
 have e3 : ((a : Int) + (b : Int)) / 2 = (mid : Int) := by omega
 obtain ⟨lo, hi, hlh⟩ : ∃ lo hi : Nat, (mid < m ∧ lo = mid + m - b ∧ hi = mid) ∨ (m ≤ mid ∧ lo = a ∧ hi = m) := by
  by_cases q : mid < m
  ·exact ⟨_, _, .inl ⟨q, rfl, rfl⟩⟩
  ·exact ⟨_, _, .inr ⟨by omega, rfl, rfl⟩⟩
 have hlo : a ≤ lo := by omega
 have hhi : hi ≤ mid := by omega
 have hhm : hi ≤ m := by omega
 have hlohi : lo ≤ hi := by omega
 have HLH := Lib.hid hlh
 obtain ⟨p, hp⟩ : ∃ p, p = mid + m - 1 := ⟨_, rfl⟩
 have hp1 : ∀ x, lo ≤ x → x < hi → m ≤ p - x ∧ p - x < b ∧ x ≤ p := by intro x h1 h2; omega
 have HP1 := Lib.hid hp1
 have hpm : p < 2 * n := by omega
 have HP := Lib.hid hp
 clear hR hT hs1 hs2 hlr hC hfn hl hr hp1
 go_enter Tryz.func178, Tryz.ntmps178
 rcases hlh with ⟨z1, z2, z3⟩ | ⟨z1, z2, z3⟩
 ·have y1 : (mid : Int) < (m : Int) := by omega
  have y2 : (mid : Int) + (m : Int) - (b : Int) = (lo : Int) := by omega
  have y3 : (mid : Int) + (m : Int) - 1 = (p : Int) := by omega
  clear z2 z3 hp hmid
  go_wp2_with fail
  go_loopw [20, 21] (fun x y w1 => ∃ i j : Nat, lo ≤ i ∧ i ≤ j ∧ j ≤ hi ∧ x = .int .i64 i ∧ y = .int .i64 j ∧ Hid (∀ h, lo ≤ h → h < i → ltL D (f h) (f (p - h))) ∧ Hid (∀ h, j ≤ h → h < hi → ltL D (f (p - h)) (f h)) ∧ Hid (Touch [] W0 w1)) (fun x y _ => (intOf y).toNat - (intOf x).toNat)
  case atStart => exact ⟨lo, hi, by omega, hlohi, by omega, by have := HLH.out; go_num, by have := HLH.out; go_num, Lib.hid (fun h q1 q2 => absurd q1 (by omega)), Lib.hid (fun h q1 q2 => absurd q1 (by omega)), Lib.hid (Touch.refl _ _)⟩
  case round =>
   obtain ⟨i, j, hi1, hij, hj, rfl, rfl, HL, HH, HW⟩ := hrel
   have hT1 : Touch [G] w0 wr := HT.out.trans HW.out (by simp)
   have hR1 : RowV S wr G c n f := HR.out.touch0 HW.out
   by_cases hlt : i < j
   ·obtain ⟨h, hh⟩ : ∃ h, h = (i + j) / 2 := ⟨_, rfl⟩
    have hhi1 : i ≤ h := by omega
    have hhj : h < j := by omega
    have hP2 := HP1.out h (by omega) (by omega)
    have ch := TW.cell (hR1.cell h (by omega))
    obtain ⟨x, hx⟩ : ∃ x, x = p - h := ⟨_, rfl⟩
    have hxn : x < n := by omega
    have ca := TW.cell (hR1.cell x hxn)
    obtain ⟨r, hr⟩ : ∃ r, r = R (f x) (f h) := ⟨_, rfl⟩
    have hc : ∀ x8 : TW wr, Calls Tryz.prog 81 #[(Value.slice (SL.A (S (f x))) (SL.n (S (f x))) (SL.c (S (f x)))), (Value.slice (SL.A (S (f h))) (SL.n (S (f h))) (SL.c (S (f h))))] x8.w fun e w' => e = .returned (.int .i64 r) ∧ Touch [] x8.w w' := fun x8 => by
     rw [hr]
     exact HC.out _ (Touch.trans hT1 x8.t (by simp)) (f x) (f h) (HF.out _ (by omega)) (HF.out _ (by omega))
    have HR1 := Lib.hid hR1
    have HT1 := Lib.hid hT1
    have HCC := Lib.hid hc
    have HQ := Lib.hid hr
    have HX := Lib.hid hx
    have HP2 := Lib.hid hP2
    have he : ((i : Int) + (j : Int)) / 2 = (h : Int) := by omega
    have he2 : (p : Int) - (h : Int) = (x : Int) := by omega
    clear hR1 hT1 hc hr hh hx hP2
    go_wp2_with fail
    by_cases hr0 : r < 0
    ·refine wp_region_tw wr (Touch.refl _ _) (by kernel_rfl) (by kernel_rfl) ?_
     repeat (go_big_quiet_step (((go_at_call 81; exact Calls.tw _ (HCC.out _)))))
     refine wpQuiet_nil ?_
     rintro _ ⟨x9, rfl⟩
     go_wp2_with fail
     go_roundw
     case rel =>
      have q := (hRD _ _).1 (HQ.out ▸ hr0)
      have q2 : ltL D (f (p - h)) (f h) := by rw [← HX.out]; exact .inl (by omega)
      exact ⟨i, h, by omega, by omega, by omega, rfl, by go_num, HL, Lib.hid (fun y x1 x2 => srt_gt HS.out.1 (by omega) x1 (by omega) (srt_lt HS.out.2.1 (HP1.out y (by omega) (by omega)).1 (by omega) (HP2.out).2.1 q2)), Lib.hid (HW.out.trans0 x9.t)⟩
     case measure => simp [intOf]; omega
    ·have hr1 : (r < 0) = False := by simp; omega
     refine wp_region_tw wr (Touch.refl _ _) (by kernel_rfl) (by kernel_rfl) ?_
     repeat (go_big_quiet_step (((go_at_call 81; exact Calls.tw _ (HCC.out _)))))
     refine wpQuiet_nil ?_
     rintro _ ⟨x9, rfl⟩
     go_wp2_with fail
     go_roundw
     case rel =>
      have q := mt (hRD (f x) (f h)).2 (HQ.out ▸ hr0)
      have q2 : ltL D (f h) (f (p - h)) := (ltL_num (HS.out.2.2 h (p - h) (by omega) (by omega) (by omega) (by omega))).2 (by rw [← HX.out]; omega)
      exact ⟨h + 1, j, by omega, by omega, hj, by go_num, rfl, Lib.hid (fun y x1 x2 => srt_lt HS.out.1 (by omega) (show y ≤ h by omega) (by omega) (srt_gt HS.out.2.1 (HP2.out).1 (by omega) (HP1.out y (by omega) (by omega)).2.1 q2)), HH, Lib.hid (HW.out.trans0 x9.t)⟩
     case measure => simp [intOf]; omega
   ·obtain ⟨s, hs⟩ : ∃ s, s = i := ⟨_, rfl⟩
    obtain rfl : s = j := by omega
    subst hs
    have HR1 := Lib.hid hR1
    have HW1 : Hid (Touch [G] W0 wr) := Lib.hid (HW.out.mono (by simp))
    have hmo := mid_of (by omega) (by omega) HS.out.1 HS.out.2.1 HS.out.2.2 HM.out HLH.out hi1 hj (fun x x1 x2 => by rw [← HP.out]; exact HL.out x x1 x2) (fun x x1 x2 => by rw [← HP.out]; exact HH.out x x1 x2)
    obtain ⟨hMid, m1, m2, m3, m4, m5, m6, m7, m8⟩ := hmo
    obtain ⟨e, hee⟩ : ∃ e, e = mid + m - s := ⟨_, rfl⟩
    rw [← hee] at hMid m4 m5 m6
    obtain ⟨g, hg⟩ : ∃ g, g = rot f s m e := ⟨_, rfl⟩
    rw [← hg] at hMid
    have hgn := hMid.lt hb HF.out
    have HMid := Lib.hid hMid
    have HGn := Lib.hid hgn
    have HGg := Lib.hid hg
    have he : (mid : Int) + (m : Int) - (s : Int) = (e : Int) := by omega
    have hee1 : e + s = mid + m := by omega
    clear hMid hgn hg hee hR1 hT1 HL HH
    by_cases r1 : s < m
    ·by_cases r2 : s < mid
     ·by_cases l1 : a < s
      ·by_cases k1 : e < b
       ·have : ((s : Int) < (m : Int)) := by omega
        have : ((m : Int) < (e : Int)) := by omega
        have : ((a : Int) < (s : Int)) := by omega
        have : ((s : Int) < (mid : Int)) := by omega
        have : ((mid : Int) < (e : Int)) := by omega
        have : ((e : Int) < (b : Int)) := by omega
        have hro := rotate_any G c n hn S f s m e (by omega) (by omega) (by omega) (.func (.func 81) #[] #[]) wr HR1.out
        rw [← HGg.out] at hro
        have HRo := Lib.hid hro
        clear hro
        go_wp2_with fail
        refine HRo.out.mono ?_
        rintro e' w2 ⟨rfl, hr2, ht2⟩
        have HR2 := Lib.hid hr2
        have HT2 := Lib.hid (HW1.out.trans ht2 (fun b hb => .inl hb))
        clear hr2 ht2 HRo
        have hlo2 := HLc.out s (by omega) (by omega) g w2 HR2.out (HT.out.trans HT2.out (fun b hb => .inl hb)) HMid.out.s1 HMid.out.s2 HMid.out.l1 HGn.out
        have HLo := Lib.hid hlo2
        clear hlo2
        go_wp2_with fail
        refine HLo.out.mono ?_
        rintro e' w3 ⟨rfl, g1, hr3, hm3, ht3⟩
        have HR3 := Lib.hid hr3
        have HM3 := Lib.hid hm3
        have HT3 := Lib.hid (HT2.out.trans ht3 (fun b hb => .inl hb))
        clear hr3 hm3 ht3 HLo
        have hlo2 := HRc.out e (by omega) (by omega) g1 w3 HR3.out (HT.out.trans HT3.out (fun b hb => .inl hb)) (HMid.out.s3.cong (fun k hk => HM3.out.out k (.inr hk))) (HMid.out.s4.cong (fun k hk => HM3.out.out k (.inr (by omega)))) (HMid.out.l2.cong (fun k hk => HM3.out.out k (.inr hk))) (HM3.out.lt (by omega) HGn.out)
        have HLo := Lib.hid hlo2
        clear hlo2
        go_wp2_with fail
        refine HLo.out.mono ?_
        rintro e' w4 ⟨rfl, g2, hr4, hm4, ht4⟩
        have HR4 := Lib.hid hr4
        have HM4 := Lib.hid hm4
        have HT4 := Lib.hid (HT3.out.trans ht4 (fun b hb => .inl hb))
        clear hr4 hm4 ht4 HLo
        go_wp2
        go_end0
        exact ⟨rfl, g2, HR4.out, mid_join HMid.out (by omega) (by omega) HM3.out HM4.out, HT4.out⟩
       ·have : ((s : Int) < (m : Int)) := by omega
        have : ((m : Int) < (e : Int)) := by omega
        have : ((a : Int) < (s : Int)) := by omega
        have : ((s : Int) < (mid : Int)) := by omega
        have : ((mid : Int) < (e : Int)) := by omega
        have : ((e : Int) < (b : Int)) = False := by simp; omega
        have hro := rotate_any G c n hn S f s m e (by omega) (by omega) (by omega) (.func (.func 81) #[] #[]) wr HR1.out
        rw [← HGg.out] at hro
        have HRo := Lib.hid hro
        clear hro
        go_wp2_with fail
        refine HRo.out.mono ?_
        rintro e' w2 ⟨rfl, hr2, ht2⟩
        have HR2 := Lib.hid hr2
        have HT2 := Lib.hid (HW1.out.trans ht2 (fun b hb => .inl hb))
        clear hr2 ht2 HRo
        have hlo2 := HLc.out s (by omega) (by omega) g w2 HR2.out (HT.out.trans HT2.out (fun b hb => .inl hb)) HMid.out.s1 HMid.out.s2 HMid.out.l1 HGn.out
        have HLo := Lib.hid hlo2
        clear hlo2
        go_wp2_with fail
        refine HLo.out.mono ?_
        rintro e' w3 ⟨rfl, g1, hr3, hm3, ht3⟩
        have HR3 := Lib.hid hr3
        have HM3 := Lib.hid hm3
        have HT3 := Lib.hid (HT2.out.trans ht3 (fun b hb => .inl hb))
        clear hr3 hm3 ht3 HLo
        obtain ⟨w4, hw4⟩ : ∃ w4, w4 = w3 := ⟨_, rfl⟩
        subst hw4
        obtain ⟨g2, hg2⟩ : ∃ g2, g2 = g1 := ⟨_, rfl⟩
        have HR4 : Hid (RowV S w4 G c n g2) := Lib.hid (by rw [hg2]; exact HR3.out)
        have HM4 : Hid (SM D g1 mid b g2) := Lib.hid (by rw [hg2]; exact sm_right HMid.out (by omega) (fun k hk => HM3.out.out k (.inr hk)))
        have HT4 := Lib.hid HT3.out
        clear hg2
        go_wp2
        go_end0
        exact ⟨rfl, g2, HR4.out, mid_join HMid.out (by omega) (by omega) HM3.out HM4.out, HT4.out⟩
      ·by_cases k1 : e < b
       ·have : ((s : Int) < (m : Int)) := by omega
        have : ((m : Int) < (e : Int)) := by omega
        have : ((a : Int) < (s : Int)) = False := by simp; omega
        have : ((mid : Int) < (e : Int)) := by omega
        have : ((e : Int) < (b : Int)) := by omega
        have hro := rotate_any G c n hn S f s m e (by omega) (by omega) (by omega) (.func (.func 81) #[] #[]) wr HR1.out
        rw [← HGg.out] at hro
        have HRo := Lib.hid hro
        clear hro
        go_wp2_with fail
        refine HRo.out.mono ?_
        rintro e' w2 ⟨rfl, hr2, ht2⟩
        have HR2 := Lib.hid hr2
        have HT2 := Lib.hid (HW1.out.trans ht2 (fun b hb => .inl hb))
        clear hr2 ht2 HRo
        obtain ⟨w3, hw3⟩ : ∃ w3, w3 = w2 := ⟨_, rfl⟩
        subst hw3
        obtain ⟨g1, hg1⟩ : ∃ g1, g1 = g := ⟨_, rfl⟩
        have HR3 : Hid (RowV S w3 G c n g1) := Lib.hid (by rw [hg1]; exact HR2.out)
        have HM3 : Hid (SM D g a mid g1) := Lib.hid (by rw [hg1]; exact sm_left HMid.out (by omega))
        have HT3 := Lib.hid HT2.out
        clear hg1
        have hlo2 := HRc.out e (by omega) (by omega) g1 w3 HR3.out (HT.out.trans HT3.out (fun b hb => .inl hb)) (HMid.out.s3.cong (fun k hk => HM3.out.out k (.inr hk))) (HMid.out.s4.cong (fun k hk => HM3.out.out k (.inr (by omega)))) (HMid.out.l2.cong (fun k hk => HM3.out.out k (.inr hk))) (HM3.out.lt (by omega) HGn.out)
        have HLo := Lib.hid hlo2
        clear hlo2
        go_wp2_with fail
        refine HLo.out.mono ?_
        rintro e' w4 ⟨rfl, g2, hr4, hm4, ht4⟩
        have HR4 := Lib.hid hr4
        have HM4 := Lib.hid hm4
        have HT4 := Lib.hid (HT3.out.trans ht4 (fun b hb => .inl hb))
        clear hr4 hm4 ht4 HLo
        go_wp2
        go_end0
        exact ⟨rfl, g2, HR4.out, mid_join HMid.out (by omega) (by omega) HM3.out HM4.out, HT4.out⟩
       ·have : ((s : Int) < (m : Int)) := by omega
        have : ((m : Int) < (e : Int)) := by omega
        have : ((a : Int) < (s : Int)) = False := by simp; omega
        have : ((mid : Int) < (e : Int)) := by omega
        have : ((e : Int) < (b : Int)) = False := by simp; omega
        have hro := rotate_any G c n hn S f s m e (by omega) (by omega) (by omega) (.func (.func 81) #[] #[]) wr HR1.out
        rw [← HGg.out] at hro
        have HRo := Lib.hid hro
        clear hro
        go_wp2_with fail
        refine HRo.out.mono ?_
        rintro e' w2 ⟨rfl, hr2, ht2⟩
        have HR2 := Lib.hid hr2
        have HT2 := Lib.hid (HW1.out.trans ht2 (fun b hb => .inl hb))
        clear hr2 ht2 HRo
        obtain ⟨w3, hw3⟩ : ∃ w3, w3 = w2 := ⟨_, rfl⟩
        subst hw3
        obtain ⟨g1, hg1⟩ : ∃ g1, g1 = g := ⟨_, rfl⟩
        have HR3 : Hid (RowV S w3 G c n g1) := Lib.hid (by rw [hg1]; exact HR2.out)
        have HM3 : Hid (SM D g a mid g1) := Lib.hid (by rw [hg1]; exact sm_left HMid.out (by omega))
        have HT3 := Lib.hid HT2.out
        clear hg1
        obtain ⟨w4, hw4⟩ : ∃ w4, w4 = w3 := ⟨_, rfl⟩
        subst hw4
        obtain ⟨g2, hg2⟩ : ∃ g2, g2 = g1 := ⟨_, rfl⟩
        have HR4 : Hid (RowV S w4 G c n g2) := Lib.hid (by rw [hg2]; exact HR3.out)
        have HM4 : Hid (SM D g1 mid b g2) := Lib.hid (by rw [hg2]; exact sm_right HMid.out (by omega) (fun k hk => HM3.out.out k (.inr hk)))
        have HT4 := Lib.hid HT3.out
        clear hg2
        go_wp2
        go_end0
        exact ⟨rfl, g2, HR4.out, mid_join HMid.out (by omega) (by omega) HM3.out HM4.out, HT4.out⟩
     ·have : ((s : Int) < (m : Int)) := by omega
      have : ((m : Int) < (e : Int)) = False := by simp; omega
      have : ((a : Int) < (s : Int)) := by omega
      have : ((s : Int) < (mid : Int)) = False := by simp; omega
      have : ((mid : Int) < (e : Int)) := by omega
      have : ((e : Int) < (b : Int)) := by omega
      obtain ⟨w2, hw2⟩ : ∃ w2, w2 = wr := ⟨_, rfl⟩
      subst hw2
      have HR2 : Hid (RowV S w2 G c n g) := Lib.hid (by rw [HGg.out, show e = m by omega, rot_a]; exact HR1.out)
      have HT2 := Lib.hid HW1.out
      obtain ⟨w3, hw3⟩ : ∃ w3, w3 = w2 := ⟨_, rfl⟩
      subst hw3
      obtain ⟨g1, hg1⟩ : ∃ g1, g1 = g := ⟨_, rfl⟩
      have HR3 : Hid (RowV S w3 G c n g1) := Lib.hid (by rw [hg1]; exact HR2.out)
      have HM3 : Hid (SM D g a mid g1) := Lib.hid (by rw [hg1]; exact sm_left HMid.out (by omega))
      have HT3 := Lib.hid HT2.out
      clear hg1
      have hlo2 := HRc.out e (by omega) (by omega) g1 w3 HR3.out (HT.out.trans HT3.out (fun b hb => .inl hb)) (HMid.out.s3.cong (fun k hk => HM3.out.out k (.inr hk))) (HMid.out.s4.cong (fun k hk => HM3.out.out k (.inr (by omega)))) (HMid.out.l2.cong (fun k hk => HM3.out.out k (.inr hk))) (HM3.out.lt (by omega) HGn.out)
      have HLo := Lib.hid hlo2
      clear hlo2
      go_wp2_with fail
      refine HLo.out.mono ?_
      rintro e' w4 ⟨rfl, g2, hr4, hm4, ht4⟩
      have HR4 := Lib.hid hr4
      have HM4 := Lib.hid hm4
      have HT4 := Lib.hid (HT3.out.trans ht4 (fun b hb => .inl hb))
      clear hr4 hm4 ht4 HLo
      go_wp2
      go_end0
      exact ⟨rfl, g2, HR4.out, mid_join HMid.out (by omega) (by omega) HM3.out HM4.out, HT4.out⟩
    ·by_cases r2 : s < mid
     ·have : ((s : Int) < (m : Int)) = False := by simp; omega
      have : ((a : Int) < (s : Int)) := by omega
      have : ((s : Int) < (mid : Int)) := by omega
      have : ((mid : Int) < (e : Int)) = False := by simp; omega
      obtain ⟨w2, hw2⟩ : ∃ w2, w2 = wr := ⟨_, rfl⟩
      subst hw2
      have HR2 : Hid (RowV S w2 G c n g) := Lib.hid (by rw [HGg.out, show s = m by omega, rot_b]; exact HR1.out)
      have HT2 := Lib.hid HW1.out
      have hlo2 := HLc.out s (by omega) (by omega) g w2 HR2.out (HT.out.trans HT2.out (fun b hb => .inl hb)) HMid.out.s1 HMid.out.s2 HMid.out.l1 HGn.out
      have HLo := Lib.hid hlo2
      clear hlo2
      go_wp2_with fail
      refine HLo.out.mono ?_
      rintro e' w3 ⟨rfl, g1, hr3, hm3, ht3⟩
      have HR3 := Lib.hid hr3
      have HM3 := Lib.hid hm3
      have HT3 := Lib.hid (HT2.out.trans ht3 (fun b hb => .inl hb))
      clear hr3 hm3 ht3 HLo
      obtain ⟨w4, hw4⟩ : ∃ w4, w4 = w3 := ⟨_, rfl⟩
      subst hw4
      obtain ⟨g2, hg2⟩ : ∃ g2, g2 = g1 := ⟨_, rfl⟩
      have HR4 : Hid (RowV S w4 G c n g2) := Lib.hid (by rw [hg2]; exact HR3.out)
      have HM4 : Hid (SM D g1 mid b g2) := Lib.hid (by rw [hg2]; exact sm_right HMid.out (by omega) (fun k hk => HM3.out.out k (.inr hk)))
      have HT4 := Lib.hid HT3.out
      clear hg2
      go_wp2
      go_end0
      exact ⟨rfl, g2, HR4.out, mid_join HMid.out (by omega) (by omega) HM3.out HM4.out, HT4.out⟩
     ·have : ((s : Int) < (m : Int)) = False := by simp; omega
      have : ((a : Int) < (s : Int)) := by omega
      have : ((s : Int) < (mid : Int)) = False := by simp; omega
      have : ((mid : Int) < (e : Int)) = False := by simp; omega
      obtain ⟨w2, hw2⟩ : ∃ w2, w2 = wr := ⟨_, rfl⟩
      subst hw2
      have HR2 : Hid (RowV S w2 G c n g) := Lib.hid (by rw [HGg.out, show s = m by omega, rot_b]; exact HR1.out)
      have HT2 := Lib.hid HW1.out
      obtain ⟨w3, hw3⟩ : ∃ w3, w3 = w2 := ⟨_, rfl⟩
      subst hw3
      obtain ⟨g1, hg1⟩ : ∃ g1, g1 = g := ⟨_, rfl⟩
      have HR3 : Hid (RowV S w3 G c n g1) := Lib.hid (by rw [hg1]; exact HR2.out)
      have HM3 : Hid (SM D g a mid g1) := Lib.hid (by rw [hg1]; exact sm_left HMid.out (by omega))
      have HT3 := Lib.hid HT2.out
      clear hg1
      obtain ⟨w4, hw4⟩ : ∃ w4, w4 = w3 := ⟨_, rfl⟩
      subst hw4
      obtain ⟨g2, hg2⟩ : ∃ g2, g2 = g1 := ⟨_, rfl⟩
      have HR4 : Hid (RowV S w4 G c n g2) := Lib.hid (by rw [hg2]; exact HR3.out)
      have HM4 : Hid (SM D g1 mid b g2) := Lib.hid (by rw [hg2]; exact sm_right HMid.out (by omega) (fun k hk => HM3.out.out k (.inr hk)))
      have HT4 := Lib.hid HT3.out
      clear hg2
      go_wp2
      go_end0
      exact ⟨rfl, g2, HR4.out, mid_join HMid.out (by omega) (by omega) HM3.out HM4.out, HT4.out⟩
 ·have y1 : ((mid : Int) < (m : Int)) = False := by simp; omega
  have y3 : (mid : Int) + (m : Int) - 1 = (p : Int) := by omega
  clear z2 z3 hp hmid
  go_wp2_with fail
  go_loopw [20, 21] (fun x y w1 => ∃ i j : Nat, lo ≤ i ∧ i ≤ j ∧ j ≤ hi ∧ x = .int .i64 i ∧ y = .int .i64 j ∧ Hid (∀ h, lo ≤ h → h < i → ltL D (f h) (f (p - h))) ∧ Hid (∀ h, j ≤ h → h < hi → ltL D (f (p - h)) (f h)) ∧ Hid (Touch [] W0 w1)) (fun x y _ => (intOf y).toNat - (intOf x).toNat)
  case atStart => exact ⟨lo, hi, by omega, hlohi, by omega, by have := HLH.out; go_num, by have := HLH.out; go_num, Lib.hid (fun h q1 q2 => absurd q1 (by omega)), Lib.hid (fun h q1 q2 => absurd q1 (by omega)), Lib.hid (Touch.refl _ _)⟩
  case round =>
   obtain ⟨i, j, hi1, hij, hj, rfl, rfl, HL, HH, HW⟩ := hrel
   have hT1 : Touch [G] w0 wr := HT.out.trans HW.out (by simp)
   have hR1 : RowV S wr G c n f := HR.out.touch0 HW.out
   by_cases hlt : i < j
   ·obtain ⟨h, hh⟩ : ∃ h, h = (i + j) / 2 := ⟨_, rfl⟩
    have hhi1 : i ≤ h := by omega
    have hhj : h < j := by omega
    have hP2 := HP1.out h (by omega) (by omega)
    have ch := TW.cell (hR1.cell h (by omega))
    obtain ⟨x, hx⟩ : ∃ x, x = p - h := ⟨_, rfl⟩
    have hxn : x < n := by omega
    have ca := TW.cell (hR1.cell x hxn)
    obtain ⟨r, hr⟩ : ∃ r, r = R (f x) (f h) := ⟨_, rfl⟩
    have hc : ∀ x8 : TW wr, Calls Tryz.prog 81 #[(Value.slice (SL.A (S (f x))) (SL.n (S (f x))) (SL.c (S (f x)))), (Value.slice (SL.A (S (f h))) (SL.n (S (f h))) (SL.c (S (f h))))] x8.w fun e w' => e = .returned (.int .i64 r) ∧ Touch [] x8.w w' := fun x8 => by
     rw [hr]
     exact HC.out _ (Touch.trans hT1 x8.t (by simp)) (f x) (f h) (HF.out _ (by omega)) (HF.out _ (by omega))
    have HR1 := Lib.hid hR1
    have HT1 := Lib.hid hT1
    have HCC := Lib.hid hc
    have HQ := Lib.hid hr
    have HX := Lib.hid hx
    have HP2 := Lib.hid hP2
    have he : ((i : Int) + (j : Int)) / 2 = (h : Int) := by omega
    have he2 : (p : Int) - (h : Int) = (x : Int) := by omega
    clear hR1 hT1 hc hr hh hx hP2
    go_wp2_with fail
    by_cases hr0 : r < 0
    ·refine wp_region_tw wr (Touch.refl _ _) (by kernel_rfl) (by kernel_rfl) ?_
     repeat (go_big_quiet_step (((go_at_call 81; exact Calls.tw _ (HCC.out _)))))
     refine wpQuiet_nil ?_
     rintro _ ⟨x9, rfl⟩
     go_wp2_with fail
     go_roundw
     case rel =>
      have q := (hRD _ _).1 (HQ.out ▸ hr0)
      have q2 : ltL D (f (p - h)) (f h) := by rw [← HX.out]; exact .inl (by omega)
      exact ⟨i, h, by omega, by omega, by omega, rfl, by go_num, HL, Lib.hid (fun y x1 x2 => srt_gt HS.out.1 (by omega) x1 (by omega) (srt_lt HS.out.2.1 (HP1.out y (by omega) (by omega)).1 (by omega) (HP2.out).2.1 q2)), Lib.hid (HW.out.trans0 x9.t)⟩
     case measure => simp [intOf]; omega
    ·have hr1 : (r < 0) = False := by simp; omega
     refine wp_region_tw wr (Touch.refl _ _) (by kernel_rfl) (by kernel_rfl) ?_
     repeat (go_big_quiet_step (((go_at_call 81; exact Calls.tw _ (HCC.out _)))))
     refine wpQuiet_nil ?_
     rintro _ ⟨x9, rfl⟩
     go_wp2_with fail
     go_roundw
     case rel =>
      have q := mt (hRD (f x) (f h)).2 (HQ.out ▸ hr0)
      have q2 : ltL D (f h) (f (p - h)) := (ltL_num (HS.out.2.2 h (p - h) (by omega) (by omega) (by omega) (by omega))).2 (by rw [← HX.out]; omega)
      exact ⟨h + 1, j, by omega, by omega, hj, by go_num, rfl, Lib.hid (fun y x1 x2 => srt_lt HS.out.1 (by omega) (show y ≤ h by omega) (by omega) (srt_gt HS.out.2.1 (HP2.out).1 (by omega) (HP1.out y (by omega) (by omega)).2.1 q2)), HH, Lib.hid (HW.out.trans0 x9.t)⟩
     case measure => simp [intOf]; omega
   ·obtain ⟨s, hs⟩ : ∃ s, s = i := ⟨_, rfl⟩
    obtain rfl : s = j := by omega
    subst hs
    have HR1 := Lib.hid hR1
    have HW1 : Hid (Touch [G] W0 wr) := Lib.hid (HW.out.mono (by simp))
    have hmo := mid_of (by omega) (by omega) HS.out.1 HS.out.2.1 HS.out.2.2 HM.out HLH.out hi1 hj (fun x x1 x2 => by rw [← HP.out]; exact HL.out x x1 x2) (fun x x1 x2 => by rw [← HP.out]; exact HH.out x x1 x2)
    obtain ⟨hMid, m1, m2, m3, m4, m5, m6, m7, m8⟩ := hmo
    obtain ⟨e, hee⟩ : ∃ e, e = mid + m - s := ⟨_, rfl⟩
    rw [← hee] at hMid m4 m5 m6
    obtain ⟨g, hg⟩ : ∃ g, g = rot f s m e := ⟨_, rfl⟩
    rw [← hg] at hMid
    have hgn := hMid.lt hb HF.out
    have HMid := Lib.hid hMid
    have HGn := Lib.hid hgn
    have HGg := Lib.hid hg
    have he : (mid : Int) + (m : Int) - (s : Int) = (e : Int) := by omega
    have hee1 : e + s = mid + m := by omega
    clear hMid hgn hg hee hR1 hT1 HL HH
    by_cases r1 : s < m
    ·by_cases r2 : s < mid
     ·by_cases l1 : a < s
      ·by_cases k1 : e < b
       ·have : ((s : Int) < (m : Int)) := by omega
        have : ((m : Int) < (e : Int)) := by omega
        have : ((a : Int) < (s : Int)) := by omega
        have : ((s : Int) < (mid : Int)) := by omega
        have : ((mid : Int) < (e : Int)) := by omega
        have : ((e : Int) < (b : Int)) := by omega
        have hro := rotate_any G c n hn S f s m e (by omega) (by omega) (by omega) (.func (.func 81) #[] #[]) wr HR1.out
        rw [← HGg.out] at hro
        have HRo := Lib.hid hro
        clear hro
        go_wp2_with fail
        refine HRo.out.mono ?_
        rintro e' w2 ⟨rfl, hr2, ht2⟩
        have HR2 := Lib.hid hr2
        have HT2 := Lib.hid (HW1.out.trans ht2 (fun b hb => .inl hb))
        clear hr2 ht2 HRo
        have hlo2 := HLc.out s (by omega) (by omega) g w2 HR2.out (HT.out.trans HT2.out (fun b hb => .inl hb)) HMid.out.s1 HMid.out.s2 HMid.out.l1 HGn.out
        have HLo := Lib.hid hlo2
        clear hlo2
        go_wp2_with fail
        refine HLo.out.mono ?_
        rintro e' w3 ⟨rfl, g1, hr3, hm3, ht3⟩
        have HR3 := Lib.hid hr3
        have HM3 := Lib.hid hm3
        have HT3 := Lib.hid (HT2.out.trans ht3 (fun b hb => .inl hb))
        clear hr3 hm3 ht3 HLo
        have hlo2 := HRc.out e (by omega) (by omega) g1 w3 HR3.out (HT.out.trans HT3.out (fun b hb => .inl hb)) (HMid.out.s3.cong (fun k hk => HM3.out.out k (.inr hk))) (HMid.out.s4.cong (fun k hk => HM3.out.out k (.inr (by omega)))) (HMid.out.l2.cong (fun k hk => HM3.out.out k (.inr hk))) (HM3.out.lt (by omega) HGn.out)
        have HLo := Lib.hid hlo2
        clear hlo2
        go_wp2_with fail
        refine HLo.out.mono ?_
        rintro e' w4 ⟨rfl, g2, hr4, hm4, ht4⟩
        have HR4 := Lib.hid hr4
        have HM4 := Lib.hid hm4
        have HT4 := Lib.hid (HT3.out.trans ht4 (fun b hb => .inl hb))
        clear hr4 hm4 ht4 HLo
        go_wp2
        go_end0
        exact ⟨rfl, g2, HR4.out, mid_join HMid.out (by omega) (by omega) HM3.out HM4.out, HT4.out⟩
       ·have : ((s : Int) < (m : Int)) := by omega
        have : ((m : Int) < (e : Int)) := by omega
        have : ((a : Int) < (s : Int)) := by omega
        have : ((s : Int) < (mid : Int)) := by omega
        have : ((mid : Int) < (e : Int)) := by omega
        have : ((e : Int) < (b : Int)) = False := by simp; omega
        have hro := rotate_any G c n hn S f s m e (by omega) (by omega) (by omega) (.func (.func 81) #[] #[]) wr HR1.out
        rw [← HGg.out] at hro
        have HRo := Lib.hid hro
        clear hro
        go_wp2_with fail
        refine HRo.out.mono ?_
        rintro e' w2 ⟨rfl, hr2, ht2⟩
        have HR2 := Lib.hid hr2
        have HT2 := Lib.hid (HW1.out.trans ht2 (fun b hb => .inl hb))
        clear hr2 ht2 HRo
        have hlo2 := HLc.out s (by omega) (by omega) g w2 HR2.out (HT.out.trans HT2.out (fun b hb => .inl hb)) HMid.out.s1 HMid.out.s2 HMid.out.l1 HGn.out
        have HLo := Lib.hid hlo2
        clear hlo2
        go_wp2_with fail
        refine HLo.out.mono ?_
        rintro e' w3 ⟨rfl, g1, hr3, hm3, ht3⟩
        have HR3 := Lib.hid hr3
        have HM3 := Lib.hid hm3
        have HT3 := Lib.hid (HT2.out.trans ht3 (fun b hb => .inl hb))
        clear hr3 hm3 ht3 HLo
        obtain ⟨w4, hw4⟩ : ∃ w4, w4 = w3 := ⟨_, rfl⟩
        subst hw4
        obtain ⟨g2, hg2⟩ : ∃ g2, g2 = g1 := ⟨_, rfl⟩
        have HR4 : Hid (RowV S w4 G c n g2) := Lib.hid (by rw [hg2]; exact HR3.out)
        have HM4 : Hid (SM D g1 mid b g2) := Lib.hid (by rw [hg2]; exact sm_right HMid.out (by omega) (fun k hk => HM3.out.out k (.inr hk)))
        have HT4 := Lib.hid HT3.out
        clear hg2
        go_wp2
        go_end0
        exact ⟨rfl, g2, HR4.out, mid_join HMid.out (by omega) (by omega) HM3.out HM4.out, HT4.out⟩
      ·by_cases k1 : e < b
       ·have : ((s : Int) < (m : Int)) := by omega
        have : ((m : Int) < (e : Int)) := by omega
        have : ((a : Int) < (s : Int)) = False := by simp; omega
        have : ((mid : Int) < (e : Int)) := by omega
        have : ((e : Int) < (b : Int)) := by omega
        have hro := rotate_any G c n hn S f s m e (by omega) (by omega) (by omega) (.func (.func 81) #[] #[]) wr HR1.out
        rw [← HGg.out] at hro
        have HRo := Lib.hid hro
        clear hro
        go_wp2_with fail
        refine HRo.out.mono ?_
        rintro e' w2 ⟨rfl, hr2, ht2⟩
        have HR2 := Lib.hid hr2
        have HT2 := Lib.hid (HW1.out.trans ht2 (fun b hb => .inl hb))
        clear hr2 ht2 HRo
        obtain ⟨w3, hw3⟩ : ∃ w3, w3 = w2 := ⟨_, rfl⟩
        subst hw3
        obtain ⟨g1, hg1⟩ : ∃ g1, g1 = g := ⟨_, rfl⟩
        have HR3 : Hid (RowV S w3 G c n g1) := Lib.hid (by rw [hg1]; exact HR2.out)
        have HM3 : Hid (SM D g a mid g1) := Lib.hid (by rw [hg1]; exact sm_left HMid.out (by omega))
        have HT3 := Lib.hid HT2.out
        clear hg1
        have hlo2 := HRc.out e (by omega) (by omega) g1 w3 HR3.out (HT.out.trans HT3.out (fun b hb => .inl hb)) (HMid.out.s3.cong (fun k hk => HM3.out.out k (.inr hk))) (HMid.out.s4.cong (fun k hk => HM3.out.out k (.inr (by omega)))) (HMid.out.l2.cong (fun k hk => HM3.out.out k (.inr hk))) (HM3.out.lt (by omega) HGn.out)
        have HLo := Lib.hid hlo2
        clear hlo2
        go_wp2_with fail
        refine HLo.out.mono ?_
        rintro e' w4 ⟨rfl, g2, hr4, hm4, ht4⟩
        have HR4 := Lib.hid hr4
        have HM4 := Lib.hid hm4
        have HT4 := Lib.hid (HT3.out.trans ht4 (fun b hb => .inl hb))
        clear hr4 hm4 ht4 HLo
        go_wp2
        go_end0
        exact ⟨rfl, g2, HR4.out, mid_join HMid.out (by omega) (by omega) HM3.out HM4.out, HT4.out⟩
       ·have : ((s : Int) < (m : Int)) := by omega
        have : ((m : Int) < (e : Int)) := by omega
        have : ((a : Int) < (s : Int)) = False := by simp; omega
        have : ((mid : Int) < (e : Int)) := by omega
        have : ((e : Int) < (b : Int)) = False := by simp; omega
        have hro := rotate_any G c n hn S f s m e (by omega) (by omega) (by omega) (.func (.func 81) #[] #[]) wr HR1.out
        rw [← HGg.out] at hro
        have HRo := Lib.hid hro
        clear hro
        go_wp2_with fail
        refine HRo.out.mono ?_
        rintro e' w2 ⟨rfl, hr2, ht2⟩
        have HR2 := Lib.hid hr2
        have HT2 := Lib.hid (HW1.out.trans ht2 (fun b hb => .inl hb))
        clear hr2 ht2 HRo
        obtain ⟨w3, hw3⟩ : ∃ w3, w3 = w2 := ⟨_, rfl⟩
        subst hw3
        obtain ⟨g1, hg1⟩ : ∃ g1, g1 = g := ⟨_, rfl⟩
        have HR3 : Hid (RowV S w3 G c n g1) := Lib.hid (by rw [hg1]; exact HR2.out)
        have HM3 : Hid (SM D g a mid g1) := Lib.hid (by rw [hg1]; exact sm_left HMid.out (by omega))
        have HT3 := Lib.hid HT2.out
        clear hg1
        obtain ⟨w4, hw4⟩ : ∃ w4, w4 = w3 := ⟨_, rfl⟩
        subst hw4
        obtain ⟨g2, hg2⟩ : ∃ g2, g2 = g1 := ⟨_, rfl⟩
        have HR4 : Hid (RowV S w4 G c n g2) := Lib.hid (by rw [hg2]; exact HR3.out)
        have HM4 : Hid (SM D g1 mid b g2) := Lib.hid (by rw [hg2]; exact sm_right HMid.out (by omega) (fun k hk => HM3.out.out k (.inr hk)))
        have HT4 := Lib.hid HT3.out
        clear hg2
        go_wp2
        go_end0
        exact ⟨rfl, g2, HR4.out, mid_join HMid.out (by omega) (by omega) HM3.out HM4.out, HT4.out⟩
     ·have : ((s : Int) < (m : Int)) := by omega
      have : ((m : Int) < (e : Int)) = False := by simp; omega
      have : ((a : Int) < (s : Int)) := by omega
      have : ((s : Int) < (mid : Int)) = False := by simp; omega
      have : ((mid : Int) < (e : Int)) := by omega
      have : ((e : Int) < (b : Int)) := by omega
      obtain ⟨w2, hw2⟩ : ∃ w2, w2 = wr := ⟨_, rfl⟩
      subst hw2
      have HR2 : Hid (RowV S w2 G c n g) := Lib.hid (by rw [HGg.out, show e = m by omega, rot_a]; exact HR1.out)
      have HT2 := Lib.hid HW1.out
      obtain ⟨w3, hw3⟩ : ∃ w3, w3 = w2 := ⟨_, rfl⟩
      subst hw3
      obtain ⟨g1, hg1⟩ : ∃ g1, g1 = g := ⟨_, rfl⟩
      have HR3 : Hid (RowV S w3 G c n g1) := Lib.hid (by rw [hg1]; exact HR2.out)
      have HM3 : Hid (SM D g a mid g1) := Lib.hid (by rw [hg1]; exact sm_left HMid.out (by omega))
      have HT3 := Lib.hid HT2.out
      clear hg1
      have hlo2 := HRc.out e (by omega) (by omega) g1 w3 HR3.out (HT.out.trans HT3.out (fun b hb => .inl hb)) (HMid.out.s3.cong (fun k hk => HM3.out.out k (.inr hk))) (HMid.out.s4.cong (fun k hk => HM3.out.out k (.inr (by omega)))) (HMid.out.l2.cong (fun k hk => HM3.out.out k (.inr hk))) (HM3.out.lt (by omega) HGn.out)
      have HLo := Lib.hid hlo2
      clear hlo2
      go_wp2_with fail
      refine HLo.out.mono ?_
      rintro e' w4 ⟨rfl, g2, hr4, hm4, ht4⟩
      have HR4 := Lib.hid hr4
      have HM4 := Lib.hid hm4
      have HT4 := Lib.hid (HT3.out.trans ht4 (fun b hb => .inl hb))
      clear hr4 hm4 ht4 HLo
      go_wp2
      go_end0
      exact ⟨rfl, g2, HR4.out, mid_join HMid.out (by omega) (by omega) HM3.out HM4.out, HT4.out⟩
    ·by_cases r2 : s < mid
     ·have : ((s : Int) < (m : Int)) = False := by simp; omega
      have : ((a : Int) < (s : Int)) := by omega
      have : ((s : Int) < (mid : Int)) := by omega
      have : ((mid : Int) < (e : Int)) = False := by simp; omega
      obtain ⟨w2, hw2⟩ : ∃ w2, w2 = wr := ⟨_, rfl⟩
      subst hw2
      have HR2 : Hid (RowV S w2 G c n g) := Lib.hid (by rw [HGg.out, show s = m by omega, rot_b]; exact HR1.out)
      have HT2 := Lib.hid HW1.out
      have hlo2 := HLc.out s (by omega) (by omega) g w2 HR2.out (HT.out.trans HT2.out (fun b hb => .inl hb)) HMid.out.s1 HMid.out.s2 HMid.out.l1 HGn.out
      have HLo := Lib.hid hlo2
      clear hlo2
      go_wp2_with fail
      refine HLo.out.mono ?_
      rintro e' w3 ⟨rfl, g1, hr3, hm3, ht3⟩
      have HR3 := Lib.hid hr3
      have HM3 := Lib.hid hm3
      have HT3 := Lib.hid (HT2.out.trans ht3 (fun b hb => .inl hb))
      clear hr3 hm3 ht3 HLo
      obtain ⟨w4, hw4⟩ : ∃ w4, w4 = w3 := ⟨_, rfl⟩
      subst hw4
      obtain ⟨g2, hg2⟩ : ∃ g2, g2 = g1 := ⟨_, rfl⟩
      have HR4 : Hid (RowV S w4 G c n g2) := Lib.hid (by rw [hg2]; exact HR3.out)
      have HM4 : Hid (SM D g1 mid b g2) := Lib.hid (by rw [hg2]; exact sm_right HMid.out (by omega) (fun k hk => HM3.out.out k (.inr hk)))
      have HT4 := Lib.hid HT3.out
      clear hg2
      go_wp2
      go_end0
      exact ⟨rfl, g2, HR4.out, mid_join HMid.out (by omega) (by omega) HM3.out HM4.out, HT4.out⟩
     ·have : ((s : Int) < (m : Int)) = False := by simp; omega
      have : ((a : Int) < (s : Int)) := by omega
      have : ((s : Int) < (mid : Int)) = False := by simp; omega
      have : ((mid : Int) < (e : Int)) = False := by simp; omega
      obtain ⟨w2, hw2⟩ : ∃ w2, w2 = wr := ⟨_, rfl⟩
      subst hw2
      have HR2 : Hid (RowV S w2 G c n g) := Lib.hid (by rw [HGg.out, show s = m by omega, rot_b]; exact HR1.out)
      have HT2 := Lib.hid HW1.out
      obtain ⟨w3, hw3⟩ : ∃ w3, w3 = w2 := ⟨_, rfl⟩
      subst hw3
      obtain ⟨g1, hg1⟩ : ∃ g1, g1 = g := ⟨_, rfl⟩
      have HR3 : Hid (RowV S w3 G c n g1) := Lib.hid (by rw [hg1]; exact HR2.out)
      have HM3 : Hid (SM D g a mid g1) := Lib.hid (by rw [hg1]; exact sm_left HMid.out (by omega))
      have HT3 := Lib.hid HT2.out
      clear hg1
      obtain ⟨w4, hw4⟩ : ∃ w4, w4 = w3 := ⟨_, rfl⟩
      subst hw4
      obtain ⟨g2, hg2⟩ : ∃ g2, g2 = g1 := ⟨_, rfl⟩
      have HR4 : Hid (RowV S w4 G c n g2) := Lib.hid (by rw [hg2]; exact HR3.out)
      have HM4 : Hid (SM D g1 mid b g2) := Lib.hid (by rw [hg2]; exact sm_right HMid.out (by omega) (fun k hk => HM3.out.out k (.inr hk)))
      have HT4 := Lib.hid HT3.out
      clear hg2
      go_wp2
      go_end0
      exact ⟨rfl, g2, HR4.out, mid_join HMid.out (by omega) (by omega) HM3.out HM4.out, HT4.out⟩

/-- slices.symMergeCmpFunc, for every row -/
theorem sm_any (G c n : Nat) (hn : n ≤ 100000) (S : Nat → SL) (R : Nat → Nat → Int) (D : Nat → Nat) (hRD : ∀ x y, R x y < 0 ↔ D x < D y) (w0 : World) (hC : CmpOkV S R G n w0) : ∀ k a m b : Nat, b - a ≤ k → a < m → m < b → b ≤ n → SmSpecV S G c n D w0 a m b := by
 intro k
 induction k with
 | zero => intro a m b h1 h2 h3 _; omega
 | succ k ih =>
  intro a m b hk ham hmb hb
  by_cases q1 : m = a + 1
  ·subst q1; exact sm_first G c n hn S R D hRD w0 hC a b hmb hb
  ·by_cases q2 : b = m + 1
   ·subst q2; exact sm_back G c n hn S R D hRD w0 hC a m (by omega) hb
   ·exact sm_main G c n hn S R D hRD w0 hC a m b ((a + b) / 2) (by omega) (by omega) hb rfl (fun s h1 h2 => ih a s _ (by omega) h1 h2 (by omega)) (fun e h1 h2 => ih _ e b (by omega) h1 h2 hb)
end Go.Proofs.YtafoklilkdnepaaGreatDoor
