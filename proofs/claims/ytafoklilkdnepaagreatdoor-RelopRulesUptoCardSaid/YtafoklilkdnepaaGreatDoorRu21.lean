/- Part 21 of the texts of this proof, one behind the other; each begins with its own sentence. No condition beyond those that its theorems state. -/
import Derived.Test.YtafoklilkdnepaaGreatDoorRu20
import Derived.BigQuiet
import Derived.IntWalk
/- (by first$1; gen_stf.py) slices.symMergeCmpFunc on rows of slices: one element ahead, one behind. (gen_st.py) -/
namespace Go.Proofs.YtafoklilkdnepaaGreatDoor
open Go.RowKit
variable (PB TB : Value)

/-- the comparing function, at whatever world of the sort's -/
def CmpOkF (S : Nat → SL) (R : Nat → Nat → Int) (G n : Nat) (w0 : World) : Prop := ∀ wr, Touch [G] w0 wr → ∀ x y : Nat, x < n → y < n →
 Calls Tryz.prog 142 #[(Value.slice (SL.A (S x)) (SL.n (S x)) (SL.c (S x))), (Value.slice (SL.A (S y)) (SL.n (S y)) (SL.c (S y))), PB, TB] wr fun e w' => e = .returned (.int .i64 (R x y)) ∧ Touch [] wr w'
/-- what symMerge does -/
def SmSpecF (S : Nat → SL) (G c n : Nat) (D : Nat → Nat) (w0 : World) (a m b : Nat) : Prop := ∀ (f : Nat → Nat) (wr : World), RowV S wr G c n f → Touch [G] w0 wr → Srt D f a m → Srt D f m b → Lr f a m b → (∀ k, k < n → f k < n) →
 Calls Tryz.prog 178 #[.slice (some ⟨G, 0, none⟩) n c, .int .i64 a, .int .i64 m, .int .i64 b, .func (.func 142) #[] #[PB, TB]] wr fun e w' =>
  e = .returned (.tuple #[]) ∧ ∃ g, RowV S w' G c n g ∧ SM D f a b g ∧ Touch [G] wr w'

set_option maxRecDepth 20000 in
set_option maxHeartbeats 8000000 in
/-- one element ahead -/
theorem smf_first (G c n : Nat) (hn : n ≤ 100000) (S : Nat → SL) (R : Nat → Nat → Int) (D : Nat → Nat) (hRD : ∀ x y, R x y < 0 ↔ D x < D y) (w0 : World) (hC : CmpOkF PB TB S R G n w0) (a b : Nat) (hab : a + 1 < b) (hb : b ≤ n) : SmSpecF PB TB S G c n D w0 a (a + 1) b := by
 intro f wr hR hT hs1 hs2 hlr hfn
 obtain ⟨W0, hW0⟩ : ∃ W0, W0 = wr := ⟨_, rfl⟩
 subst hW0
 have HR := Lib.hid hR
 have HT := Lib.hid hT
 have HS := Lib.hid (And.intro hs2 hlr)
 have HC := Lib.hid hC
 have e1 : (((a + 1 : Nat) : Int) - (a : Int)) = 1 := by omega
 clear hR hT hs1 hs2 hlr hC
 go_enter Tryz.func178, Tryz.ntmps178
 go_wp2_with fail
 go_loopw [10, 11] (fun x y w1 => ∃ i j : Nat, a + 1 ≤ i ∧ i ≤ j ∧ j ≤ b ∧ x = .int .i64 i ∧ y = .int .i64 j ∧ Hid (∀ h, a + 1 ≤ h → h < i → ltL D (f h) (f a)) ∧ Hid (∀ h, j ≤ h → h < b → ltL D (f a) (f h)) ∧ Hid (Touch [] W0 w1)) (fun x y _ => (intOf y).toNat - (intOf x).toNat)
 case atStart => exact ⟨a + 1, b, by omega, by omega, by omega, by go_num, rfl, Lib.hid (fun h q1 q2 => absurd q1 (by omega)), Lib.hid (fun h q1 q2 => absurd q1 (by omega)), Lib.hid (Touch.refl _ _)⟩
 case round =>
  obtain ⟨i, j, hi, hij, hj, rfl, rfl, HL, HH, HW⟩ := hrel
  have hT1 : Touch [G] w0 wr := HT.out.trans HW.out (by simp)
  have hR1 : RowV S wr G c n f := HR.out.touch0 HW.out
  by_cases hlt : i < j
  ·obtain ⟨h, hh⟩ : ∃ h, h = (i + j) / 2 := ⟨_, rfl⟩
   have hhi : i ≤ h := by omega
   have hhj : h < j := by omega
   have ch := TW.cell (hR1.cell h (by omega))
   have ca := TW.cell (hR1.cell a (by omega))
   obtain ⟨r, hr⟩ : ∃ r, r = R (f h) (f a) := ⟨_, rfl⟩
   have hc : ∀ x8 : TW wr, Calls Tryz.prog 142 #[(Value.slice (SL.A (S (f h))) (SL.n (S (f h))) (SL.c (S (f h)))), (Value.slice (SL.A (S (f a))) (SL.n (S (f a))) (SL.c (S (f a)))), PB, TB] x8.w fun e w' => e = .returned (.int .i64 r) ∧ Touch [] x8.w w' := fun x8 => by
    rw [hr]
    exact HC.out _ (Touch.trans hT1 x8.t (by simp)) (f h) (f a) (hfn _ (by omega)) (hfn _ (by omega))
   have HR1 := Lib.hid hR1
   have HT1 := Lib.hid hT1
   have HCC := Lib.hid hc
   have HQ := Lib.hid hr
   have he : ((i : Int) + (j : Int)) / 2 = (h : Int) := by omega
   clear hR1 hT1 hc hr hh
   go_wp2_with fail
   refine wp_region_tw wr (Touch.refl _ _) (by kernel_rfl) (by kernel_rfl) ?_
   repeat (go_big_quiet_step (((go_at_call 142; exact Calls.tw _ (HCC.out _)))))
   refine wpQuiet_nil ?_
   rintro _ ⟨x9, rfl⟩
   by_cases hr0 : r < 0
   ·go_wp2_with fail
    go_roundw
    case rel =>
     have q := (hRD _ _).1 (HQ.out ▸ hr0)
     have q2 : ltL D (f h) (f a) := .inl (by omega)
     exact ⟨h + 1, j, by omega, by omega, hj, by go_num, rfl, Lib.hid (fun x x1 x2 => srt_lt HS.out.1 x1 (by omega) (by omega) q2), HH, Lib.hid (HW.out.trans0 x9.t)⟩
    case measure => simp [intOf]; omega
   ·have hr1 : (r < 0) = False := by simp; omega
    go_wp2_with fail
    go_roundw
    case rel =>
     have q := mt (hRD (f h) (f a)).2 (HQ.out ▸ hr0)
     have q2 : ltL D (f a) (f h) := (ltL_num (HS.out.2 a h (by omega) (by omega) (by omega) (by omega))).2 (by omega)
     exact ⟨i, h, by omega, by omega, by omega, rfl, by go_num, HL, Lib.hid (fun x x1 x2 => srt_gt HS.out.1 (by omega) x1 x2 q2), Lib.hid (HW.out.trans0 x9.t)⟩
    case measure => simp [intOf]; omega
  ·obtain rfl : i = j := by omega
   have H0 : Hid (RowV S wr G c n (rot f a (a + 1) (a + 1))) := Lib.hid (by rw [rot_a]; exact hR1)
   have HT1 := Lib.hid hT1
   have HW1 : Hid (Touch [G] W0 wr) := Lib.hid (HW.out.mono (by simp))
   have e2 : (i : Int) - 1 = ((i - 1 : Nat) : Int) := by omega
   clear hR1 hT1
   go_wp2_with fail
   go_loopw [13] (fun y w1 => ∃ k : Nat, a ≤ k ∧ k + 1 ≤ i ∧ y = .int .i64 k ∧ Hid (RowV S w1 G c n (rot f a (a + 1) (k + 1))) ∧ Hid (Touch [G] W0 w1)) (fun y _ => i - (intOf y).toNat)
   case atStart => exact ⟨a, by omega, by omega, rfl, H0, HW1⟩
   case round =>
    clear H0 HW1 HT1
    obtain ⟨k, hk, hki, rfl, HRk, HTk⟩ := hrel
    by_cases hlt : k + 1 < i
    ·have hlt2 : (k : Int) < ((i - 1 : Nat) : Int) := by omega
     have ca := HRk.out.cell k (by omega)
     have cb := HRk.out.cell (k + 1) (by omega)
     have fa := HRk.out.free k
     have fb := HRk.out.free (k + 1)
     have hat := rot_up_at f a k hk
     rw [hat.1] at ca
     rw [hat.2] at cb
     obtain ⟨x, hx⟩ : ∃ x, x = f a := ⟨_, rfl⟩
     obtain ⟨y, hy⟩ : ∃ y, y = f (k + 1) := ⟨_, rfl⟩
     rw [← hx] at ca
     rw [← hy] at cb
     have hs := (HRk.out.set k y (by omega)).set (k + 1) x (by omega)
     rw [hx, hy, rot_up f a k hk, ← hx, ← hy] at hs
     have HS2 := Lib.hid hs
     have HT2 := Lib.hid ((HTk.out.setCell (p := ⟨G, k, none⟩) (.inl (by simp)) (Value.slice (SL.A (S y)) (SL.n (S y)) (SL.c (S y)))).setCell (p := ⟨G, k + 1, none⟩) (.inl (by simp)) (Value.slice (SL.A (S x)) (SL.n (S x)) (SL.c (S x))))
     have hne : k ≠ k + 1 := by omega
     clear hat hx hy hs
     go_wp2_with fail
     go_region
     go_wp2_with fail
     go_roundw
     case rel => exact ⟨k + 1, by omega, by omega, by go_num, Lib.hid (HS2.out.touch0 (Touch.refl [] _).drew), Lib.hid HT2.out.drew⟩
     case measure => simp [intOf]; omega
    ·have hlt2 : ((k : Int) < ((i - 1 : Nat) : Int)) = False := by simp; omega
     go_wp2
     refine bodyPost_ret (results_none rfl _ _ _) rfl ?_
     obtain rfl : k + 1 = i := by omega
     exact ⟨rfl, _, HRk.out, sm_one hab HS.out.1 (by omega) hj HL.out HH.out, HTk.out⟩
set_option maxRecDepth 20000 in
set_option maxHeartbeats 8000000 in
/-- one element behind -/
theorem smf_back (G c n : Nat) (hn : n ≤ 100000) (S : Nat → SL) (R : Nat → Nat → Int) (D : Nat → Nat) (hRD : ∀ x y, R x y < 0 ↔ D x < D y) (w0 : World) (hC : CmpOkF PB TB S R G n w0) (a m : Nat) (ham : a + 1 < m) (hb : m + 1 ≤ n) : SmSpecF PB TB S G c n D w0 a m (m + 1) := by
 intro f wr hR hT hs1 hs2 hlr hfn
 obtain ⟨W0, hW0⟩ : ∃ W0, W0 = wr := ⟨_, rfl⟩
 subst hW0
 have HR := Lib.hid hR
 have HT := Lib.hid hT
 have HS := Lib.hid (And.intro hs1 hlr)
 have HC := Lib.hid hC
 have HF := Lib.hid hfn
 have e1 : ((m : Int) - (a : Int) == 1) = false := by simp; omega
 have e2 : (((m + 1 : Nat) : Int) - (m : Int)) = 1 := by omega
 clear hR hT hs1 hs2 hlr hC hfn
 go_enter Tryz.func178, Tryz.ntmps178
 go_wp2_with fail
 go_loopw [14, 15] (fun x y w1 => ∃ i j : Nat, a ≤ i ∧ i ≤ j ∧ j ≤ m ∧ x = .int .i64 i ∧ y = .int .i64 j ∧ Hid (∀ h, a ≤ h → h < i → ltL D (f h) (f m)) ∧ Hid (∀ h, j ≤ h → h < m → ltL D (f m) (f h)) ∧ Hid (Touch [] W0 w1)) (fun x y _ => (intOf y).toNat - (intOf x).toNat)
 case atStart => exact ⟨a, m, by omega, by omega, by omega, rfl, rfl, Lib.hid (fun h q1 q2 => absurd q1 (by omega)), Lib.hid (fun h q1 q2 => absurd q1 (by omega)), Lib.hid (Touch.refl _ _)⟩
 case round =>
  obtain ⟨i, j, hi, hij, hj, rfl, rfl, HL, HH, HW⟩ := hrel
  have hT1 : Touch [G] w0 wr := HT.out.trans HW.out (by simp)
  have hR1 : RowV S wr G c n f := HR.out.touch0 HW.out
  by_cases hlt : i < j
  ·obtain ⟨h, hh⟩ : ∃ h, h = (i + j) / 2 := ⟨_, rfl⟩
   have hhi : i ≤ h := by omega
   have hhj : h < j := by omega
   have ch := TW.cell (hR1.cell h (by omega))
   have ca := TW.cell (hR1.cell m (by omega))
   obtain ⟨r, hr⟩ : ∃ r, r = R (f m) (f h) := ⟨_, rfl⟩
   have hc : ∀ x8 : TW wr, Calls Tryz.prog 142 #[(Value.slice (SL.A (S (f m))) (SL.n (S (f m))) (SL.c (S (f m)))), (Value.slice (SL.A (S (f h))) (SL.n (S (f h))) (SL.c (S (f h)))), PB, TB] x8.w fun e w' => e = .returned (.int .i64 r) ∧ Touch [] x8.w w' := fun x8 => by
    rw [hr]
    exact HC.out _ (Touch.trans hT1 x8.t (by simp)) (f m) (f h) (HF.out _ (by omega)) (HF.out _ (by omega))
   have HR1 := Lib.hid hR1
   have HT1 := Lib.hid hT1
   have HCC := Lib.hid hc
   have HQ := Lib.hid hr
   have he : ((i : Int) + (j : Int)) / 2 = (h : Int) := by omega
   clear hR1 hT1 hc hr hh
   go_wp2_with fail
   by_cases hr0 : r < 0
   ·refine wp_region_tw wr (Touch.refl _ _) (by kernel_rfl) (by kernel_rfl) ?_
    repeat (go_big_quiet_step (((go_at_call 142; exact Calls.tw _ (HCC.out _)))))
    refine wpQuiet_nil ?_
    rintro _ ⟨x9, rfl⟩
    go_wp2_with fail
    go_roundw
    case rel =>
     have q := (hRD _ _).1 (HQ.out ▸ hr0)
     have q2 : ltL D (f m) (f h) := .inl (by omega)
     exact ⟨i, h, by omega, by omega, by omega, rfl, by go_num, HL, Lib.hid (fun x x1 x2 => srt_gt HS.out.1 (by omega) x1 x2 q2), Lib.hid (HW.out.trans0 x9.t)⟩
    case measure => simp [intOf]; omega
   ·have hr1 : (r < 0) = False := by simp; omega
    refine wp_region_tw wr (Touch.refl _ _) (by kernel_rfl) (by kernel_rfl) ?_
    repeat (go_big_quiet_step (((go_at_call 142; exact Calls.tw _ (HCC.out _)))))
    refine wpQuiet_nil ?_
    rintro _ ⟨x9, rfl⟩
    go_wp2_with fail
    go_roundw
    case rel =>
     have q := mt (hRD (f m) (f h)).2 (HQ.out ▸ hr0)
     have q2 : ltL D (f h) (f m) := (ltL_num (HS.out.2 h m (by omega) (by omega) (by omega) (by omega))).2 (by omega)
     exact ⟨h + 1, j, by omega, by omega, hj, by go_num, rfl, Lib.hid (fun x x1 x2 => srt_lt HS.out.1 x1 (by omega) (by omega) q2), HH, Lib.hid (HW.out.trans0 x9.t)⟩
    case measure => simp [intOf]; omega
  ·obtain rfl : i = j := by omega
   have H0 : Hid (RowV S wr G c n (rot f m m (m + 1))) := Lib.hid (by rw [rot_b]; exact hR1)
   have HT1 := Lib.hid hT1
   have HW1 : Hid (Touch [G] W0 wr) := Lib.hid (HW.out.mono (by simp))
   clear hR1 hT1
   go_wp2_with fail
   go_loopw [17] (fun y w1 => ∃ k : Nat, i ≤ k ∧ k ≤ m ∧ y = .int .i64 k ∧ Hid (RowV S w1 G c n (rot f k m (m + 1))) ∧ Hid (Touch [G] W0 w1)) (fun y _ => (intOf y).toNat - i)
   case atStart => exact ⟨m, by omega, by omega, rfl, H0, HW1⟩
   case round =>
    clear H0 HW1 HT1
    obtain ⟨k', hk, hki, rfl, HRk, HTk⟩ := hrel
    by_cases hlt : i < k'
    ·obtain ⟨k, rfl⟩ : ∃ k, k' = k + 1 := ⟨k' - 1, by omega⟩
     have hlt2 : (i : Int) < ((k + 1 : Nat) : Int) := by omega
     have ca := HRk.out.cell k (by omega)
     have cb := HRk.out.cell (k + 1) (by omega)
     have fa := HRk.out.free k
     have fb := HRk.out.free (k + 1)
     have hat := rot_dn_at f m k hki
     rw [hat.1] at ca
     rw [hat.2] at cb
     obtain ⟨x, hx⟩ : ∃ x, x = f m := ⟨_, rfl⟩
     obtain ⟨y, hy⟩ : ∃ y, y = f k := ⟨_, rfl⟩
     rw [← hy] at ca
     rw [← hx] at cb
     have hs := (HRk.out.set (k + 1) y (by omega)).set k x (by omega)
     rw [hx, hy, rot_dn f m k hki, ← hx, ← hy] at hs
     have HS2 := Lib.hid hs
     have HT2 := Lib.hid ((HTk.out.setCell (p := ⟨G, k + 1, none⟩) (.inl (by simp)) (Value.slice (SL.A (S y)) (SL.n (S y)) (SL.c (S y)))).setCell (p := ⟨G, k, none⟩) (.inl (by simp)) (Value.slice (SL.A (S x)) (SL.n (S x)) (SL.c (S x))))
     have e3 : ((k + 1 : Nat) : Int) - 1 = (k : Int) := by omega
     have hne : k + 1 ≠ k := by omega
     clear hat hx hy hs
     go_wp2_with fail
     go_region
     go_wp2_with fail
     go_roundw
     case rel => exact ⟨k, by omega, by omega, by go_num, Lib.hid (HS2.out.touch0 (Touch.refl [] _).drew), Lib.hid HT2.out.drew⟩
     case measure => simp [intOf]; omega
    ·obtain rfl : i = k' := by omega
     have hlt2 : ((i : Int) < (i : Int)) = False := by simp
     go_wp2
     refine bodyPost_ret (results_none rfl _ _ _) rfl ?_
     exact ⟨rfl, _, HRk.out, sm_last (by omega) HS.out.1 hi hj HL.out HH.out, HTk.out⟩
end Go.Proofs.YtafoklilkdnepaaGreatDoor
