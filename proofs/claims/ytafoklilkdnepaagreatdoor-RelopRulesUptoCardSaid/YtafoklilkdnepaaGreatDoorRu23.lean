/- Part 23 of the texts of this proof, one behind the other; each begins with its own sentence. No condition beyond those that its theorems state. -/
import Derived.Test.YtafoklilkdnepaaGreatDoorRu22
import Derived.Shelf.Small.Bits
import Derived.Shelf.Small.Strs
import Derived.Shelf.Small.Wraps
import Derived.Shelf.Strconv.Itoa0
import Derived.Shelf.Strconv.Itoa1
import Derived.Shelf.LaysM
import Derived.Shelf.Strconv.Itoa2
import Derived.Shelf.Strconv.Itoa3
import Derived.Shelf.Strings.Search1
import Derived.Shelf.Sort.Plain
import Derived.Shelf.Slices.Turned
import Derived.Shelf.Slices.Equal
import Derived.Shelf.Slices.CompactS
import Derived.Ground.Names2Prog
import Derived.Shelf.Slices.SearchI
import Derived.Shelf.Slices.Cells
import Derived.Shelf.Slices.In.SortNone
import Derived.Shelf.Slices.Empties2
import Derived.Test.YtafoklilkdnepaaGreatDoorProg
/- (by first$1; gen_stf.py) slices.insertionSortCmpFunc on rows of slices. (gen_st.py) -/
namespace Go.Proofs.YtafoklilkdnepaaGreatDoor
open Go.RowKit
variable (PB TB : Value)

set_option maxRecDepth 20000 in
set_option maxHeartbeats 8000000 in
theorem inf_one (G c n : Nat) (hn : n ≤ 100000) (S : Nat → SL) (R : Nat → Nat → Int) (D : Nat → Nat) (hRD : ∀ x y, R x y < 0 ↔ D x < D y) (w0 : World) (hC : CmpOkF PB TB S R G n w0) (a b : Nat) (hab : a < b) (hb : b ≤ n) (f : Nat → Nat) (wr : World) (hR : RowV S wr G c n f) (hT : Touch [G] w0 wr) (hup : Up f a b) (hfn : ∀ k, k < n → f k < n) :
  Calls Tryz.prog 177 #[.slice (some ⟨G, 0, none⟩) n c, .int .i64 a, .int .i64 b, .func (.func 142) #[] #[PB, TB]] wr fun e w' =>
   e = .returned (.tuple #[]) ∧ ∃ g, RowV S w' G c n g ∧ SM D f a b g ∧ Touch [G] wr w' := by
 obtain ⟨W0, hW0⟩ : ∃ W0, W0 = wr := ⟨_, rfl⟩
 subst hW0
 have HR := Lib.hid hR
 have HT := Lib.hid hT
 have HU := Lib.hid hup
 have HC := Lib.hid hC
 have HF := Lib.hid hfn
 clear hR hT hup hC hfn
 go_enter Tryz.func177, Tryz.ntmps177
 go_wp2_with fail
 go_loopw [8] (fun y w1 => ∃ (i : Nat) (g : Nat → Nat), a + 1 ≤ i ∧ i ≤ b ∧ y = .int .i64 i ∧ Hid (RowV S w1 G c n g) ∧ Hid (SM D f a i g) ∧ Hid (Touch [G] W0 w1)) (fun y _ => b - (intOf y).toNat)
 case atStart => exact ⟨a + 1, f, by omega, by omega, by go_num, HR, Lib.hid (SM.self (fun i j h1 h2 h3 => absurd h1 (by omega))), Lib.hid (Touch.refl _ _)⟩
 case round =>
  obtain ⟨i, g, hi, hib, rfl, HG, HM, HTg⟩ := hrel
  obtain ⟨W1, hW1⟩ : ∃ W1, W1 = wr := ⟨_, rfl⟩
  subst hW1
  by_cases hlt : i < b
  ·have H0 : Hid (RowV S W1 G c n (rot g i i (i + 1))) := Lib.hid (by rw [rot_b]; exact HG.out)
   have HFg := Lib.hid (HM.out.lt (by omega : i ≤ n) HF.out)
   go_wp2_with fail
   go_loopw [9] (fun y w1 => ∃ j : Nat, a ≤ j ∧ j ≤ i ∧ y = .int .i64 j ∧ Hid (RowV S w1 G c n (rot g j i (i + 1))) ∧ Hid (∀ h, j ≤ h → h < i → ltL D (g i) (g h)) ∧ Hid (Touch [G] W0 w1)) (fun y _ => (intOf y).toNat)
   case atStart => exact ⟨i, by omega, by omega, rfl, H0, Lib.hid (fun h q1 q2 => absurd q1 (by omega)), HTg⟩
   case round =>
    clear H0 HTg HG HR
    obtain ⟨k', hk, hki, rfl, HRk, HH, HTk⟩ := hrel
    by_cases hlk : a < k'
    ·obtain ⟨k, hkj⟩ : ∃ k, k' = k + 1 := ⟨k' - 1, by omega⟩
     have hlt2 : (a : Int) < (k' : Int) := by omega
     have ca := TW.cell (HRk.out.cell k (by omega))
     have cb := TW.cell (HRk.out.cell k' (by omega))
     have fa := HRk.out.free k
     have fb := HRk.out.free k'
     have hat := rot_dn_at g i k (by omega)
     have hdn := rot_dn g i k (by omega)
     rw [← hkj] at hat hdn
     rw [hat.1] at ca
     rw [hat.2] at cb
     obtain ⟨x, hx⟩ : ∃ x, x = g i := ⟨_, rfl⟩
     obtain ⟨y, hy⟩ : ∃ y, y = g k := ⟨_, rfl⟩
     rw [← hy] at ca
     rw [← hx] at cb
     have hxn : x < n := by rw [hx]; exact HFg.out _ (by omega)
     have hyn : y < n := by rw [hy]; exact HFg.out _ (by omega)
     have hs : ∀ q : TW wr, RowV S ((q.w.setCell ⟨G, k', none⟩ (Value.slice (SL.A (S y)) (SL.n (S y)) (SL.c (S y)))).setCell ⟨G, k, none⟩ (Value.slice (SL.A (S x)) (SL.n (S x)) (SL.c (S x)))) G c n (rot g k i (i + 1)) := fun q => by
      have z := ((HRk.out.touch0 q.t).set k' y (by omega)).set k x (by omega)
      rw [hx, hy, hdn, ← hx, ← hy] at z
      exact z
     obtain ⟨r, hr⟩ : ∃ r, r = R x y := ⟨_, rfl⟩
     have hc : ∀ x8 : TW wr, Calls Tryz.prog 142 #[(Value.slice (SL.A (S x)) (SL.n (S x)) (SL.c (S x))), (Value.slice (SL.A (S y)) (SL.n (S y)) (SL.c (S y))), PB, TB] x8.w fun e w' => e = .returned (.int .i64 r) ∧ Touch [] x8.w w' := fun x8 => by
      rw [hr]
      exact HC.out _ (Touch.trans (HT.out.trans HTk.out (fun b hb => .inl hb)) x8.t (by simp)) x y hxn hyn
     have HCC := Lib.hid hc
     have HQ := Lib.hid hr
     have HX := Lib.hid hx
     have HY := Lib.hid hy
     have HS2 := Lib.hid hs
     have HT2 := Lib.hid (fun q : TW wr => ((Touch.trans HTk.out q.t (by simp)).setCell (p := ⟨G, k', none⟩) (.inl (by simp)) (Value.slice (SL.A (S y)) (SL.n (S y)) (SL.c (S y)))).setCell (p := ⟨G, k, none⟩) (.inl (by simp)) (Value.slice (SL.A (S x)) (SL.n (S x)) (SL.c (S x))))
     have e3 : (k' : Int) - 1 = (k : Int) := by omega
     have hne : k' ≠ k := by omega
     have HK := Lib.hid hkj
     have hkn : k < n := by omega
     have hkn2 : k' < n := by omega
     clear hat hx hy hs hc hr hkj hdn
     go_wp2_with fail
     by_cases hr0 : r < 0
     ·refine wp_region_tw wr (Touch.refl _ _) (by kernel_rfl) (by kernel_rfl) ?_
      repeat (go_big_quiet_step (((go_at_call 142; exact Calls.tw _ (HCC.out _)))))
      refine wpQuiet_nil ?_
      rintro _ ⟨x9, rfl⟩
      have fa9 := (HRk.out.touch0 x9.t).free k
      have fb9 := (HRk.out.touch0 x9.t).free k'
      go_wp2_with fail
      go_region
      go_wp2_with fail
      go_roundw
      case rel =>
       have hkj := HK.out
       have q := (hRD _ _).1 (HQ.out ▸ hr0)
       have q2 : ltL D (g i) (g k) := by rw [← HX.out, ← HY.out]; exact .inl (by omega)
       refine ⟨k, by omega, by omega, by go_num, Lib.hid ((HS2.out x9).touch0 (Touch.refl [] _).drew), Lib.hid (fun h q1 q3 => srt_gt HM.out.srt (by omega) q1 q3 q2), Lib.hid (HT2.out x9).drew⟩
      case measure => simp [intOf]; omega
     ·have hr1 : (r < 0) = False := by simp; omega
      refine wp_region_tw wr (Touch.refl _ _) (by kernel_rfl) (by kernel_rfl) ?_
      repeat (go_big_quiet_step (((go_at_call 142; exact Calls.tw _ (HCC.out _)))))
      refine wpQuiet_nil ?_
      rintro _ ⟨x9, rfl⟩
      go_wp2_with fail
      go_roundw
      case rel =>
       have q := mt (hRD x y).2 (HQ.out ▸ hr0)
       have q2 : ltL D (g k) (g i) := (ltL_num (in_num HU.out HM.out hlt (by have := HK.out; omega) (by have := HK.out; omega))).2 (by rw [← HX.out, ← HY.out]; omega)
       have hkj := HK.out
       exact ⟨i + 1, _, by omega, by omega, by go_num, Lib.hid (HRk.out.touch0 x9.t), Lib.hid (in_step (by omega) HM.out (sm_last (by omega) HM.out.srt hk hki (fun h q1 q3 => srt_lt HM.out.srt q1 (show h ≤ k by omega) (by omega) q2) HH.out)), Lib.hid (Touch.trans HTk.out x9.t (by simp))⟩
      case measure => simp [intOf]; omega
    ·obtain rfl : a = k' := by omega
     go_wp2_with fail
     go_quiet (fail)
     go_wp2_with fail
     go_roundw
     case rel =>
      exact ⟨i + 1, _, by omega, by omega, by go_num, Lib.hid (HRk.out.touch0 ((Touch.refl [] _).drewN _)), Lib.hid (in_step (by omega) HM.out (sm_last (by omega) HM.out.srt (Nat.le_refl _) hki (fun h q1 q3 => absurd q1 (by omega)) HH.out)), Lib.hid (HTk.out.drewN _)⟩
     case measure => simp [intOf]; omega
  ·obtain rfl : i = b := by omega
   go_wp2
   go_end0
   exact ⟨rfl, g, HG.out, HM.out, HTg.out⟩
end Go.Proofs.YtafoklilkdnepaaGreatDoor

/- (by first$1; gen_stf.py) slices.stableCmpFunc and SortStableFunc on rows of slices, of any length. -/
namespace Go.Proofs.YtafoklilkdnepaaGreatDoor
open Go.RowKit
variable (PB TB : Value)


set_option maxRecDepth 20000 in
set_option maxHeartbeats 3200000 in
theorem inf_none (G c n : Nat) (hn : n ≤ 100000) (S : Nat → SL) (D : Nat → Nat) (a : Nat) (ha : a ≤ n) (f : Nat → Nat) (w : World) (hR : RowV S w G c n f) :
  Calls Tryz.prog 177 #[.slice (some ⟨G, 0, none⟩) n c, .int .i64 a, .int .i64 a, .func (.func 142) #[] #[PB, TB]] w (InPV S G c n D f a a w) := by
 have HP : Hid (InPV S G c n D f a a w (.returned (.tuple #[])) w) := Lib.hid ⟨rfl, f, hR, SM.self (fun i j h1 h2 h3 => absurd h1 (by omega)), Touch.refl _ _⟩
 generalize InPV S G c n D f a a w = P at HP ⊢
 clear hR
 go_enter Tryz.func177, Tryz.ntmps177
 go_wp2_with fail
 go_loop [8] (fun y => y = .int .i64 (a + 1 : Nat)) (fun _ => 0)
 case atStart => go_num
 case round =>
  obtain rfl := hrel
  have : (((a + 1 : Nat) : Int) < (a : Int)) = False := by simp; omega
  go_wp2
  go_end0
  exact HP.out

set_option maxRecDepth 20000 in
set_option maxHeartbeats 6400000 in
theorem stablef_any (G c n : Nat) (h0 : 0 < n) (hn : n ≤ 100000) (S : Nat → SL) (R : Nat → Nat → Int) (D : Nat → Nat) (hRD : ∀ x y, R x y < 0 ↔ D x < D y) (w0 : World) (hC : CmpOkF PB TB S R G n w0) (w : World) (hR : RowV S w G c n (fun k => k)) (hT : Touch [G] w0 w) :
  Calls Tryz.prog 143 #[.slice (some ⟨G, 0, none⟩) n c, .int .i64 n, .func (.func 142) #[] #[PB, TB]] w fun e w' => e = .returned (.tuple #[]) ∧ ∃ g, RowV S w' G c n g ∧ Good D g 0 n ∧ Touch [G] w w' := by
 have HT := Lib.hid hT
 have HC := Lib.hid hC
 have HR := Lib.hid hR
 clear hR hT hC
 go_enter Tryz.func143, Tryz.ntmps143
 go_wp2
 go_loopw [7, 8] (fun a b w1 => ∃ (q : Nat) (p : Nat) (f : Nat → Nat), p = q * 20 ∧ p ≤ n ∧ a = .int .i64 p ∧ b = .int .i64 ((p : Int) + 20) ∧ Hid (RowV S w1 G c n f) ∧ Hid (Ph1 D f n q) ∧ Hid (∀ k, k < n → f k < n) ∧ Hid (Touch [G] w w1)) (fun a _ _ => n - (intOf a).toNat)
 case atStart => exact ⟨0, 0, fun k => k, by omega, by omega, rfl, rfl, HR, Lib.hid (Ph1.zero D n), Lib.hid (fun _ h => h), Lib.hid (Touch.refl _ _)⟩
 case round =>
  clear HR
  obtain ⟨q, p, f, hp, hpn, rfl, rfl, HR, HP, HF, HTw⟩ := hrel
  have Hp := Lib.hid hp
  have HT1 : Hid (Touch [G] w0 wr) := Lib.hid (HT.out.trans HTw.out (fun b hb => .inl hb))
  clear hp
  by_cases hb : p + 20 ≤ n
  ·have hl : (p : Int) + 20 ≤ (n : Int) := by omega
   have hi := inf_one PB TB G c n hn S R D hRD w0 HC.out p (p + 20) (by omega) hb f wr HR.out HT1.out (by rw [Hp.out]; exact HP.out.up) HF.out
   rw [show ((p + 20 : Nat) : Int) = (p : Int) + 20 by omega] at hi
   have Hi := Lib.hid hi
   clear hi
   go_wp2_with fail
   refine Hi.out.mono ?_
   rintro e w1 ⟨rfl, g, hr1, hm1, ht1⟩
   have HR1 := Lib.hid hr1
   have HM1 := Lib.hid hm1
   have HT2 := Lib.hid (HTw.out.trans ht1 (fun b hb => .inl hb))
   clear hr1 hm1 ht1 Hi
   go_wp2_with fail
   go_roundw
   case rel => exact ⟨q + 1, p + 20, g, by have := Hp.out; omega, hb, by go_num, by go_num, HR1, Lib.hid (HP.out.next (by rw [← Hp.out]; exact HM1.out)), Lib.hid (HM1.out.lt hb HF.out), HT2⟩
   case measure => simp [intOf]; omega
  ·have hl : ((p : Int) + 20 ≤ (n : Int)) = False := by simp; omega
   have hi : Calls Tryz.prog 177 #[.slice (some ⟨G, 0, none⟩) n c, .int .i64 p, .int .i64 n, .func (.func 142) #[] #[PB, TB]] wr (InPV S G c n D f p n wr) := by
    by_cases e : p = n
    ·rw [e]; exact inf_none PB TB G c n hn S D n (Nat.le_refl _) f wr HR.out
    ·exact inf_one PB TB G c n hn S R D hRD w0 HC.out p n (by omega) (Nat.le_refl _) f wr HR.out HT1.out (by rw [Hp.out]; exact HP.out.up) HF.out
   have Hi := Lib.hid hi
   clear hi
   go_wp2_with fail
   refine Hi.out.mono ?_
   rintro e w2 ⟨rfl, g, hr1, hm1, ht1⟩
   have HR1 := Lib.hid hr1
   have HT2 := Lib.hid (HTw.out.trans ht1 (fun b hb => .inl hb))
   have HL : Hid (Til D g 20 n) := Lib.hid (HP.out.last (by rw [← Hp.out]; exact hpn) (by rw [← Hp.out]; omega) (by rw [← Hp.out]; exact hm1))
   have HF1 := Lib.hid (hm1.lt (Nat.le_refl _) HF.out)
   clear hr1 hm1 ht1 Hi HR HP HF HTw HT1 Hp
   go_wp2_with fail
   go_loopw [6, 7, 8, 9] (fun a _ _ _ w1 => ∃ (bs : Nat) (f : Nat → Nat), 20 ≤ bs ∧ bs ≤ 200000 ∧ a = .int .i64 bs ∧ Hid (RowV S w1 G c n f) ∧ Hid (Til D f bs n) ∧ Hid (∀ k, k < n → f k < n) ∧ Hid (Touch [G] w w1)) (fun a _ _ _ _ => n - (intOf a).toNat)
   case atStart => exact ⟨20, g, by omega, by omega, rfl, HR1, HL, HF1, HT2⟩
   case round =>
    clear HR1 HL HF1 HT2
    obtain ⟨bs, f, hbs, hbs2, rfl, HR, HL, HF, HTw⟩ := hrel
    by_cases hbn : bs < n
    ·obtain ⟨tb, htb⟩ : ∃ tb, tb = 2 * bs := ⟨_, rfl⟩
     have e2 : 2 * (bs : Int) = (tb : Int) := by omega
     have e3 : (bs : Int) * 2 = (tb : Int) := by omega
     have hlt : (bs : Int) < (n : Int) := by omega
     have htb1 : bs < tb := by omega
     have htb2 : tb ≤ 200000 := by omega
     have htb3 : tb ≤ bs + bs := by omega
     have htb4 : bs + bs ≤ tb := by omega
     have HTB := Lib.hid htb
     have HP0 : Hid (Ph2 D f bs n 0) := Lib.hid (Ph2.zero HL.out)
     clear htb
     go_wp2_with fail
     go_loopw [7, 8] (fun a b w1 => ∃ (q : Nat) (p : Nat) (f : Nat → Nat), p ≤ n ∧ a = .int .i64 p ∧ b = .int .i64 ((p : Int) + (tb : Int)) ∧ Hid (p = q * (2 * bs)) ∧ Hid (RowV S w1 G c n f) ∧ Hid (Ph2 D f bs n q) ∧ Hid (∀ k, k < n → f k < n) ∧ Hid (Touch [G] w w1)) (fun a _ _ => n - (intOf a).toNat)
     case atStart => exact ⟨0, 0, f, by omega, rfl, by go_num, Lib.hid (by omega), HR, HP0, HF, HTw⟩
     case round =>
      clear HR HP0 HF HTw HL
      obtain ⟨q, p, f, hpn, rfl, rfl, Hp, HR, HP, HF, HTw⟩ := hrel
      have HT1 : Hid (Touch [G] w0 wr) := Lib.hid (HT.out.trans HTw.out (fun b hb => .inl hb))
      by_cases hb : p + tb ≤ n
      ·have hl : (p : Int) + (tb : Int) ≤ (n : Int) := by omega
       have hpq : q * (2 * bs) + 2 * bs ≤ n := by rw [← Hp.out, ← HTB.out]; exact hb
       obtain ⟨g1, g2⟩ := HP.out.two (by omega) (by omega)
       have g2' := g2.same (b' := p + tb) (by rw [← Hp.out, ← HTB.out]; omega)
       rw [← Hp.out] at g1 g2'
       have hsm := smf_any PB TB G c n hn S R D hRD w0 HC.out n p (p + bs) (p + tb) (by omega) (by omega) (by omega) hb f wr HR.out HT1.out g1.1 g2'.1 (g1.lr g2') HF.out
       rw [show ((p + bs : Nat) : Int) = (p : Int) + (bs : Int) by omega, show ((p + tb : Nat) : Int) = (p : Int) + (tb : Int) by omega] at hsm
       have HS := Lib.hid hsm
       have Hpq := Lib.hid hpq
       clear hsm hpq g1 g2 g2'
       go_wp2_with fail
       refine HS.out.mono ?_
       rintro e w1 ⟨rfl, g, hr1, hm1, ht1⟩
       have HR1 := Lib.hid hr1
       have HM1 := Lib.hid hm1
       have HT2 := Lib.hid (HTw.out.trans ht1 (fun b hb => .inl hb))
       clear hr1 hm1 ht1 HS
       go_wp2_with fail
       go_roundw
       case rel => exact ⟨q + 1, p + tb, g, hb, by go_num, by go_num, Lib.hid (by rw [Nat.add_mul, Nat.one_mul, ← Hp.out, ← HTB.out]), HR1, Lib.hid (HP.out.next (by omega) Hpq.out (by rw [← Hp.out, ← HTB.out]; exact HM1.out)), Lib.hid (HM1.out.lt hb HF.out), HT2⟩
       case measure => simp [intOf]; omega
      ·have hl : ((p : Int) + (tb : Int) ≤ (n : Int)) = False := by simp; omega
       by_cases hm : p + bs < n
       ·have hl2 : (p : Int) + (bs : Int) < (n : Int) := by omega
        obtain ⟨g1, g2⟩ := HP.out.two (by omega) (by rw [← Hp.out]; exact hm)
        have g2' := g2.same (b' := n) (by rw [← Hp.out, ← HTB.out]; omega)
        rw [← Hp.out] at g1 g2'
        have hsm := smf_any PB TB G c n hn S R D hRD w0 HC.out n p (p + bs) n (by omega) (by omega) hm (Nat.le_refl _) f wr HR.out HT1.out g1.1 g2'.1 (g1.lr g2') HF.out
        rw [show ((p + bs : Nat) : Int) = (p : Int) + (bs : Int) by omega] at hsm
        have HS := Lib.hid hsm
        clear hsm g1 g2 g2'
        go_wp2_with fail
        refine HS.out.mono ?_
        rintro e w1 ⟨rfl, g, hr1, hm1, ht1⟩
        have HR1 := Lib.hid hr1
        have HM1 := Lib.hid hm1
        have HT2 := Lib.hid (HTw.out.trans ht1 (fun b hb => .inl hb))
        have HZ : Hid (Til D g tb n) := Lib.hid (by
         have := HP.out.last (by omega) (by rw [← Hp.out]; exact hm) (by rw [← Hp.out, ← HTB.out]; omega) (by rw [← Hp.out]; exact hm1)
         rw [← HTB.out] at this
         exact this)
        clear hr1 hm1 ht1 HS
        go_wp2_with fail
        go_roundw
        case rel => exact ⟨tb, g, by omega, by omega, by go_num, HR1, HZ, Lib.hid (HM1.out.lt (Nat.le_refl _) HF.out), HT2⟩
        case measure => simp [intOf]; omega
       ·have hl2 : ((p : Int) + (bs : Int) < (n : Int)) = False := by simp; omega
        have HZ : Hid (Til D f tb n) := Lib.hid (by
         have := HP.out.quit (by omega) (by rw [← Hp.out]; exact hpn) (by rw [← Hp.out]; omega)
         rw [← HTB.out] at this
         exact this)
        go_wp2_with fail
        go_roundw
        case rel => exact ⟨tb, f, by omega, by omega, by go_num, HR, HZ, HF, HTw⟩
        case measure => simp [intOf]; omega
    ·have hlt : ((bs : Int) < (n : Int)) = False := by simp; omega
     go_wp2_with fail
     go_end0
     exact ⟨rfl, f, HR.out, HL.out.all h0 (by omega), HTw.out⟩

set_option maxHeartbeats 800000 in
theorem sortStablef_any (G c n : Nat) (h0 : 0 < n) (hn : n ≤ 100000) (S : Nat → SL) (R : Nat → Nat → Int) (D : Nat → Nat) (hRD : ∀ x y, R x y < 0 ↔ D x < D y) (w0 : World) (hC : CmpOkF PB TB S R G n w0) (w : World) (hR : RowV S w G c n (fun k => k)) (hT : Touch [G] w0 w) :
  Calls Tryz.prog 102 #[.slice (some ⟨G, 0, none⟩) n c, .func (.func 142) #[] #[PB, TB]] w fun e w' => e = .returned (.tuple #[]) ∧ ∃ g, RowV S w' G c n g ∧ Good D g 0 n ∧ Touch [G] w w' := by
 have Hi := Lib.hid (stablef_any PB TB G c n h0 hn S R D hRD w0 hC w hR hT)
 clear hR hT hC
 go_enter Tryz.func102, Tryz.ntmps102
 go_wp2_with fail
 refine Hi.out.mono ?_
 rintro e w1 ⟨rfl, g, hg⟩
 have Hg := Lib.hid hg
 clear hg
 go_wp2_with fail
 go_end0
 exact ⟨rfl, g, Hg.out⟩
end Go.Proofs.YtafoklilkdnepaaGreatDoor

/- The order of relop's By: ranks; slices.SortStableFunc at rows of values by first$1. -/
namespace Go.Proofs.YtafoklilkdnepaaGreatDoor
open Go.RowKit

theorem by1_neg (cs : List CD) (o : ByteArray × Bool) (a b : List VD) : by1 cs o b a = -by1 cs o a b := by
 unfold by1
 dsimp only
 rw [cmpVV_neg (a.getD ((placeV cs o.1).getD 0) ⟨0, 0, ByteArray.empty⟩) (b.getD ((placeV cs o.1).getD 0) ⟨0, 0, ByteArray.empty⟩)]
 split <;> omega
theorem tr_by1 (cs : List CD) (o : ByteArray × Bool) (a b c : List VD) : Tr (by1 cs o a b) (by1 cs o b c) (by1 cs o a c) := by
 unfold by1
 dsimp only
 obtain ⟨x, hx⟩ : ∃ x, x = a.getD ((placeV cs o.1).getD 0) ⟨0, 0, ByteArray.empty⟩ := ⟨_, rfl⟩
 obtain ⟨y, hy⟩ : ∃ y, y = b.getD ((placeV cs o.1).getD 0) ⟨0, 0, ByteArray.empty⟩ := ⟨_, rfl⟩
 obtain ⟨z, hz⟩ : ∃ z, z = c.getD ((placeV cs o.1).getD 0) ⟨0, 0, ByteArray.empty⟩ := ⟨_, rfl⟩
 rw [← hx, ← hy, ← hz]
 cases o.2
 ·exact tr_val x y z
 ·have h := tr_val z y x
  rw [cmpVV_neg x y, cmpVV_neg y z, cmpVV_neg x z] at h
  intro h1 h2
  have := h h2 h1
  exact ⟨this.1, this.2.trans And.comm⟩
theorem cmpBy_neg (cs : List CD) : ∀ (os : List (ByteArray × Bool)) (a b : List VD), cmpBy cs os b a = -cmpBy cs os a b
 | [], _, _ => by simp [cmpBy]
 | o :: os, a, b => by
  rw [cmpBy, cmpBy, cmpBy_neg cs os a b, by1_neg cs o a b]
  by_cases h : by1 cs o a b = 0
  ·rw [if_pos (by omega), if_pos h]
  ·rw [if_neg (by omega), if_neg h]
theorem tr_cmpBy (cs : List CD) : ∀ (os : List (ByteArray × Bool)) (a b c : List VD), Tr (cmpBy cs os a b) (cmpBy cs os b c) (cmpBy cs os a c)
 | [], _, _, _ => fun _ _ => by simp [cmpBy]
 | o :: os, a, b, c => by
  rw [cmpBy, cmpBy, cmpBy]
  exact (tr_by1 cs o a b c).lex (tr_cmpBy cs os a b c)
def byR (cs : List CD) (os : List (ByteArray × Bool)) (rows : List (List VD)) (x y : Nat) : Int := cmpBy cs os (rows.getD x []) (rows.getD y [])
/-- a row's rank -/
def byD (cs : List CD) (os : List (ByteArray × Bool)) (rows : List (List VD)) (x : Nat) : Nat := rankN (byR cs os rows) (rows.length + 1) x
theorem byD_iff (cs : List CD) (os : List (ByteArray × Bool)) (rows : List (List VD)) (x y : Nat) : byR cs os rows x y < 0 ↔ byD cs os rows x < byD cs os rows y := by
 refine rank_iff (R := byR cs os rows) (fun x y => cmpBy_neg cs os _ _) (fun x y z => tr_cmpBy cs os _ _ _) (fun x => ?_) x y
 by_cases h : x < rows.length
 ·exact ⟨x, by omega, fun _ => rfl⟩
 ·refine ⟨rows.length, by omega, fun y => ?_⟩
  unfold byR
  rw [List.getD_eq_getElem?_getD, List.getElem?_eq_none (Nat.le_refl _), List.getD_eq_getElem?_getD (l := rows) (i := x), List.getElem?_eq_none (by omega)]

/-- what first$1 wants of the world -/
structure ByAt (PB TB : Nat) (cs : List CD) (os : List (ByteArray × Bool)) (w : World) : Prop where
 by_ : ∃ BA bc, w.cell? ⟨PB, 14, none⟩ = some (.slice BA os.length bc) ∧ RdK odE w BA os
 cols : ∃ sA sc, w.cell? ⟨TB, 0, none⟩ = some (.slice sA cs.length sc) ∧ ColsAt w sA cs

/-- the rows that a row of places tells -/
def pickL {α : Type} (z : α) (l : List α) (g : Nat → Nat) : List α := (List.range l.length).map fun k => l.getD (g k) z
theorem pickL_length {α : Type} (z : α) (l : List α) (g : Nat → Nat) : (pickL z l g).length = l.length := by simp [pickL]

theorem sortBy_any (PB TB : Nat) (cs : List CD) (os : List (ByteArray × Bool)) (B : Option Addr) (c n : Nat) (sl : List SL) (rows : List (List VD)) (hn : rows.length = n) (hl : n ≤ 100000) (hin : ∀ r ∈ rows, r.length ≤ 140737000000000 ∧ ∀ o ∈ os, (placeV cs o.1).getD 0 < r.length) (hl3 : cs.length ≤ 140737000000000) (hl4 : os.length ≤ 140737000000000)
  (w : World) (h1 : sl.length = rows.length) (h2 : OwnK 33 1 slE w B c sl) (hk : ∀ wr, Touch (fpo B) w wr → SlsAt wr sl rows ∧ ByAt PB TB cs os wr) :
  Calls Tryz.prog 102 #[.slice B n c, .func (.func 142) #[] #[.pointer (some ⟨PB, 0, none⟩), .pointer (some ⟨TB, 0, none⟩)]] w fun e w' =>
   e = .returned (.tuple #[]) ∧ ∃ g, Good (byD cs os rows) g 0 rows.length ∧ OwnK 33 1 slE w' B c (pickL ⟨none, 0, 0⟩ sl g) ∧ SlsAt w' (pickL ⟨none, 0, 0⟩ sl g) (pickL [] rows g) ∧ Touch (fpo B) w w' := by
 subst hn
 by_cases h0 : rows.length = 0
 ·obtain rfl : rows = [] := List.eq_nil_of_length_eq_zero h0
  obtain rfl : sl = [] := List.eq_nil_of_length_eq_zero h1
  refine (sortR_nil B c _ w).mono ?_
  rintro e w1 ⟨rfl, rfl⟩
  exact ⟨rfl, fun k => k, ⟨fun i j h1 h2 h3 => absurd (show j < 0 from h3) (by omega), fun k => ⟨fun ⟨i, _, h, _⟩ => absurd (show i < 0 from h) (by omega), fun h => absurd (show k < 0 from h.2) (by omega)⟩⟩, h2, (hk _ (Touch.refl _ _)).1, Touch.refl _ _⟩
 ·rcases h2.head with ⟨q1, q2, q3⟩ | ⟨G, rfl⟩
  ·exact absurd (by rw [← h1, q2]; rfl) h0
  ·have hget : ∀ x (hx : x < sl.length), sl.getD x ⟨none, 0, 0⟩ = sl[x] := fun x hx => by simp [hx]
   have hgr : ∀ x (hx : x < rows.length), rows.getD x [] = rows[x] := fun x hx => by simp [hx]
   have hat : ∀ wr, Touch [G] w wr → ∀ x (hx : x < rows.length), (sl.getD x ⟨none, 0, 0⟩).n = (rows.getD x []).length ∧ ValsAt wr (sl.getD x ⟨none, 0, 0⟩).A (rows.getD x []) := fun wr ht x hx => by
    have hx1 : x < sl.length := by omega
    rw [hget x hx1, hgr x hx]
    exact (hk wr ht).1.2 x hx1 hx
   have hC : CmpOkF (.pointer (some ⟨PB, 0, none⟩)) (.pointer (some ⟨TB, 0, none⟩)) (fun x => sl.getD x ⟨none, 0, 0⟩) (byR cs os rows) G rows.length w := by
    intro wr ht x y hx hy
    obtain ⟨a1, a2⟩ := hat wr ht x hx
    obtain ⟨b1, b2⟩ := hat wr ht y hy
    have k1 := hin _ (List.getElem_mem hx)
    have k2 := hin _ (List.getElem_mem hy)
    rw [← hgr x hx] at k1
    rw [← hgr y hy] at k2
    obtain ⟨⟨BA, bc, p1, p2⟩, ⟨sA, sc, p3, p4⟩⟩ := (hk wr ht).2
    exact first1_any PB TB _ _ sA BA _ _ _ _ sc _ bc cs os _ _ a1.symm b1.symm rfl wr p1 p3 p2 p4 a2 b2 (by rw [a1]; exact k1.1) (by rw [b1]; exact k2.1) hl3 hl4 (fun o ho => ⟨k1.2 o ho, k2.2 o ho⟩)
   have hR : RowV (fun x => sl.getD x ⟨none, 0, 0⟩) w G c rows.length (fun k => k) := by
    unfold RowV
    rw [range_getD sl _ _ h1]
    exact h2
   refine (sortStablef_any _ _ G c rows.length (by omega) hl _ _ _ (byD_iff cs os rows) w hC w hR (Touch.refl _ _)).mono ?_
   rintro e w1 ⟨rfl, g, hr, hg, ht⟩
   have hgn : ∀ i, i < rows.length → g i < rows.length := fun i hi => ((hg.2 (g i)).1 ⟨i, Nat.zero_le _, hi, rfl⟩).2
   refine ⟨rfl, g, hg, by unfold pickL; rw [h1]; exact hr, ⟨by rw [pickL_length, pickL_length, h1], fun i a b => ?_⟩, ht⟩
   have hi : i < rows.length := by rw [pickL_length] at b; exact b
   have := hat w1 ht (g i) (hgn i hi)
   simpa [pickL] using this
end Go.Proofs.YtafoklilkdnepaaGreatDoor

/- The contracts of Go library functions at this translation, laid in plain words by the tool of the kit; no condition. -/
namespace Go.Proofs
open Go.Shelf
def Tryz.lays137_ren : Go.Shelf.Ren := ⟨fun | 137 => 187 | 217 => 204 | 266 => 212 | n => n, fun | 9 => 9 | 5 => 5 | 3 => 3 | n => n, fun | n => n⟩
theorem Tryz.lays137 : Go.Proofs.Lays.n137 Tryz.prog Tryz.lays137_ren := {
 mixed := by kernel_rfl
 f137 := Tryz.func187.trans (congrArg some (by kernel_rfl))
 f217 := Tryz.func204.trans (congrArg some (by kernel_rfl))
 f266 := Tryz.func212.trans (congrArg some (by kernel_rfl))
 t3 := Tryz.underlying3
 a3 := Tryz.isAgg3
 z3 := Tryz.sizeOf3
 v3 := Tryz.zeroValue3
 t5 := Tryz.underlying5
 a5 := Tryz.isAgg5
 z5 := Tryz.sizeOf5
 v5 := Tryz.zeroValue5
 t9 := Tryz.underlying9
 a9 := Tryz.isAgg9
 z9 := Tryz.sizeOf9
 v9 := Tryz.zeroValue9 }
open Go.RowKit in
/-- strings.IndexByte: "IndexByte returns the index of the first instance of c in s, or -1 if c is not present in s.": IT RETURNS 'Lib.indexByte s c'; the world is as it was. (LAID: no walk: one application.) -/
theorem Tryz.strings_IndexByte (s : ByteArray) (c : Int) (w : World) :
  Calls Tryz.prog 187 #[.string s, .int .u8 c] w fun e w' => e = .returned (.int .i64 (Lib.indexByte s.data.toList c.toNat.toUInt8)) ∧ w' = w := Any.strings_IndexByte Tryz.lays137 s c w
def Tryz.lays109_ren : Go.Shelf.Ren := ⟨fun | 109 => 184 | n => n, fun | 31 => 45 | 9 => 9 | 3 => 3 | 0 => 0 | 4 => 4 | n => n, fun | n => n⟩
theorem Tryz.lays109 : Go.Proofs.Lays.n109 Tryz.prog Tryz.lays109_ren := {
 mixed := by kernel_rfl
 f109 := Tryz.func184.trans (congrArg some (by kernel_rfl))
 t0 := Tryz.underlying0
 a0 := Tryz.isAgg0
 z0 := Tryz.sizeOf0
 v0 := Tryz.zeroValue0
 t3 := Tryz.underlying3
 a3 := Tryz.isAgg3
 z3 := Tryz.sizeOf3
 v3 := Tryz.zeroValue3
 t4 := Tryz.underlying4
 a4 := Tryz.isAgg4
 z4 := Tryz.sizeOf4
 v4 := Tryz.zeroValue4
 t9 := Tryz.underlying9
 a9 := Tryz.isAgg9
 z9 := Tryz.sizeOf9
 v9 := Tryz.zeroValue9
 t31 := Tryz.underlying45
 a31 := Tryz.isAgg45
 z31 := Tryz.sizeOf45
 v31 := Tryz.zeroValue45 }
open Go.Lib in
/-- slices.Index at []string: "Index returns the index of the first occurrence of v in s, or -1 if not present.": IT RETURNS 'Lib.idxOfS (the elements) v'; the world is as it was. 'zs': what the cells behind the slice's address hold (its spare capacity too, if you have it); 'zs.take n': its elements. (LAID: no walk: one application.) -/
theorem Tryz.slices_Index_string (b off n c : Nat) (zs : List ByteArray) (x : ByteArray) (w : World) (hz : n ≤ zs.length) (hbig : n ≤ 9223372036854775807) (hc : ∀ j, j < zs.length → w.cell? ⟨b, off + j, none⟩ = some (.string (zs.getD j ByteArray.empty))) :
  Calls Tryz.prog 184 #[.slice (some ⟨b, off, none⟩) n c, .string x] w fun e w' => e = .returned (.int .i64 (Lib.idxOfS (zs.take n) x)) ∧ w' = w := Any.slices_Index_string Tryz.lays109 b off n c zs x w hz hbig hc
end Go.Proofs
