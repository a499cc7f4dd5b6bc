/- slices.insertionSortCmpFunc: a rising row is sorted by depth, then by number. For every row. -/
import Derived.Test.YtmehdlflhllhdaaGrSn
namespace Go.Proofs.Ytmehdlflhllhdaa
open Go.RowKit

def Up (f : Nat → Nat) (a b : Nat) : Prop := ∀ i j, a ≤ i → i < j → j < b → f i < f j
theorem SM.trans {D f g h : Nat → Nat} {a b : Nat} (h1 : SM D f a b g) (h2 : SM D g a b h) : SM D f a b h where
  out := fun k hk => by rw [h2.out k hk, h1.out k hk]
  seg := fun x => (h2.seg x).trans (h1.seg x)
  srt := h2.srt
theorem seg_step {f g : Nat → Nat} {a i : Nat} (hi : a ≤ i) (h : ∀ x, Seg g a i x ↔ Seg f a i x) (e : g i = f i) (x : Nat) : Seg g a (i + 1) x ↔ Seg f a (i + 1) x := by
  constructor
  · rintro ⟨k, q1, q2, q3⟩
    by_cases q : k = i
    · subst q; exact ⟨k, q1, q2, by rw [← e]; exact q3⟩
    · obtain ⟨j, z1, z2, z3⟩ := (h x).1 ⟨k, q1, by omega, q3⟩
      exact ⟨j, z1, by omega, z3⟩
  · rintro ⟨k, q1, q2, q3⟩
    by_cases q : k = i
    · subst q; exact ⟨k, q1, q2, by rw [e]; exact q3⟩
    · obtain ⟨j, z1, z2, z3⟩ := (h x).2 ⟨k, q1, by omega, q3⟩
      exact ⟨j, z1, by omega, z3⟩
theorem in_step {D f g g' : Nat → Nat} {a i : Nat} (hi : a ≤ i) (h1 : SM D f a i g) (h2 : SM D g a (i + 1) g') : SM D f a (i + 1) g' where
  out := fun k hk => by rw [h2.out k hk, h1.out k (by omega)]
  seg := fun x => (h2.seg x).trans (seg_step hi h1.seg (h1.out i (.inr (Nat.le_refl _))) x)
  srt := h2.srt
theorem in_num {D f g : Nat → Nat} {a b i k : Nat} (hup : Up f a b) (h1 : SM D f a i g) (hib : i < b) (hk : a ≤ k) (hki : k < i) : g k < g i := by
  rw [h1.out i (.inr (Nat.le_refl _))]
  obtain ⟨j, z1, z2, z3⟩ := (h1.seg (g k)).1 ⟨k, hk, hki, rfl⟩
  rw [← z3]; exact hup _ _ z1 z2 hib

set_option maxRecDepth 20000 in
set_option maxHeartbeats 8000000 in
theorem in_one (G c n B : Nat) (hn : n ≤ 100000) (D : Nat → Nat) (w0 : World) (hC : CmpOk G B n D w0) (a b : Nat) (hab : a < b) (hb : b ≤ n) (f : Nat → Nat) (wr : World) (hR : RowF wr G c n f) (hT : Touch [G] w0 wr) (hup : Up f a b) (hfn : ∀ k, k < n → f k < n) :
    Calls Try.prog 46 #[.slice (some ⟨G, 0, none⟩) n c, .int .i64 a, .int .i64 b, .func (.func 34) #[] #[.pointer (some ⟨B, 0, none⟩)]] wr fun e w' =>
      e = .returned (.tuple #[]) ∧ ∃ g, RowF w' G c n g ∧ SM D f a b g ∧ Touch [G] wr w' := by
  obtain ⟨W0, hW0⟩ : ∃ W0, W0 = wr := ⟨_, rfl⟩
  subst hW0
  have HR := Lib.hid hR
  have HT := Lib.hid hT
  have HU := Lib.hid hup
  have HC := Lib.hid hC
  have HF := Lib.hid hfn
  clear hR hT hup hC hfn
  go_enter Try.func46, Try.ntmps46
  go_wp2_with fail
  go_loopw [8] (fun y w1 => ∃ (i : Nat) (g : Nat → Nat), a + 1 ≤ i ∧ i ≤ b ∧ y = .int .i64 i ∧ Hid (RowF w1 G c n g) ∧ Hid (SM D f a i g) ∧ Hid (Touch [G] W0 w1)) (fun y _ => b - (intOf y).toNat)
  case atStart => exact ⟨a + 1, f, by omega, by omega, by go_num, HR, Lib.hid (SM.self (fun i j h1 h2 h3 => absurd h1 (by omega))), Lib.hid (Touch.refl _ _)⟩
  case round =>
    obtain ⟨i, g, hi, hib, rfl, HG, HM, HTg⟩ := hrel
    obtain ⟨W1, hW1⟩ : ∃ W1, W1 = wr := ⟨_, rfl⟩
    subst hW1
    by_cases hlt : i < b
    · have H0 : Hid (RowF W1 G c n (rot g i i (i + 1))) := Lib.hid (by rw [rot_b]; exact HG.out)
      have HFg := Lib.hid (HM.out.lt (by omega : i ≤ n) HF.out)
      go_wp2_with fail
      go_loopw [9] (fun y w1 => ∃ j : Nat, a ≤ j ∧ j ≤ i ∧ y = .int .i64 j ∧ Hid (RowF w1 G c n (rot g j i (i + 1))) ∧ Hid (∀ h, j ≤ h → h < i → ltL D (g i) (g h)) ∧ Hid (Touch [G] W0 w1)) (fun y _ => (intOf y).toNat)
      case atStart => exact ⟨i, by omega, by omega, rfl, H0, Lib.hid (fun h q1 q2 => absurd q1 (by omega)), HTg⟩
      case round =>
        clear H0 HTg HG HR
        obtain ⟨k', hk, hki, rfl, HRk, HH, HTk⟩ := hrel
        by_cases hlk : a < k'
        · obtain ⟨k, hkj⟩ : ∃ k, k' = k + 1 := ⟨k' - 1, by omega⟩
          have hlt2 : (a : Int) < (k' : Int) := by omega
          have ca := HRk.out.cell k (by omega)
          have cb := HRk.out.cell k' (by omega)
          have fa := HRk.out.free k
          have fb := HRk.out.free k'
          have hat := rot_dn_at g i k (by omega)
          have hdn := rot_dn g i k (by omega)
          rw [← hkj] at hat hdn
          rw [hat.1] at ca
          rw [hat.2] at cb
          obtain ⟨x, hx⟩ : ∃ x, x = g i := ⟨_, rfl⟩
          obtain ⟨y, hy⟩ : ∃ y, y = g k := ⟨_, rfl⟩
          rw [← hy] at ca
          rw [← hx] at cb
          have hxn : x < n := by rw [hx]; exact HFg.out _ (by omega)
          have hyn : y < n := by rw [hy]; exact HFg.out _ (by omega)
          have hs : ∀ q, RowF (((wr.drewN q).setCell ⟨G, k', none⟩ (.int .i64 (y : Int))).setCell ⟨G, k, none⟩ (.int .i64 (x : Int))) G c n (rot g k i (i + 1)) := fun q => by
            have z := ((HRk.out.touch0 ((Touch.refl [] wr).drewN q)).set k' y (by omega)).set k x (by omega)
            rw [hx, hy, hdn, ← hx, ← hy] at z
            exact z
          obtain ⟨r, hr⟩ : ∃ r, r = Lib.compareInt (D x : Int) (D y : Int) := ⟨_, rfl⟩
          have hc : ∀ q, Calls Try.prog 34 #[.int .i64 x, .int .i64 y, .pointer (some ⟨B, 0, none⟩)] (wr.drewN q) fun e w' => e = .returned (.int .i64 r) ∧ ∃ m, w' = wr.drewN m := fun q => by
            refine (HC.out _ ((HT.out.trans HTk.out (fun b hb => .inl hb)).drewN q) x y hxn hyn).mono ?_
            rintro e w2 ⟨rfl, m, rfl⟩
            exact ⟨by rw [hr], q + m, drewN_add _ _ _⟩
          have HCC := Lib.hid hc
          have HQ := Lib.hid hr
          have HX := Lib.hid hx
          have HY := Lib.hid hy
          have HS2 := Lib.hid hs
          have HT2 := Lib.hid (fun q => ((HTk.out.drewN q).setCell (p := ⟨G, k', none⟩) (.inl (by simp)) (.int .i64 (y : Int))).setCell (p := ⟨G, k, none⟩) (.inl (by simp)) (.int .i64 (x : Int)))
          have e3 : (k' : Int) - 1 = (k : Int) := by omega
          have hne : k' ≠ k := by omega
          have HK := Lib.hid hkj
          have hkn : k < n := by omega
          have hkn2 : k' < n := by omega
          clear hat hx hy hs hc hr hkj hdn
          go_wp2_with fail
          by_cases hr0 : r < 0
          · go_quiet ((go_at_call 34; exact HCC.out _))
            go_wp2_with fail
            go_region
            go_wp2_with fail
            go_roundw
            case rel =>
              have hkj := HK.out
              have q := (cmp_neg _ _).1 (HQ.out ▸ hr0)
              have q2 : ltL D (g i) (g k) := by rw [← HX.out, ← HY.out]; exact .inl (by omega)
              refine ⟨k, by omega, by omega, by go_num, Lib.hid (HS2.out _), Lib.hid (fun h q1 q3 => srt_gt HM.out.srt (by omega) q1 q3 q2), Lib.hid (HT2.out _)⟩
            case measure => simp [intOf]; omega
          · have hr1 : (r < 0) = False := by simp; omega
            go_quiet ((go_at_call 34; exact HCC.out _))
            go_wp2_with fail
            go_roundw
            case rel =>
              have q := mt (cmp_neg (D x : Int) (D y : Int)).2 (HQ.out ▸ hr0)
              have q2 : ltL D (g k) (g i) := (ltL_num (in_num HU.out HM.out hlt (by have := HK.out; omega) (by have := HK.out; omega))).2 (by rw [← HX.out, ← HY.out]; omega)
              have hkj := HK.out
              exact ⟨i + 1, _, by omega, by omega, by go_num, Lib.hid (HRk.out.touch0 ((Touch.refl [] _).drewN _)), Lib.hid (in_step (by omega) HM.out (sm_last (by omega) HM.out.srt hk hki (fun h q1 q3 => srt_lt HM.out.srt q1 (show h ≤ k by omega) (by omega) q2) HH.out)), Lib.hid (HTk.out.drewN _)⟩
            case measure => simp [intOf]; omega
        · obtain rfl : a = k' := by omega
          go_wp2_with fail
          go_quiet (fail)
          go_wp2_with fail
          go_roundw
          case rel =>
            exact ⟨i + 1, _, by omega, by omega, by go_num, Lib.hid (HRk.out.touch0 ((Touch.refl [] _).drewN _)), Lib.hid (in_step (by omega) HM.out (sm_last (by omega) HM.out.srt (Nat.le_refl _) hki (fun h q1 q3 => absurd q1 (by omega)) HH.out)), Lib.hid (HTk.out.drewN _)⟩
          case measure => simp [intOf]; omega
    · obtain rfl : i = b := by omega
      go_wp2
      go_end0
      exact ⟨rfl, g, HG.out, HM.out, HTg.out⟩
end Go.Proofs.Ytmehdlflhllhdaa
