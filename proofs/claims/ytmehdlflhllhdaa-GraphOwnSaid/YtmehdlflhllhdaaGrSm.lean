/- slices.symMergeCmpFunc: two sorted runs are made one. For every row. -/
import Derived.Test.YtmehdlflhllhdaaGrZ
import Derived.BigQuiet
import Derived.IntWalk
namespace Go.Proofs.Ytmehdlflhllhdaa
open Go.RowKit

theorem cmp_neg (x y : Int) : Lib.compareInt x y < 0 ↔ x < y := by
  unfold Lib.compareInt
  split
  · simp [*]
  · split
    · constructor
      · intro h; cases h
      · intro h; omega
    · constructor
      · intro h; cases h
      · intro h; omega

theorem drewN_add (w : World) (a b : Nat) : (w.drewN a).drewN b = w.drewN (a + b) := by
  simp [World.drewN, Nat.add_assoc]

/-- the closure, at whatever world of the sort's -/
def CmpOk (G B n : Nat) (D : Nat → Nat) (w0 : World) : Prop := ∀ wr, Touch [G] w0 wr → ∀ x y : Nat, x < n → y < n →
  Calls Try.prog 34 #[.int .i64 x, .int .i64 y, .pointer (some ⟨B, 0, none⟩)] wr fun e w' => e = .returned (.int .i64 (Lib.compareInt (D x) (D y))) ∧ ∃ q, w' = wr.drewN q

/-- what symMerge does -/
def SmSpec (G c n B : Nat) (D : Nat → Nat) (w0 : World) (a m b : Nat) : Prop := ∀ (f : Nat → Nat) (wr : World), RowF wr G c n f → Touch [G] w0 wr → Srt D f a m → Srt D f m b → Lr f a m b → (∀ k, k < n → f k < n) →
  Calls Try.prog 47 #[.slice (some ⟨G, 0, none⟩) n c, .int .i64 a, .int .i64 m, .int .i64 b, .func (.func 34) #[] #[.pointer (some ⟨B, 0, none⟩)]] wr fun e w' =>
    e = .returned (.tuple #[]) ∧ ∃ g, RowF w' G c n g ∧ SM D f a b g ∧ Touch [G] wr w'

theorem rot_a (f : Nat → Nat) (a m : Nat) : rot f a m m = f := by
  funext k; unfold rot
  rw [if_neg (by omega)]
  split
  · rw [Nat.sub_self, Nat.sub_zero]
  · rfl
theorem rot_b (f : Nat → Nat) (m e : Nat) : rot f m m e = f := by
  funext k; unfold rot
  split
  · congr 1; omega
  · rw [if_neg (by omega)]
theorem rot_up (f : Nat → Nat) (a k : Nat) (h : a ≤ k) : upd (upd (rot f a (a + 1) (k + 1)) k (f (k + 1))) (k + 1) (f a) = rot f a (a + 1) (k + 2) := by
  funext x
  simp only [upd, rot]
  repeat' split
  all_goals first
    | rfl
    | (exfalso; omega)
    | (congr 1; omega)
theorem rot_up_at (f : Nat → Nat) (a k : Nat) (h : a ≤ k) : rot f a (a + 1) (k + 1) k = f a ∧ rot f a (a + 1) (k + 1) (k + 1) = f (k + 1) := by
  simp only [rot]
  constructor
  · rw [if_neg (by omega), if_pos (by omega)]; congr 1; omega
  · rw [if_neg (by omega), if_neg (by omega)]
theorem rot_dn (f : Nat → Nat) (m k : Nat) (h : k + 1 ≤ m) : upd (upd (rot f (k + 1) m (m + 1)) (k + 1) (f k)) k (f m) = rot f k m (m + 1) := by
  funext x
  simp only [upd, rot]
  repeat' split
  all_goals first
    | rfl
    | (exfalso; omega)
    | (congr 1; omega)
theorem rot_dn_at (f : Nat → Nat) (m k : Nat) (_h : k + 1 ≤ m) : rot f (k + 1) m (m + 1) k = f k ∧ rot f (k + 1) m (m + 1) (k + 1) = f m := by
  simp only [rot]
  constructor
  · rw [if_neg (by omega), if_neg (by omega)]
  · rw [if_pos (by omega)]; congr 1; omega
theorem srt_le {D f : Nat → Nat} {a b : Nat} (h : Srt D f a b) (i j : Nat) (h1 : a ≤ i) (h2 : i ≤ j) (h3 : j < b) : i = j ∨ ltL D (f i) (f j) := by
  rcases Nat.eq_or_lt_of_le h2 with q | q
  · exact .inl q
  · exact .inr (h i j h1 q h3)
theorem srt_lt {D f : Nat → Nat} {a b i j z : Nat} (h : Srt D f a b) (h1 : a ≤ i) (h2 : i ≤ j) (h3 : j < b) (hz : ltL D (f j) z) : ltL D (f i) z := by
  rcases srt_le h i j h1 h2 h3 with rfl | q
  · exact hz
  · exact q.trans hz
theorem srt_gt {D f : Nat → Nat} {a b i j z : Nat} (h : Srt D f a b) (h1 : a ≤ i) (h2 : i ≤ j) (h3 : j < b) (hz : ltL D z (f i)) : ltL D z (f j) := by
  rcases srt_le h i j h1 h2 h3 with rfl | q
  · exact hz
  · exact hz.trans q

set_option maxRecDepth 20000 in
set_option maxHeartbeats 8000000 in
/-- one element ahead -/
theorem sm_first (G c n B : Nat) (hn : n ≤ 100000) (D : Nat → Nat) (w0 : World) (hC : CmpOk G B n D w0) (a b : Nat) (hab : a + 1 < b) (hb : b ≤ n) : SmSpec G c n B D w0 a (a + 1) b := by
  intro f wr hR hT hs1 hs2 hlr hfn
  obtain ⟨W0, hW0⟩ : ∃ W0, W0 = wr := ⟨_, rfl⟩
  subst hW0
  have HR := Lib.hid hR
  have HT := Lib.hid hT
  have HS := Lib.hid (And.intro hs2 hlr)
  have HC := Lib.hid hC
  have e1 : (((a + 1 : Nat) : Int) - (a : Int)) = 1 := by omega
  clear hR hT hs1 hs2 hlr hC
  go_enter Try.func47, Try.ntmps47
  go_wp2_with fail
  go_loopw [10, 11] (fun x y w1 => ∃ i j : Nat, a + 1 ≤ i ∧ i ≤ j ∧ j ≤ b ∧ x = .int .i64 i ∧ y = .int .i64 j ∧ Hid (∀ h, a + 1 ≤ h → h < i → ltL D (f h) (f a)) ∧ Hid (∀ h, j ≤ h → h < b → ltL D (f a) (f h)) ∧ Hid (∃ q, w1 = W0.drewN q)) (fun x y _ => (intOf y).toNat - (intOf x).toNat)
  case atStart => exact ⟨a + 1, b, by omega, by omega, by omega, by go_num, rfl, Lib.hid (fun h q1 q2 => absurd q1 (by omega)), Lib.hid (fun h q1 q2 => absurd q1 (by omega)), Lib.hid ⟨0, rfl⟩⟩
  case round =>
    obtain ⟨i, j, hi, hij, hj, rfl, rfl, HL, HH, HW⟩ := hrel
    have hT1 : Touch [G] w0 wr := by obtain ⟨q, hq⟩ := HW.out; rw [hq]; exact HT.out.drewN q
    have hR1 : RowF wr G c n f := by obtain ⟨q, hq⟩ := HW.out; rw [hq]; exact HR.out.touch0 ((Touch.refl [] W0).drewN q)
    by_cases hlt : i < j
    · obtain ⟨h, hh⟩ : ∃ h, h = (i + j) / 2 := ⟨_, rfl⟩
      have hhi : i ≤ h := by omega
      have hhj : h < j := by omega
      have ch := hR1.cell h (by omega)
      have ca := hR1.cell a (by omega)
      obtain ⟨r, hr⟩ : ∃ r, r = Lib.compareInt (D (f h) : Int) (D (f a) : Int) := ⟨_, rfl⟩
      have hc : ∀ k, Calls Try.prog 34 #[.int .i64 (f h), .int .i64 (f a), .pointer (some ⟨B, 0, none⟩)] (wr.drewN k) fun e w' => e = .returned (.int .i64 r) ∧ ∃ m, w' = wr.drewN m := fun k => by
        refine (HC.out _ (hT1.drewN k) (f h) (f a) (hfn _ (by omega)) (hfn _ (by omega))).mono ?_
        rintro e w2 ⟨rfl, m, rfl⟩
        exact ⟨by rw [hr], k + m, drewN_add _ _ _⟩
      have HR1 := Lib.hid hR1
      have HT1 := Lib.hid hT1
      have HCC := Lib.hid hc
      have HQ := Lib.hid hr
      have he : ((i : Int) + (j : Int)) / 2 = (h : Int) := by omega
      clear hR1 hT1 hc hr hh
      go_wp2_with fail
      go_quiet ((go_at_call 34; exact HCC.out _))
      by_cases hr0 : r < 0
      · go_wp2_with fail
        go_roundw
        case rel =>
          have q := (cmp_neg _ _).1 (HQ.out ▸ hr0)
          have q2 : ltL D (f h) (f a) := .inl (by omega)
          exact ⟨h + 1, j, by omega, by omega, hj, by go_num, rfl, Lib.hid (fun x x1 x2 => srt_lt HS.out.1 x1 (by omega) (by omega) q2), HH, Lib.hid (by obtain ⟨q, hq⟩ := HW.out; rw [hq, drewN_add]; exact ⟨_, rfl⟩)⟩
        case measure => simp [intOf]; omega
      · have hr1 : (r < 0) = False := by simp; omega
        go_wp2_with fail
        go_roundw
        case rel =>
          have q := mt (cmp_neg (D (f h) : Int) (D (f a) : Int)).2 (HQ.out ▸ hr0)
          have q2 : ltL D (f a) (f h) := (ltL_num (HS.out.2 a h (by omega) (by omega) (by omega) (by omega))).2 (by omega)
          exact ⟨i, h, by omega, by omega, by omega, rfl, by go_num, HL, Lib.hid (fun x x1 x2 => srt_gt HS.out.1 (by omega) x1 x2 q2), Lib.hid (by obtain ⟨q, hq⟩ := HW.out; rw [hq, drewN_add]; exact ⟨_, rfl⟩)⟩
        case measure => simp [intOf]; omega
    · obtain rfl : i = j := by omega
      have H0 : Hid (RowF wr G c n (rot f a (a + 1) (a + 1))) := Lib.hid (by rw [rot_a]; exact hR1)
      have HT1 := Lib.hid hT1
      have HW1 : Hid (Touch [G] W0 wr) := Lib.hid (by obtain ⟨q, hq⟩ := HW.out; rw [hq]; exact (Touch.refl [G] W0).drewN q)
      have e2 : (i : Int) - 1 = ((i - 1 : Nat) : Int) := by omega
      clear hR1 hT1
      go_wp2_with fail
      go_loopw [13] (fun y w1 => ∃ k : Nat, a ≤ k ∧ k + 1 ≤ i ∧ y = .int .i64 k ∧ Hid (RowF w1 G c n (rot f a (a + 1) (k + 1))) ∧ Hid (Touch [G] W0 w1)) (fun y _ => i - (intOf y).toNat)
      case atStart => exact ⟨a, by omega, by omega, rfl, H0, HW1⟩
      case round =>
        clear H0 HW1 HT1
        obtain ⟨k, hk, hki, rfl, HRk, HTk⟩ := hrel
        by_cases hlt : k + 1 < i
        · have hlt2 : (k : Int) < ((i - 1 : Nat) : Int) := by omega
          have ca := HRk.out.cell k (by omega)
          have cb := HRk.out.cell (k + 1) (by omega)
          have fa := HRk.out.free k
          have fb := HRk.out.free (k + 1)
          have hat := rot_up_at f a k hk
          rw [hat.1] at ca
          rw [hat.2] at cb
          obtain ⟨x, hx⟩ : ∃ x, x = f a := ⟨_, rfl⟩
          obtain ⟨y, hy⟩ : ∃ y, y = f (k + 1) := ⟨_, rfl⟩
          rw [← hx] at ca
          rw [← hy] at cb
          have hs := (HRk.out.set k y (by omega)).set (k + 1) x (by omega)
          rw [hx, hy, rot_up f a k hk, ← hx, ← hy] at hs
          have HS2 := Lib.hid hs
          have HT2 := Lib.hid ((HTk.out.setCell (p := ⟨G, k, none⟩) (.inl (by simp)) (.int .i64 (y : Int))).setCell (p := ⟨G, k + 1, none⟩) (.inl (by simp)) (.int .i64 (x : Int)))
          have hne : k ≠ k + 1 := by omega
          clear hat hx hy hs
          go_wp2_with fail
          go_region
          go_wp2_with fail
          go_roundw
          case rel => exact ⟨k + 1, by omega, by omega, by go_num, Lib.hid (HS2.out.touch0 (Touch.refl [] _).drew), Lib.hid HT2.out.drew⟩
          case measure => simp [intOf]; omega
        · have hlt2 : ((k : Int) < ((i - 1 : Nat) : Int)) = False := by simp; omega
          go_wp2
          refine bodyPost_ret (results_none rfl _ _ _) rfl ?_
          obtain rfl : k + 1 = i := by omega
          exact ⟨rfl, _, HRk.out, sm_one hab HS.out.1 (by omega) hj HL.out HH.out, HTk.out⟩
set_option maxRecDepth 20000 in
set_option maxHeartbeats 8000000 in
/-- one element behind -/
theorem sm_back (G c n B : Nat) (hn : n ≤ 100000) (D : Nat → Nat) (w0 : World) (hC : CmpOk G B n D w0) (a m : Nat) (ham : a + 1 < m) (hb : m + 1 ≤ n) : SmSpec G c n B D w0 a m (m + 1) := by
  intro f wr hR hT hs1 hs2 hlr hfn
  obtain ⟨W0, hW0⟩ : ∃ W0, W0 = wr := ⟨_, rfl⟩
  subst hW0
  have HR := Lib.hid hR
  have HT := Lib.hid hT
  have HS := Lib.hid (And.intro hs1 hlr)
  have HC := Lib.hid hC
  have HF := Lib.hid hfn
  have e1 : ((m : Int) - (a : Int) == 1) = false := by simp; omega
  have e2 : (((m + 1 : Nat) : Int) - (m : Int)) = 1 := by omega
  clear hR hT hs1 hs2 hlr hC hfn
  go_enter Try.func47, Try.ntmps47
  go_wp2_with fail
  go_loopw [14, 15] (fun x y w1 => ∃ i j : Nat, a ≤ i ∧ i ≤ j ∧ j ≤ m ∧ x = .int .i64 i ∧ y = .int .i64 j ∧ Hid (∀ h, a ≤ h → h < i → ltL D (f h) (f m)) ∧ Hid (∀ h, j ≤ h → h < m → ltL D (f m) (f h)) ∧ Hid (∃ q, w1 = W0.drewN q)) (fun x y _ => (intOf y).toNat - (intOf x).toNat)
  case atStart => exact ⟨a, m, by omega, by omega, by omega, rfl, rfl, Lib.hid (fun h q1 q2 => absurd q1 (by omega)), Lib.hid (fun h q1 q2 => absurd q1 (by omega)), Lib.hid ⟨0, rfl⟩⟩
  case round =>
    obtain ⟨i, j, hi, hij, hj, rfl, rfl, HL, HH, HW⟩ := hrel
    have hT1 : Touch [G] w0 wr := by obtain ⟨q, hq⟩ := HW.out; rw [hq]; exact HT.out.drewN q
    have hR1 : RowF wr G c n f := by obtain ⟨q, hq⟩ := HW.out; rw [hq]; exact HR.out.touch0 ((Touch.refl [] W0).drewN q)
    by_cases hlt : i < j
    · obtain ⟨h, hh⟩ : ∃ h, h = (i + j) / 2 := ⟨_, rfl⟩
      have hhi : i ≤ h := by omega
      have hhj : h < j := by omega
      have ch := hR1.cell h (by omega)
      have ca := hR1.cell m (by omega)
      obtain ⟨r, hr⟩ : ∃ r, r = Lib.compareInt (D (f m) : Int) (D (f h) : Int) := ⟨_, rfl⟩
      have hc : ∀ k, Calls Try.prog 34 #[.int .i64 (f m), .int .i64 (f h), .pointer (some ⟨B, 0, none⟩)] (wr.drewN k) fun e w' => e = .returned (.int .i64 r) ∧ ∃ m, w' = wr.drewN m := fun k => by
        refine (HC.out _ (hT1.drewN k) (f m) (f h) (HF.out _ (by omega)) (HF.out _ (by omega))).mono ?_
        rintro e w2 ⟨rfl, m, rfl⟩
        exact ⟨by rw [hr], k + m, drewN_add _ _ _⟩
      have HR1 := Lib.hid hR1
      have HT1 := Lib.hid hT1
      have HCC := Lib.hid hc
      have HQ := Lib.hid hr
      have he : ((i : Int) + (j : Int)) / 2 = (h : Int) := by omega
      clear hR1 hT1 hc hr hh
      go_wp2_with fail
      by_cases hr0 : r < 0
      · go_quiet ((go_at_call 34; exact HCC.out _))
        go_wp2_with fail
        go_roundw
        case rel =>
          have q := (cmp_neg _ _).1 (HQ.out ▸ hr0)
          have q2 : ltL D (f m) (f h) := .inl (by omega)
          exact ⟨i, h, by omega, by omega, by omega, rfl, by go_num, HL, Lib.hid (fun x x1 x2 => srt_gt HS.out.1 (by omega) x1 x2 q2), Lib.hid (by obtain ⟨q, hq⟩ := HW.out; rw [hq, drewN_add]; exact ⟨_, rfl⟩)⟩
        case measure => simp [intOf]; omega
      · have hr1 : (r < 0) = False := by simp; omega
        go_quiet ((go_at_call 34; exact HCC.out _))
        go_wp2_with fail
        go_roundw
        case rel =>
          have q := mt (cmp_neg (D (f m) : Int) (D (f h) : Int)).2 (HQ.out ▸ hr0)
          have q2 : ltL D (f h) (f m) := (ltL_num (HS.out.2 h m (by omega) (by omega) (by omega) (by omega))).2 (by omega)
          exact ⟨h + 1, j, by omega, by omega, hj, by go_num, rfl, Lib.hid (fun x x1 x2 => srt_lt HS.out.1 x1 (by omega) (by omega) q2), HH, Lib.hid (by obtain ⟨q, hq⟩ := HW.out; rw [hq, drewN_add]; exact ⟨_, rfl⟩)⟩
        case measure => simp [intOf]; omega
    · obtain rfl : i = j := by omega
      have H0 : Hid (RowF wr G c n (rot f m m (m + 1))) := Lib.hid (by rw [rot_b]; exact hR1)
      have HT1 := Lib.hid hT1
      have HW1 : Hid (Touch [G] W0 wr) := Lib.hid (by obtain ⟨q, hq⟩ := HW.out; rw [hq]; exact (Touch.refl [G] W0).drewN q)
      clear hR1 hT1
      go_wp2_with fail
      go_loopw [17] (fun y w1 => ∃ k : Nat, i ≤ k ∧ k ≤ m ∧ y = .int .i64 k ∧ Hid (RowF w1 G c n (rot f k m (m + 1))) ∧ Hid (Touch [G] W0 w1)) (fun y _ => (intOf y).toNat - i)
      case atStart => exact ⟨m, by omega, by omega, rfl, H0, HW1⟩
      case round =>
        clear H0 HW1 HT1
        obtain ⟨k', hk, hki, rfl, HRk, HTk⟩ := hrel
        by_cases hlt : i < k'
        · obtain ⟨k, rfl⟩ : ∃ k, k' = k + 1 := ⟨k' - 1, by omega⟩
          have hlt2 : (i : Int) < ((k + 1 : Nat) : Int) := by omega
          have ca := HRk.out.cell k (by omega)
          have cb := HRk.out.cell (k + 1) (by omega)
          have fa := HRk.out.free k
          have fb := HRk.out.free (k + 1)
          have hat := rot_dn_at f m k hki
          rw [hat.1] at ca
          rw [hat.2] at cb
          obtain ⟨x, hx⟩ : ∃ x, x = f m := ⟨_, rfl⟩
          obtain ⟨y, hy⟩ : ∃ y, y = f k := ⟨_, rfl⟩
          rw [← hy] at ca
          rw [← hx] at cb
          have hs := (HRk.out.set (k + 1) y (by omega)).set k x (by omega)
          rw [hx, hy, rot_dn f m k hki, ← hx, ← hy] at hs
          have HS2 := Lib.hid hs
          have HT2 := Lib.hid ((HTk.out.setCell (p := ⟨G, k + 1, none⟩) (.inl (by simp)) (.int .i64 (y : Int))).setCell (p := ⟨G, k, none⟩) (.inl (by simp)) (.int .i64 (x : Int)))
          have e3 : ((k + 1 : Nat) : Int) - 1 = (k : Int) := by omega
          have hne : k + 1 ≠ k := by omega
          clear hat hx hy hs
          go_wp2_with fail
          go_region
          go_wp2_with fail
          go_roundw
          case rel => exact ⟨k, by omega, by omega, by go_num, Lib.hid (HS2.out.touch0 (Touch.refl [] _).drew), Lib.hid HT2.out.drew⟩
          case measure => simp [intOf]; omega
        · obtain rfl : i = k' := by omega
          have hlt2 : ((i : Int) < (i : Int)) = False := by simp
          go_wp2
          refine bodyPost_ret (results_none rfl _ _ _) rfl ?_
          exact ⟨rfl, _, HRk.out, sm_last (by omega) HS.out.1 hi hj HL.out HH.out, HTk.out⟩
end Go.Proofs.Ytmehdlflhllhdaa
