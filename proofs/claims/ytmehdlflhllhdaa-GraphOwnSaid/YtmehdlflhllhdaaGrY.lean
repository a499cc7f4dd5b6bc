/- Rows told by functions; segments exchanged; turned round. Plainly, and in memory. -/
import Derived.Test.YtmehdlflhllhdaaGrO
import Derived.BigRegion
namespace Go.Proofs.Ytmehdlflhllhdaa
open Go.RowKit

/-- n numbers told by a function, in a row -/
def RowF (w : World) (G c n : Nat) (f : Nat → Nat) : Prop := OwnK 3 1 nE w (some ⟨G, 0, none⟩) c ((List.range n).map f)
theorem RowF.cell {w : World} {G c n : Nat} {f : Nat → Nat} (h : RowF w G c n f) (k : Nat) (hk : k < n) : w.cell? ⟨G, k, none⟩ = some (.int .i64 (f k)) := by
  have := OwnK.cell1 h k (by simpa using hk)
  simpa using this
theorem RowF.free {w : World} {G c n : Nat} {f : Nat → Nat} (h : RowF w G c n f) (k : Nat) : w.frozen? ⟨G, k, none⟩ = false := OwnK.free_ h k
theorem RowF.touch {w w' : World} {G c n : Nat} {f : Nat → Nat} {fp : List Nat} (h : RowF w G c n f) (ht : Touch fp w w') (hn : G ∉ fp) : RowF w' G c n f := OwnK.touch h ht (fun b hb => by simp [fpo] at hb; subst hb; exact hn)
theorem RowF.touch0 {w w' : World} {G c n : Nat} {f : Nat → Nat} (h : RowF w G c n f) (ht : Touch [] w w') : RowF w' G c n f := h.touch ht (by simp)
def upd (f : Nat → Nat) (i v : Nat) : Nat → Nat := fun k => if k = i then v else f k
theorem RowF.set {w : World} {G c n : Nat} {f : Nat → Nat} (h : RowF w G c n f) (i v : Nat) (hi : i < n) : RowF (w.setCell ⟨G, i, none⟩ (.int .i64 (v : Int))) G c n (upd f i v) := by
  have := OwnK.set1 h i (by simpa using hi) v
  have e : ((List.range n).map f).set i v = (List.range n).map (upd f i v) := by
    apply List.ext_getElem
    · simp
    · intro j h1 h2
      simp only [List.getElem_set, List.getElem_map, List.getElem_range, upd]
      by_cases q : i = j
      · subst q; simp
      · have q2 : ¬ j = i := fun e => q e.symm
        simp [q, q2]
  unfold RowF
  rw [← e]; exact this

/-- so many from a on exchanged with as many from b on -/
def swp (f : Nat → Nat) (a b q : Nat) : Nat → Nat := fun k => if a ≤ k ∧ k < a + q then f (k - a + b) else if b ≤ k ∧ k < b + q then f (k - b + a) else f k
theorem swp_zero (f : Nat → Nat) (a b : Nat) : swp f a b 0 = f := by
  funext k; unfold swp
  rw [if_neg (by omega), if_neg (by omega)]
theorem swp_step (f : Nat → Nat) (a b i : Nat) (h : a + i < b) : upd (upd (swp f a b i) (a + i) (f (b + i))) (b + i) (f (a + i)) = swp f a b (i + 1) := by
  funext k
  simp only [upd, swp]
  repeat' split
  all_goals first
    | rfl
    | (exfalso; omega)
    | (congr 1; omega)
theorem swp_at (f : Nat → Nat) (a b i : Nat) (h : a + i < b) : swp f a b i (a + i) = f (a + i) ∧ swp f a b i (b + i) = f (b + i) := by
  unfold swp
  constructor
  · rw [if_neg (by omega), if_neg (by omega)]
  · rw [if_neg (by omega), if_neg (by omega)]

/-- [a, m) and [m, b) exchanged -/
def rot (f : Nat → Nat) (a m b : Nat) : Nat → Nat := fun k => if a ≤ k ∧ k < a + (b - m) then f (k - a + m) else if a + (b - m) ≤ k ∧ k < b then f (k - (b - m)) else f k
theorem rot_left (f : Nat → Nat) (m i j : Nat) (hi : i ≤ m) (h : j < i) : rot (swp f (m - i) m j) (m - (i - j)) m (m + j) = rot f (m - i) m (m + j) := by
  funext k
  simp only [swp, rot]
  repeat' split
  all_goals first
    | rfl
    | (exfalso; omega)
    | (congr 1; omega)
theorem rot_right (f : Nat → Nat) (m i j : Nat) (hi : i ≤ m) (h : i < j) : rot (swp f (m - i) (m + j - i) i) (m - i) m (m + (j - i)) = rot f (m - i) m (m + j) := by
  funext k
  simp only [swp, rot]
  repeat' split
  all_goals first
    | rfl
    | (exfalso; omega)
    | (congr 1; omega)
theorem rot_same (f : Nat → Nat) (m i : Nat) (hi : i ≤ m) : swp f (m - i) m i = rot f (m - i) m (m + i) := by
  funext k
  simp only [swp, rot]
  repeat' split
  all_goals first
    | rfl
    | (exfalso; omega)
    | (congr 1; omega)

set_option maxRecDepth 20000 in
set_option maxHeartbeats 3200000 in
/-- slices.swapRangeCmpFunc -/
theorem swapR_any (G c n : Nat) (hn : n ≤ 100000) (f : Nat → Nat) (a b q : Nat) (hab : a + q ≤ b) (hb : b + q ≤ n) (fv : Value) (w : World) (h : RowF w G c n f) :
    Calls Try.prog 65 #[.slice (some ⟨G, 0, none⟩) n c, .int .i64 a, .int .i64 b, .int .i64 q, fv] w fun e w' => e = .returned (.tuple #[]) ∧ RowF w' G c n (swp f a b q) ∧ Touch [G] w w' := by
  have H0 : Hid (RowF w G c n (swp f a b 0)) := Lib.hid (by rw [swp_zero]; exact h)
  clear h
  go_enter Try.func65, Try.ntmps65
  go_wp2_with fail
  go_loopw [10] (fun y wr => ∃ i : Nat, i ≤ q ∧ y = .int .i64 i ∧ Hid (RowF wr G c n (swp f a b i)) ∧ Hid (Touch [G] w wr)) (fun y _ => q - (intOf y).toNat)
  case atStart => exact ⟨0, by omega, rfl, H0, Lib.hid (Touch.refl _ _)⟩
  case round =>
    clear H0
    obtain ⟨i, hi, rfl, HR, HT⟩ := hrel
    by_cases hlt : i < q
    · have ca := HR.out.cell (a + i) (by omega)
      have cb := HR.out.cell (b + i) (by omega)
      have fa := HR.out.free (a + i)
      have fb := HR.out.free (b + i)
      have hat := swp_at f a b i (by omega)
      rw [hat.1] at ca
      rw [hat.2] at cb
      have hne : a + i ≠ b + i := by omega
      obtain ⟨x, hx⟩ : ∃ x, x = f (a + i) := ⟨_, rfl⟩
      obtain ⟨y, hy⟩ : ∃ y, y = f (b + i) := ⟨_, rfl⟩
      rw [← hx] at ca
      rw [← hy] at cb
      have hs := (HR.out.set (a + i) y (by omega)).set (b + i) x (by omega)
      rw [hx, hy, swp_step f a b i (by omega), ← hx, ← hy] at hs
      have HS := Lib.hid hs
      have HT2 := Lib.hid ((HT.out.setCell (p := ⟨G, a + i, none⟩) (.inl (by simp)) (.int .i64 (y : Int))).setCell (p := ⟨G, b + i, none⟩) (.inl (by simp)) (.int .i64 (x : Int)))
      clear hat hx hy hs
      go_wp2_with fail
      go_region
      go_wp2_with fail
      go_roundw
      case rel => exact ⟨i + 1, by omega, by go_num, Lib.hid (HS.out.touch0 (Touch.refl [] _).drew), Lib.hid HT2.out.drew⟩
      case measure => simp [intOf]; omega
    · obtain rfl : i = q := by omega
      go_wp2
      go_end0
      exact ⟨rfl, HR.out, HT.out⟩

set_option maxRecDepth 20000 in
set_option maxHeartbeats 3200000 in
/-- slices.rotateCmpFunc -/
theorem rotate_any (G c n : Nat) (hn : n ≤ 100000) (f : Nat → Nat) (a m b : Nat) (ham : a < m) (hmb : m < b) (hb : b ≤ n) (fv : Value) (w : World) (h : RowF w G c n f) :
    Calls Try.prog 59 #[.slice (some ⟨G, 0, none⟩) n c, .int .i64 a, .int .i64 m, .int .i64 b, fv] w fun e w' => e = .returned (.tuple #[]) ∧ RowF w' G c n (rot f a m b) ∧ Touch [G] w w' := by
  have H0 : Hid (rot f (m - (m - a)) m (m + (b - m)) = rot f a m b) := Lib.hid (by rw [show m - (m - a) = a by omega, show m + (b - m) = b by omega])
  have HR0 := Lib.hid h
  clear h
  go_enter Try.func59, Try.ntmps59
  go_wp2_with fail
  go_loopw [10, 11] (fun x y wr => ∃ (i j : Nat) (g : Nat → Nat), 0 < i ∧ 0 < j ∧ i ≤ m - a ∧ j ≤ b - m ∧ x = .int .i64 i ∧ y = .int .i64 j ∧ Hid (rot g (m - i) m (m + j) = rot f a m b) ∧ Hid (RowF wr G c n g) ∧ Hid (Touch [G] w wr)) (fun x y _ => (intOf x).toNat + (intOf y).toNat)
  case atStart => exact ⟨m - a, b - m, f, by omega, by omega, by omega, by omega, by congr 1; omega, by congr 1; omega, H0, HR0, Lib.hid (Touch.refl _ _)⟩
  case round =>
    clear H0 HR0
    obtain ⟨i, j, g, hi, hj, him, hjb, rfl, rfl, HE, HR, HT⟩ := hrel
    have e1 : (m : Int) - (i : Int) = ((m - i : Nat) : Int) := by omega
    by_cases hij : i = j
    · subst hij
      have hS := swapR_any G c n hn g (m - i) m i (by omega) (by omega) fv wr HR.out
      rw [rot_same g m i (by omega), HE.out] at hS
      have HS := Lib.hid hS
      clear hS
      go_wp2_with fail
      (try rw [e1])
      refine HS.out.mono ?_
      rintro e w2 ⟨rfl, hr, ht⟩
      go_wp2_with fail
      go_end0
      exact ⟨rfl, hr, HT.out.trans ht (fun b hb => .inl hb)⟩
    · have hij' : (i : Int) ≠ j := by omega
      have hne : ((i : Int) != (j : Int)) = true := by simp; omega
      by_cases hlt : j < i
      · have hS := swapR_any G c n hn g (m - i) m j (by omega) (by omega) fv wr HR.out
        have HS := Lib.hid hS
        have HE2 := Lib.hid ((rot_left g m i j (by omega) hlt).trans HE.out)
        have e2 : (i : Int) - (j : Int) = ((i - j : Nat) : Int) := by omega
        have hlt' : (j : Int) < (i : Int) := by omega
        clear hS
        go_wp2_with fail
        (try rw [e1])
        refine HS.out.mono ?_
        rintro e w2 ⟨rfl, hr, ht⟩
        have HR2 := Lib.hid hr
        have HT2 := Lib.hid (HT.out.trans ht (fun b hb => .inl hb))
        clear hr ht HS
        go_wp2_with fail
        go_roundw
        case rel => exact ⟨i - j, j, _, by omega, by omega, by omega, by omega, by rw [← e2], rfl, HE2, HR2, HT2⟩
        case measure => simp [intOf]; omega
      · have hlt' : ((j : Int) < (i : Int)) = False := by simp; omega
        have hS := swapR_any G c n hn g (m - i) (m + j - i) i (by omega) (by omega) fv wr HR.out
        have HS := Lib.hid hS
        have HE2 := Lib.hid ((rot_right g m i j (by omega) (by omega)).trans HE.out)
        have e2 : (j : Int) - (i : Int) = ((j - i : Nat) : Int) := by omega
        have e3 : (m : Int) + (j : Int) - (i : Int) = ((m + j - i : Nat) : Int) := by omega
        clear hS
        go_wp2_with fail
        (try rw [e1])
        (try rw [e3])
        refine HS.out.mono ?_
        rintro e w2 ⟨rfl, hr, ht⟩
        have HR2 := Lib.hid hr
        have HT2 := Lib.hid (HT.out.trans ht (fun b hb => .inl hb))
        clear hr ht HS
        go_wp2_with fail
        go_roundw
        case rel => exact ⟨i, j - i, _, by omega, by omega, by omega, by omega, rfl, by rw [← e2], HE2, HR2, HT2⟩
        case measure => simp [intOf]; omega
end Go.Proofs.Ytmehdlflhllhdaa
