/- frame.low: the lowest bytes of a number. For every number below 2^64. -/
import Derived.Test.YtgpadejkmpfafaaDoorBase
namespace Go.Proofs.YtgpadejkmpfafaaDoor
open Go.RowKit

/-- the lowest k bytes -/
def digs (N : Nat) : Nat → List UInt8
  | 0 => []
  | k + 1 => UInt8.ofNat N :: digs (N / 256) k
theorem digs_length (N k : Nat) : (digs N k).length = k := by
  induction k generalizing N with
  | zero => rfl
  | succ k ih => simp [digs, ih]
theorem digs_snoc (N k : Nat) : digs N (k + 1) = digs N k ++ [UInt8.ofNat (N / 256 ^ k)] := by
  induction k generalizing N with
  | zero => simp [digs]
  | succ k ih =>
    rw [digs, ih (N / 256)]
    simp only [digs, List.cons_append]
    rw [Nat.div_div_eq_div_mul, ← Nat.pow_succ']
/-- as many bytes as a number needs -/
def le (f : Nat) (N : Nat) : List UInt8 :=
  match f with
  | 0 => []
  | f + 1 => if N = 0 then [] else UInt8.ofNat N :: le f (N / 256)
theorem le_length (f N : Nat) : (le f N).length ≤ f := by
  induction f generalizing N with
  | zero => simp [le]
  | succ f ih =>
    unfold le
    split
    · simp
    · simpa using ih _
theorem digs_le (f k N : Nat) (hk : k ≤ f) (h0 : N / 256 ^ k = 0) (hp : ∀ j, j < k → 0 < N / 256 ^ j) : digs N k = le f N := by
  induction f generalizing k N with
  | zero => obtain rfl : k = 0 := by omega
            rfl
  | succ f ih =>
    cases k with
    | zero => simp at h0; simp [digs, le, h0]
    | succ k =>
      have h1 := hp 0 (by omega)
      simp only [Nat.pow_zero, Nat.div_one] at h1
      rw [digs, le, if_neg (by omega), ih k (N / 256) (by omega)]
      · rw [Nat.div_div_eq_div_mul, ← Nat.pow_succ']; exact h0
      · intro j hj
        rw [Nat.div_div_eq_div_mul, ← Nat.pow_succ']
        exact hp (j + 1) (by omega)

def IsLow (N least k : Nat) : Prop := N / 256 ^ k = 0 ∧ least ≤ k ∧ k ≤ 8 ∧ ∀ j, j < k → 0 < N / 256 ^ j ∨ j < least
theorem IsLow.zero {N k : Nat} (h : IsLow N 0 k) : digs N k = le 8 N := digs_le 8 k N h.2.2.1 h.1 fun j hj => by have := h.2.2.2 j hj; omega
theorem IsLow.four {N k : Nat} (h : IsLow N 4 k) (hN : N < 4294967296) : k = 4 := by
  have h4 : N / 256 ^ 4 = 0 := Nat.div_eq_of_lt (by simpa using hN)
  rcases Nat.lt_or_ge 4 k with hk | hk
  · have := h.2.2.2 4 hk; omega
  · have := h.2.1; omega

set_option maxHeartbeats 400000 in
theorem low_any (N least : Nat) (hN : N < 18446744073709551616) (hl : least ≤ 8) (w : World) :
    Calls Tryd.prog 39 #[.int .u64 N, .int .i64 least] w fun e w' => ∃ A c k, e = .returned (.slice A (digs N k).length c) ∧ OwnB w' A c (digs N k) ∧ Touch [] w w' ∧ (∀ b ∈ fpo A, w.heap.size ≤ b) ∧
      IsLow N least k := by
  go_enter Tryd.func39, Tryd.ntmps39
  go_wp2
  go_loopw [0, 5] (fun n out wr => ∃ k A c, k ≤ 8 ∧ n = .int .u64 (N / 256 ^ k : Nat) ∧ out = .slice A k c ∧ OwnB wr A c (digs N k) ∧ Touch [] w wr ∧ (∀ b ∈ fpo A, w.heap.size ≤ b) ∧ ∀ j, j < k → 0 < N / 256 ^ j ∨ j < least)
    (fun _ out _ => match out with | .slice _ k _ => 9 - k | _ => 0)
  case atStart => exact ⟨0, none, 0, by omega, by simp, rfl, OwnB.nil _, Touch.refl _ _, by simp [fpo], by omega⟩
  case round =>
    obtain ⟨k, A, c, hk, rfl, rfl, hown, ht, hfp, hj⟩ := hrel
    obtain ⟨q, hq⟩ : ∃ q, q = N / 256 ^ k := ⟨_, rfl⟩
    have hql : q < 18446744073709551616 := hq ▸ Nat.lt_of_le_of_lt (Nat.div_le_self _ _) hN
    rw [← hq]
    have h8 : k = 8 → q = 0 := by rintro rfl; rw [hq]; exact Nat.div_eq_of_lt (by simpa using hN)
    have H8 := Lib.hid h8; clear h8
    have Hq := Lib.hid hq; clear hq
    have hx : (q : Int) % 256 = ((UInt8.ofNat q).toNat : Int) := by simp
    have Hx := Lib.hid hx; clear hx
    by_cases hc : 0 < q ∨ k < least
    · have hk8 : k < 8 := by
        rcases Nat.lt_or_ge k 8 with h | h
        · exact h
        · have := H8.out (by omega); omega
      have hd : (decide ((0 : Int) < q) = true ∧ 0 < q) ∨ (decide ((0 : Int) < q) = false ∧ q = 0 ∧ k < least) := by
        by_cases h : 0 < q
        · exact .inl ⟨by simp; omega, h⟩
        · exact .inr ⟨by simp; omega, by omega, by omega⟩
      rcases hd with ⟨hd, hq0⟩ | ⟨hd, hq0, hkl⟩
      · go_wp2_with (at_builtin; refine wpList_appB rfl (.tmp 14) (.tmp 17) rfl A k c (digs N k) (digs_length N k) rfl (hown.touch0 ((Touch.refl _ _).alloc _)) (some ⟨wr.heap.size, 0, none⟩) 1 1 [UInt8.ofNat q] rfl rfl (RdB.one' _ _ Hx.out) (by omega) ?_; intro A1 c1 w1 hown1 ht1 hfp1)
        go_roundw
        case rel => exact ⟨k + 1, A1, c1, by omega, by rw [Nat.pow_succ, ← Nat.div_div_eq_div_mul, ← Hq.out]; go_num, rfl, by rw [digs_snoc, ← Hq.out]; exact hown1,
          (ht.alloc _).trans ht1 (fun b hb => .inr (hfp b hb)), fun b hb => (by
            rcases hfp1 b hb with h | h
            · exact hfp b h
            · have := ht.size; simp at h; omega), fun j hj' => (by
            rcases Nat.lt_or_ge j k with h | h
            · exact hj j h
            · obtain rfl : j = k := by omega
              rw [← Hq.out]; exact hc)⟩
        case measure => simp; omega
      · subst hq0
        go_wp2_with (at_builtin; refine wpList_appB rfl (.tmp 14) (.tmp 17) rfl A k c (digs N k) (digs_length N k) rfl (hown.touch0 ((Touch.refl _ _).alloc _)) (some ⟨wr.heap.size, 0, none⟩) 1 1 [UInt8.ofNat 0] rfl rfl (RdB.one' _ _ rfl) (by omega) ?_; intro A1 c1 w1 hown1 ht1 hfp1)
        go_roundw
        case rel => exact ⟨k + 1, A1, c1, by omega, by rw [Nat.pow_succ, ← Nat.div_div_eq_div_mul, ← Hq.out]; go_num, rfl, by rw [digs_snoc, ← Hq.out]; exact hown1,
          (ht.alloc _).trans ht1 (fun b hb => .inr (hfp b hb)), fun b hb => (by
            rcases hfp1 b hb with h | h
            · exact hfp b h
            · have := ht.size; simp at h; omega), fun j hj' => (by
            rcases Nat.lt_or_ge j k with h | h
            · exact hj j h
            · obtain rfl : j = k := by omega
              rw [← Hq.out]; exact hc)⟩
        case measure => simp; omega
    · obtain ⟨hq0, hl0⟩ : q = 0 ∧ least ≤ k := by omega
      subst hq0
      go_wp2
      go_ret
      exact ⟨A, c, k, ret_slice (digs_length N k).symm, hown, ht, hfp, ⟨Hq.out.symm, hl0, hk, hj⟩⟩
theorem low_zero (N : Nat) (hN : N < 18446744073709551616) (w : World) :
    Calls Tryd.prog 39 #[.int .u64 N, .int .i64 0] w fun e w' => ∃ A c, e = .returned (.slice A (le 8 N).length c) ∧ OwnB w' A c (le 8 N) ∧ Touch [] w w' ∧ (∀ b ∈ fpo A, w.heap.size ≤ b) :=
  (low_any N 0 hN (by omega) w).mono fun e w' ⟨A, c, k, he, ho, ht, hf, hk⟩ => by
    rw [hk.zero] at he ho
    exact ⟨A, c, he, ho, ht, hf⟩
theorem low_four (N : Nat) (hN : N < 4294967296) (w : World) :
    Calls Tryd.prog 39 #[.int .u64 N, .int .i64 4] w fun e w' => ∃ A c, e = .returned (.slice A 4 c) ∧ OwnB w' A c (digs N 4) ∧ Touch [] w w' ∧ (∀ b ∈ fpo A, w.heap.size ≤ b) :=
  (low_any N 4 (by omega) (by omega) w).mono fun e w' ⟨A, c, k, he, ho, ht, hf, hk⟩ => by
    obtain rfl := hk.four hN
    rw [digs_length] at he
    exact ⟨A, c, he, ho, ht, hf⟩
end Go.Proofs.YtgpadejkmpfafaaDoor
