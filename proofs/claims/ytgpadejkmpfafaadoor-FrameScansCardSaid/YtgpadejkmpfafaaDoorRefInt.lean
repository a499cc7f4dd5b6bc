/- bywashref07.Int: a number's bytes, as the document says. For every number. -/
import Derived.Test.YtgpadejkmpfafaaDoorOutInt
import Derived.Test.YtgpadejkmpfafaaDoorAppStr
namespace Go.Proofs.YtgpadejkmpfafaaDoor
open Go.RowKit

theorem OwnB.one' (w : World) (x : UInt8) {z : Int} (h : z = x.toNat) : OwnB (w.alloc (.cells #[.int .u8 z] 5)) (some ⟨w.heap.size, 0, none⟩) 1 [x] := by
  subst h; exact OwnB.new w [x] (by simp [maxLen])

set_option maxHeartbeats 800000 in
theorem refInt_any (n : Int) (h1 : -9223372036854775808 ≤ n) (h2 : n ≤ 9223372036854775807) (w : World) :
    Calls Tryd.prog 13 #[.int .i64 n] w fun e w' => ∃ A c, e = .returned (.slice A (encI n).length c) ∧ OwnB w' A c (encI n) ∧ Touch [] w w' ∧ (∀ b ∈ fpo A, w.heap.size ≤ b) := by
  go_enter Tryd.func13, Tryd.ntmps13
  by_cases hn : n < 0
  · skip
    obtain ⟨M, hM⟩ : ∃ M : Nat, (-1 - n : Int) = (M : Int) := ⟨(-1 - n).toNat, by omega⟩
    have henc := Lib.hid (encI_neg hn hM)
    have hMl : M < 9223372036854775808 := by omega
    have hl8 := le_length 8 M
    go_wp2
    clear hM
    go_loopw [0, 4] (fun n out wr => ∃ k A c, k ≤ 8 ∧ n = .int .i64 (M / 256 ^ k : Nat) ∧ out = .slice A k c ∧ OwnB wr A c (digs M k) ∧ Touch [] w wr ∧ (∀ b ∈ fpo A, w.heap.size ≤ b) ∧ ∀ j, j < k → 0 < M / 256 ^ j)
      (fun _ out _ => match out with | .slice _ k _ => 9 - k | _ => 0)
    case atStart => exact ⟨0, none, 0, by omega, by simp, rfl, OwnB.nil _, Touch.refl _ _, by simp [fpo], by omega⟩
    case round =>
      obtain ⟨k, A, c, hk, rfl, rfl, hown, ht, hfp, hj⟩ := hrel
      obtain ⟨q, hq⟩ : ∃ q, q = M / 256 ^ k := ⟨_, rfl⟩
      have hql : q < 9223372036854775808 := hq ▸ Nat.lt_of_le_of_lt (Nat.div_le_self _ _) hMl
      rw [← hq]
      have h8 : k = 8 → q = 0 := by rintro rfl; rw [hq]; exact Nat.div_eq_of_lt (by simp; omega)
      have H8 := Lib.hid h8; clear h8
      have Hq := Lib.hid hq; clear hq
      have hx : (q : Int) % 256 = ((UInt8.ofNat q).toNat : Int) := by simp
      have Hx := Lib.hid hx; clear hx
      by_cases hq0 : 0 < q
      · have hk8 : k < 8 := by
          rcases Nat.lt_or_ge k 8 with h | h
          · exact h
          · have := H8.out (by omega); omega
        go_wp2_with (at_builtin; refine wpList_appB rfl (.tmp 11) (.tmp 15) rfl A k c (digs M k) (digs_length M k) rfl (hown.touch0 ((Touch.refl _ _).alloc _)) (some ⟨wr.heap.size, 0, none⟩) 1 1 [UInt8.ofNat q] rfl rfl (RdB.one' _ _ Hx.out) (by omega) ?_; intro A1 c1 w1 hown1 ht1 hfp1)
        go_roundw
        case rel => exact ⟨k + 1, A1, c1, by omega, by rw [Nat.pow_succ, ← Nat.div_div_eq_div_mul, ← Hq.out]; go_num, rfl, by rw [digs_snoc, ← Hq.out]; exact hown1,
          (ht.alloc _).trans ht1 (fun b hb => .inr (hfp b hb)), fun b hb => (by
            rcases hfp1 b hb with h | h
            · exact hfp b h
            · have := ht.size; simp at h; omega), fun j hj' => (by
            rcases Nat.lt_or_ge j k with h | h
            · exact hj j h
            · obtain rfl : j = k := by omega
              rw [← Hq.out]; exact hq0)⟩
        case measure => simp; omega
      · obtain rfl : q = 0 := by omega
        have hle : digs M k = le 8 M := digs_le 8 k M hk Hq.out.symm hj
        rw [hle] at hown
        have hkl : k = (le 8 M).length := by rw [← hle, digs_length]
        subst hkl
        have hz : ((16 + ((le 8 M).length : Int))) = (UInt8.ofNat ((le 8 M).length + 16)).toNat := by simp; omega
        have Hz := Lib.hid hz; clear hz
        have hlw := hown.lt
        go_wp2_with (at_builtin; refine wpList_appB rfl (.tmp 24) (.tmp 25) rfl (some ⟨wr.heap.size, 0, none⟩) 1 1 [(UInt8.ofNat ((le 8 M).length + 16))] rfl rfl (OwnB.one' _ _ Hz.out) A (le 8 M).length c (le 8 M) rfl rfl (hown.rd.touch0 ((Touch.refl _ _).alloc _)) (by omega) ?_; intro A1 c1 w1 hown1 ht1 hfp1)
        go_ret
        refine ⟨A1, c1, ?_, ?_, ?_, ?_⟩
        · rw [henc.out]; exact ret_slice (by simp; omega)
        · rw [henc.out]; exact hown1
        · exact (ht.alloc _).trans ht1 (fun b hb => .inr (by have := ht.size; simp [fpo] at hb; omega))
        · intro b hb
          have := ht.size
          rcases hfp1 b hb with h | h
          · simp [fpo] at h; omega
          · simp at h; omega
  · skip
    obtain ⟨M, rfl⟩ : ∃ M : Nat, n = (M : Int) := ⟨n.toNat, by omega⟩
    have henc := Lib.hid (encI_pos (M := M))
    have hMl : M < 9223372036854775808 := by omega
    have hl8 := le_length 8 M
    go_wp2
    go_loopw [0, 4] (fun n out wr => ∃ k A c, k ≤ 8 ∧ n = .int .i64 (M / 256 ^ k : Nat) ∧ out = .slice A k c ∧ OwnB wr A c (digs M k) ∧ Touch [] w wr ∧ (∀ b ∈ fpo A, w.heap.size ≤ b) ∧ ∀ j, j < k → 0 < M / 256 ^ j)
      (fun _ out _ => match out with | .slice _ k _ => 9 - k | _ => 0)
    case atStart => exact ⟨0, none, 0, by omega, by simp, rfl, OwnB.nil _, Touch.refl _ _, by simp [fpo], by omega⟩
    case round =>
      obtain ⟨k, A, c, hk, rfl, rfl, hown, ht, hfp, hj⟩ := hrel
      obtain ⟨q, hq⟩ : ∃ q, q = M / 256 ^ k := ⟨_, rfl⟩
      have hql : q < 9223372036854775808 := hq ▸ Nat.lt_of_le_of_lt (Nat.div_le_self _ _) hMl
      rw [← hq]
      have h8 : k = 8 → q = 0 := by rintro rfl; rw [hq]; exact Nat.div_eq_of_lt (by simp; omega)
      have H8 := Lib.hid h8; clear h8
      have Hq := Lib.hid hq; clear hq
      have hx : (q : Int) % 256 = ((UInt8.ofNat q).toNat : Int) := by simp
      have Hx := Lib.hid hx; clear hx
      by_cases hq0 : 0 < q
      · have hk8 : k < 8 := by
          rcases Nat.lt_or_ge k 8 with h | h
          · exact h
          · have := H8.out (by omega); omega
        go_wp2_with (at_builtin; refine wpList_appB rfl (.tmp 11) (.tmp 15) rfl A k c (digs M k) (digs_length M k) rfl (hown.touch0 ((Touch.refl _ _).alloc _)) (some ⟨wr.heap.size, 0, none⟩) 1 1 [UInt8.ofNat q] rfl rfl (RdB.one' _ _ Hx.out) (by omega) ?_; intro A1 c1 w1 hown1 ht1 hfp1)
        go_roundw
        case rel => exact ⟨k + 1, A1, c1, by omega, by rw [Nat.pow_succ, ← Nat.div_div_eq_div_mul, ← Hq.out]; go_num, rfl, by rw [digs_snoc, ← Hq.out]; exact hown1,
          (ht.alloc _).trans ht1 (fun b hb => .inr (hfp b hb)), fun b hb => (by
            rcases hfp1 b hb with h | h
            · exact hfp b h
            · have := ht.size; simp at h; omega), fun j hj' => (by
            rcases Nat.lt_or_ge j k with h | h
            · exact hj j h
            · obtain rfl : j = k := by omega
              rw [← Hq.out]; exact hq0)⟩
        case measure => simp; omega
      · obtain rfl : q = 0 := by omega
        have hle : digs M k = le 8 M := digs_le 8 k M hk Hq.out.symm hj
        rw [hle] at hown
        have hkl : k = (le 8 M).length := by rw [← hle, digs_length]
        subst hkl
        have hz : (((le 8 M).length : Int)) = (UInt8.ofNat ((le 8 M).length)).toNat := by simp; omega
        have Hz := Lib.hid hz; clear hz
        have hlw := hown.lt
        go_wp2_with (at_builtin; refine wpList_appB rfl (.tmp 24) (.tmp 25) rfl (some ⟨wr.heap.size, 0, none⟩) 1 1 [(UInt8.ofNat ((le 8 M).length))] rfl rfl (OwnB.one' _ _ Hz.out) A (le 8 M).length c (le 8 M) rfl rfl (hown.rd.touch0 ((Touch.refl _ _).alloc _)) (by omega) ?_; intro A1 c1 w1 hown1 ht1 hfp1)
        go_ret
        refine ⟨A1, c1, ?_, ?_, ?_, ?_⟩
        · rw [henc.out]; exact ret_slice (by simp; omega)
        · rw [henc.out]; exact hown1
        · exact (ht.alloc _).trans ht1 (fun b hb => .inr (by have := ht.size; simp [fpo] at hb; omega))
        · intro b hb
          have := ht.size
          rcases hfp1 b hb with h | h
          · simp [fpo] at h; omega
          · simp at h; omega
end Go.Proofs.YtgpadejkmpfafaaDoor
