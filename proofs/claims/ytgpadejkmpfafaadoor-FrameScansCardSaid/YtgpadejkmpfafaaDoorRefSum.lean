/- bywashref07.Sum: the walk: the sum, bit by bit. For every slice of bytes. -/
import Derived.Test.YtgpadejkmpfafaaDoorBase
namespace Go.Proofs.YtgpadejkmpfafaaDoor
open Go.RowKit

def bit1 (c : Nat) : Nat := if c % 2 = 1 then (c / 2) ^^^ 3988292384 else c / 2
def bits1 (c : Nat) : Nat → Nat
  | 0 => c
  | j + 1 => bit1 (bits1 c j)
def rstepB (c : Nat) (x : UInt8) : Nat := bits1 (c ^^^ x.toNat) 8
def rcrc (bs : List UInt8) : Nat := bs.foldl rstepB 4294967295
theorem bit1_lt (c : Nat) (h : c < 4294967296) : bit1 c < 4294967296 := by
  unfold bit1
  split
  · exact Nat.xor_lt_two_pow (n := 32) (by omega) (by decide)
  · omega
theorem bits1_lt (c j : Nat) (h : c < 4294967296) : bits1 c j < 4294967296 := by
  induction j with
  | zero => exact h
  | succ j ih => exact bit1_lt _ ih
theorem rxor8_lt (c : Nat) (x : UInt8) (h : c < 4294967296) : c ^^^ x.toNat < 4294967296 :=
  Nat.xor_lt_two_pow (n := 32) h (by have := x.toNat_lt; omega)
theorem rcrc_lt (bs : List UInt8) : rcrc bs < 4294967296 := by
  unfold rcrc
  suffices ∀ (bs : List UInt8) c, c < 4294967296 → bs.foldl rstepB c < 4294967296 from this bs _ (by decide)
  intro bs
  induction bs with
  | nil => exact fun _ h => h
  | cons x bs ih => exact fun c h => ih _ (bits1_lt _ _ (rxor8_lt c x h))
theorem rcrc_snoc (bs : List UInt8) (k : Nat) (h : k < bs.length) : rcrc (bs.take (k + 1)) = rstepB (rcrc (bs.take k)) bs[k] := by
  unfold rcrc
  rw [List.take_succ_eq_append_getElem h, List.foldl_append]; rfl
def rsumOf (bs : List UInt8) : Nat := 4294967295 - rcrc bs

set_option maxHeartbeats 800000 in
theorem refSum_any (A : Option Addr) (c : Nat) (bs : List UInt8) (w : World) (hm : bs.length ≤ maxLen)
    (hc : RdB w A bs) :
    Calls Tryd.prog 11 #[.slice A bs.length c] w fun e w' => e = .returned (.int .u32 (rsumOf bs : Nat)) ∧ w = w' := by
  unfold maxLen at hm
  go_enter Tryd.func11, Tryd.ntmps11
  go_wp2
  go_loop [3, 4] (fun cc i => ∃ k : Nat, k ≤ bs.length ∧ i = .int .i64 k ∧ cc = .int .u32 (rcrc (bs.take k) : Nat)) (fun _ i => bs.length - (intOf i).toNat)
  case atStart => exact ⟨0, by omega, rfl, rfl⟩
  case round =>
    obtain ⟨k, hk, rfl, rfl⟩ := hrel
    by_cases hlt : k < bs.length
    · obtain ⟨ad, rfl, hcell⟩ := hc.at_ k hlt
      obtain ⟨x, hx⟩ : ∃ x, x = bs[k] := ⟨_, rfl⟩
      rw [← hx] at hcell
      have hx' := Lib.hid hx; clear hx
      have hxl := x.toNat_lt
      obtain ⟨m, hmm⟩ : ∃ m, m = rcrc (bs.take k) := ⟨_, rfl⟩
      have hml : m < 4294967296 := hmm ▸ rcrc_lt _
      rw [← hmm]
      have hmm' := Lib.hid hmm; clear hmm
      have e1 : bits BinOp.xor IntKind.u32 (m : Int) (x.toNat : Int) = ((m ^^^ x.toNat : Nat) : Int) := u32_xor_nat _ _ hml (by omega)
      go_wp2
      go_loop [3, 5] (fun cc i => ∃ j : Nat, j ≤ 8 ∧ i = .int .i64 j ∧ cc = .int .u32 (bits1 (m ^^^ x.toNat) j : Nat)) (fun _ i => 8 - (intOf i).toNat)
      case atStart => exact ⟨0, by omega, rfl, rfl⟩
      case round =>
        obtain ⟨j, hj, rfl, rfl⟩ := hrel
        by_cases hlt2 : j < 8
        · obtain ⟨q, hq⟩ : ∃ q, q = bits1 (m ^^^ x.toNat) j := ⟨_, rfl⟩
          have hql : q < 4294967296 := hq ▸ bits1_lt _ _ (rxor8_lt _ _ hml)
          rw [← hq]
          have hq' := Lib.hid hq; clear hq
          have hs : bits1 (m ^^^ x.toNat) (j + 1) = bit1 q := by rw [hq'.out]; rfl
          have hs' := Lib.hid hs; clear hs
          clear hc
          by_cases hodd : q % 2 = 1
          · have hb := Lib.hid (show bit1 q = (q / 2) ^^^ 3988292384 from if_pos hodd)
            have hd : (((q : Int) % 2) == 1) = true := by rw [beq_iff_eq]; omega
            clear hodd
            go_wp2
            go_round
            case rel => exact ⟨j + 1, by omega, by go_num, by
              rw [hs'.out, hb.out]
              exact congrArg (Value.int .u32) (u32_xor_nat (q / 2) 3988292384 (by omega) (by decide))⟩
            case measure => simp [intOf]; omega
          · have hb := Lib.hid (show bit1 q = q / 2 from if_neg hodd)
            have hd : (((q : Int) % 2) == 1) = false := by rw [beq_eq_false_iff_ne]; omega
            clear hodd
            go_wp2
            go_round
            case rel => exact ⟨j + 1, by omega, by go_num, by rw [hs'.out, hb.out]; go_num⟩
            case measure => simp [intOf]; omega
        · obtain rfl : j = 8 := by omega
          go_wp2
          go_round
          case rel => exact ⟨k + 1, by omega, by go_num, by
            rw [rcrc_snoc bs k hlt, ← hmm'.out, ← hx'.out]; rfl⟩
          case measure => simp [intOf]; omega
    · obtain rfl : k = bs.length := by omega
      have hrl := rcrc_lt bs
      rw [List.take_length]
      go_wp2
      go_ret
      exact ⟨ret_int (by unfold rsumOf; omega), rfl⟩
end Go.Proofs.YtgpadejkmpfafaaDoor
