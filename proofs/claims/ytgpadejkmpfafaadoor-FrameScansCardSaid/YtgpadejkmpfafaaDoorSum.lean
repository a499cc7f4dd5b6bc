/- frame.Sum: the walk: the sum, four bits by four. For every slice of bytes; the table as the program's text lays it. -/
import Derived.Test.YtgpadejkmpfafaaDoorBase
namespace Go.Proofs.YtgpadejkmpfafaaDoor
open Go.RowKit

def half : List Nat := [0, 498536548, 997073096, 651767980, 1994146192, 1802195444, 1303535960, 1342533948, 3988292384, 4027552580, 3604390888, 3412177804, 2607071920, 2262029012, 2685067896, 3183342108]
def nib (c : Nat) : Nat := (c / 16) ^^^ (half.getD (c % 16) 0)
def nibs (c : Nat) : Nat → Nat
  | 0 => c
  | j + 1 => nib (nibs c j)
def stepB (c : Nat) (x : UInt8) : Nat := nibs (c ^^^ x.toNat) 2
def crc (bs : List UInt8) : Nat := bs.foldl stepB 4294967295
theorem half_lt (j : Nat) : half.getD j 0 < 4294967296 := by
  by_cases h : j < 16
  · have : ∀ j : Fin 16, half.getD j.val 0 < 4294967296 := by decide
    exact this ⟨j, h⟩
  · simp [List.getD, List.getElem?_eq_none (show half.length ≤ j by simp [half]; omega)]
theorem nib_lt (c : Nat) (h : c < 4294967296) : nib c < 4294967296 :=
  Nat.xor_lt_two_pow (n := 32) (by omega) (half_lt _)
theorem nibs_lt (c j : Nat) (h : c < 4294967296) : nibs c j < 4294967296 := by
  induction j with
  | zero => exact h
  | succ j ih => exact nib_lt _ ih
theorem xor8_lt (c : Nat) (x : UInt8) (h : c < 4294967296) : c ^^^ x.toNat < 4294967296 :=
  Nat.xor_lt_two_pow (n := 32) h (by have := x.toNat_lt; omega)
theorem crc_lt (bs : List UInt8) : crc bs < 4294967296 := by
  unfold crc
  suffices ∀ (bs : List UInt8) c, c < 4294967296 → bs.foldl stepB c < 4294967296 from this bs _ (by decide)
  intro bs
  induction bs with
  | nil => exact fun _ h => h
  | cons x bs ih => exact fun c h => ih _ (nibs_lt _ _ (xor8_lt c x h))

theorem crc_snoc (bs : List UInt8) (k : Nat) (h : k < bs.length) : crc (bs.take (k + 1)) = stepB (crc (bs.take k)) bs[k] := by
  unfold crc
  rw [List.take_succ_eq_append_getElem h, List.foldl_append]; rfl

def sumOf (bs : List UInt8) : Nat := 4294967295 ^^^ crc bs
theorem sumOf_lt (bs : List UInt8) : sumOf bs < 4294967296 := Nat.xor_lt_two_pow (n := 32) (by decide) (crc_lt bs)
/-- the table lies where the program's text lays it -/
def HalfAt (w : World) : Prop := ∀ j, j < 16 → w.cell? ⟨0, j, none⟩ = some (.int .u32 (half.getD j 0 : Nat))
theorem HalfAt.touch {fp : List Nat} {w w' : World} (h : HalfAt w) (ht : Touch fp w w') (h0 : 0 ∉ fp) : HalfAt w' := fun j hj => ht.cell (h j hj) h0

set_option maxHeartbeats 400000 in
theorem sum_any (A : Option Addr) (c : Nat) (bs : List UInt8) (w : World) (hm : bs.length ≤ maxLen)
    (hc : RdB w A bs) (hh0 : HalfAt w) :
    Calls Tryd.prog 10 #[.slice A bs.length c] w fun e w' => e = .returned (.int .u32 (sumOf bs : Nat)) ∧ w = w' := by
  unfold maxLen at hm
  go_enter Tryd.func10, Tryd.ntmps10
  go_wp2
  go_loop [3, 8] (fun cc i => ∃ k : Nat, k ≤ bs.length ∧ i = .int .i64 k ∧ cc = .int .u32 (crc (bs.take k) : Nat)) (fun _ i => bs.length - (intOf i).toNat)
  case atStart => exact ⟨0, by omega, rfl, rfl⟩
  case round =>
    obtain ⟨k, hk, rfl, rfl⟩ := hrel
    by_cases hlt : k < bs.length
    · obtain ⟨ad, rfl, hcell⟩ := hc.at_ k hlt
      obtain ⟨x, hx⟩ : ∃ x, x = bs[k] := ⟨_, rfl⟩
      rw [← hx] at hcell
      have hx' := Lib.hid hx; clear hx
      have hxl := x.toNat_lt
      obtain ⟨m, hmm⟩ : ∃ m, m = crc (bs.take k) := ⟨_, rfl⟩
      have hml : m < 4294967296 := hmm ▸ crc_lt _
      rw [← hmm]
      have hmm' := Lib.hid hmm; clear hmm
      have e1 : bits BinOp.xor IntKind.u32 (m : Int) (x.toNat : Int) = ((m ^^^ x.toNat : Nat) : Int) := u32_xor_nat _ _ hml (by omega)
      go_wp2
      go_loop [3, 16] (fun cc i => ∃ j : Nat, j ≤ 2 ∧ i = .int .i64 j ∧ cc = .int .u32 (nibs (m ^^^ x.toNat) j : Nat)) (fun _ i => 2 - (intOf i).toNat)
      case atStart => exact ⟨0, by omega, rfl, rfl⟩
      case round =>
        obtain ⟨j, hj, rfl, rfl⟩ := hrel
        by_cases hlt2 : j < 2
        · obtain ⟨q, hq⟩ : ∃ q, q = nibs (m ^^^ x.toNat) j := ⟨_, rfl⟩
          have hql : q < 4294967296 := hq ▸ nibs_lt _ _ (xor8_lt _ _ hml)
          have e2 : bits BinOp.and IntKind.u32 (q : Int) 15 = ((q % 16 : Nat) : Int) := (u32_and_nat q 15 hql (by omega)).trans (by rw [nat_mask4])
          have e3 := hh0 (q % 16) (by omega)
          have hv := half_lt (q % 16)
          rw [← hq]
          have hq' := Lib.hid hq; clear hq
          clear hc
          go_wp2
          go_round
          case rel => exact ⟨j + 1, by omega, by go_num, by
            rw [show nibs (m ^^^ x.toNat) (j + 1) = nib q from by rw [hq'.out]; rfl]
            exact congrArg (Value.int .u32) (u32_xor_nat (q / 16) _ (by omega) hv)⟩
          case measure => simp [intOf]; omega
        · obtain rfl : j = 2 := by omega
          go_wp2
          go_round
          case rel => exact ⟨k + 1, by omega, by go_num, by
            rw [crc_snoc bs k hlt, ← hmm'.out, ← hx'.out]; rfl⟩
          case measure => simp [intOf]; omega
    · obtain rfl : k = bs.length := by omega
      go_wp2
      go_ret
      exact ⟨ret_int (u32_xor_nat 4294967295 _ (by omega) (crc_lt _)), rfl⟩
end Go.Proofs.YtgpadejkmpfafaaDoor
