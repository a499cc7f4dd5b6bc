/- A number with its lowest bit turned is another one. No program's function. -/
import Derived.Test.YtlkckkagoommaaaBase
namespace Go.Proofs.Ytlkckkagoommaaa
open Go.RowKit

theorem wrap_mod (n : Int) : (IntKind.i64.wrap n) % 18446744073709551616 = n % 18446744073709551616 := by
  simp only [IntKind.wrap, IntKind.bits, IntKind.signed]
  simp
  omega
theorem xor1_ne (a : Int) : bits .xor .i64 a 1 ≠ a := by
  intro h
  have h1 : bits .xor .i64 a 1 = IntKind.i64.wrap ((BitVec.ofInt 64 a ^^^ BitVec.ofInt 64 1).toNat : Int) := rfl
  rw [h1] at h
  have h2 := wrap_mod ((BitVec.ofInt 64 a ^^^ BitVec.ofInt 64 1).toNat : Int)
  rw [h] at h2
  have h3 : (BitVec.ofInt 64 a ^^^ BitVec.ofInt 64 1).toNat < 2 ^ 64 := BitVec.isLt _
  have h4 : (BitVec.ofInt 64 a).toNat = (a % 18446744073709551616).toNat := by rw [BitVec.toNat_ofInt]; rfl
  have h5 : (BitVec.ofInt 64 a ^^^ BitVec.ofInt 64 1).toNat = (BitVec.ofInt 64 a).toNat := by rw [h4]; omega
  have h6 : BitVec.ofInt 64 a ^^^ BitVec.ofInt 64 1 = BitVec.ofInt 64 a := BitVec.eq_of_toNat_eq h5
  have h7 := congrArg (fun x => BitVec.ofInt 64 a ^^^ x) h6
  simp only [← BitVec.xor_assoc, BitVec.xor_self, BitVec.zero_xor] at h7
  exact absurd h7 (by decide)
end Go.Proofs.Ytlkckkagoommaaa
