/- Rows of numbers as they lie in memory. No program's function. -/
import Derived.Test.YthhjioeipjnjmaaRdK
namespace Go.Proofs.Ythhjioeipjnjmaa
open Go.RowKit

/-- a number's cell -/
def inE (n : Int) : List Value := [.int .i64 n]
theorem inE_length (n : Int) : (inE n).length = 1 := rfl
theorem inE_one (n : Int) : ∀ u ∈ inE n, u.oneCell' = true := by
  intro u hu
  obtain rfl : u = .int .i64 n := by simpa [inE] using hu
  rfl
theorem RdKI.at_ {w : World} {A : Option Addr} {l : List Int} (h : RdK inE w A l) (i : Nat) (hi : i < l.length) : ∃ ad, A = some ad ∧ w.cell? (ad.add i) = some (.int .i64 l[i]) := by
  obtain ⟨ad, b, off, h1, h2, _, h3⟩ := RdK.at_ h 1 inE_length (by omega) i hi
  rw [Nat.mul_one] at h2
  exact ⟨ad, h1, by rw [h2]; exact h3 0 _ rfl⟩
end Go.Proofs.Ythhjioeipjnjmaa
