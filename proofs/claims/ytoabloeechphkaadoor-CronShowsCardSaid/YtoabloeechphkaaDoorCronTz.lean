/- math/bits.TrailingZeros64 at this program; the lowest bit of a set. -/
import Derived.Test.YtoabloeechphkaaDoorCronShP
import Derived.Shelf.Spec.TrailingZeros
namespace Go.Proofs.YtoabloeechphkaaDoor
open Go.RowKit

/-- the table as it is laid -/
def Gz (w : World) : Prop := ∀ j, j < 64 → w.cell? ⟨2, j, none⟩ = some (.int .u8 ((Lib.deBruijn64tab.getD j 0 : Nat) : Int))
theorem Gz.touch0 {w w' : World} (h : Gz w) (t : Touch [] w w') : Gz w' := fun j hj => t.cell (h j hj) (by simp)

set_option maxHeartbeats 1000000 in
theorem tz_core (x k idx : Nat) (w : World) (hx0 : ((x : Int) == 0) = false)
    (key : IntKind.u64.wrap (bits BinOp.and IntKind.u64 (x : Int) (IntKind.u64.wrap (-(x : Int))) * 285870213051353865) / 288230376151711744 = (idx : Int))
    (hi : idx < 64) (hk : k < 64) (hcell : w.cell? ⟨2, idx, none⟩ = some (.int .u8 k)) :
    Calls Tryd.prog 52 #[.int .u64 x] w fun e w' => e = .returned (.int .i64 k) ∧ w' = w := by
  go_enter Tryd.func52, Tryd.ntmps52
  go_wp2_with (simp only [key])
  go_ret
  exact ⟨rfl, rfl⟩
theorem tz_any (x : Nat) (hx0 : x ≠ 0) (hx : x < 18446744073709551616) (w : World) (hT : Gz w) :
    Calls Tryd.prog 52 #[.int .u64 x] w fun e w' => e = .returned (.int .i64 (Lib.ctz 64 x)) ∧ w' = w := by
  obtain ⟨hlow, hk⟩ := Lib.lowest_bit 64 x hx0 hx
  obtain ⟨hi, htab⟩ := Lib.deBruijn64_at _ hk
  have hcell := hT _ hi
  rw [htab] at hcell
  exact tz_core x _ _ w (by rw [beq_eq_false_iff_ne]; omega) (tz64_key x _ hx hx0 hlow) hi hk hcell
theorem tz_zero (w : World) :
    Calls Tryd.prog 52 #[.int .u64 0] w fun e w' => e = .returned (.int .i64 64) ∧ w' = w := by
  go_enter Tryd.func52, Tryd.ntmps52
  go_wp2
  go_ret
  exact ⟨rfl, rfl⟩
/-- the lowest bit -/
theorem ctz_eq {x k : Nat} (hx : x < 18446744073709551616) (hk : k < 64) (h1 : x.testBit k = true) (h2 : ∀ j, j < k → x.testBit j = false) : x ≠ 0 ∧ Lib.ctz 64 x = k := by
  have hx0 : x ≠ 0 := fun e => by rw [e, Nat.zero_testBit] at h1; cases h1
  refine ⟨hx0, ?_⟩
  obtain ⟨m, hm, hl⟩ := Lib.ctzFrom_spec 64 x (by omega) hx
  have hc : Lib.ctz 64 x = Lib.ctzFrom 64 x := if_neg hx0
  rw [hc]
  obtain ⟨c, hce⟩ : ∃ c, c = Lib.ctzFrom 64 x := ⟨_, rfl⟩
  rw [← hce] at hm hl ⊢
  have hb : ∀ j, x.testBit j = (decide (c ≤ j) && (2 * m + 1).testBit (j - c)) := fun j => by
    rw [hm, Nat.mul_comm, ← Nat.shiftLeft_eq, Nat.testBit_shiftLeft]
  have hcb : x.testBit c = true := by rw [hb, decide_eq_true (Nat.le_refl c), Nat.sub_self]; simp [Nat.testBit_zero]
  rcases Nat.lt_trichotomy c k with h | h | h
  · rw [h2 c h] at hcb; cases hcb
  · exact h
  · rw [hb, decide_eq_false (by omega)] at h1; cases h1
end Go.Proofs.YtoabloeechphkaaDoor
