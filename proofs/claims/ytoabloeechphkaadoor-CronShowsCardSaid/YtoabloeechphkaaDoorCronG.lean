/- The package variables of layers 9 and 10, a spec in plain words; cron.full, cron.Spec.has, cron.Spec.Check. -/
import Derived.Test.YtoabloeechphkaaDoorCronRow
import Derived.Test.YtoabloeechphkaaDoorCal
import Derived.Test.YtoabloeechphkaaDoorRdK
namespace Go.Proofs.YtoabloeechphkaaDoor
open Go.RowKit

def loF (f : Nat) : Nat := if f = 2 ∨ f = 3 then 1 else 0
def hiF (f : Nat) : Nat := if f = 0 then 59 else if f = 1 then 23 else if f = 2 then 31 else if f = 3 then 12 else 6
theorem hiF_lt (f : Nat) : hiF f < 60 := by
  unfold hiF
  split
  · omega
  · split
    · omega
    · split
      · omega
      · split <;> omega
theorem loF_lt (f : Nat) : loF f < 2 := by unfold loF; split <;> omega
/-- days of a month of a year that is no leap year; 0: none -/
def lenM (m : Nat) : Nat := if m = 0 then 0 else if m = 2 then 28 else if m = 4 ∨ m = 6 ∨ m = 9 ∨ m = 11 then 30 else 31
/-- what the variables hold -/
structure Gc (w : World) : Prop where
  lo : ∀ f, f < 5 → w.cell? ⟨0, f * 2, none⟩ = some (.int .i64 (loF f : Nat))
  hi : ∀ f, f < 5 → w.cell? ⟨0, f * 2 + 1, none⟩ = some (.int .i64 (hiF f : Nat))
  mon : ∀ m, m < 13 → w.cell? ⟨1, m, none⟩ = some (.int .i64 (lenM m : Nat))
  len : ∃ m, w.cell? ⟨5, 0, none⟩ = some (.int .i64 m)
theorem Gc.touch0 {w w' : World} (h : Gc w) (t : Touch [] w w') : Gc w' :=
  ⟨fun f hf => t.cell (h.lo f hf) (by simp), fun f hf => t.cell (h.hi f hf) (by simp), fun m hm => t.cell (h.mon m hm) (by simp), h.len.imp fun _ hm => t.cell hm (by simp)⟩

/-- a callee that leaves the world alone, or only draws, in a region of quiet calls -/
theorem Calls.q0 {P : Program} {f : FuncId} {args : Array Value} {w : World} {n : Nat} {v : Value}
    (h : Calls P f args (w.drewN n) fun e w' => e = .returned v ∧ w.drewN n = w') : Calls P f args (w.drewN n) fun e w'' => e = .returned v ∧ ∃ m, w'' = w.drewN m :=
  h.mono fun _ _ ⟨he, hm⟩ => ⟨he, n, hm.symm⟩
theorem drew_touch {w w' : World} (h : ∃ n, w' = w.drewN n) : Touch [] w w' := by obtain ⟨n, rfl⟩ := h; exact (Touch.refl _ _).drewN n

def fullV (f : Nat) : Nat := rowV (loF f) (hiF f) 1
theorem fullV_lt (f : Nat) : fullV f < 18446744073709551616 := rowV_lt _ _ _
theorem fullV_bit (f j : Nat) (hj : j < 64) : (fullV f).testBit j = (decide (loF f ≤ j) && decide (j ≤ hiF f)) := by
  unfold fullV; rw [rowV_bit _ _ _ _ hj]; simp [rowP, Nat.mod_one]

set_option maxRecDepth 20000 in
set_option maxHeartbeats 400000 in
theorem full_any (f : Nat) (hf : f < 5) (w : World) (hG : Gc w) :
    Calls Tryd.prog 24 #[.int .i64 f] w fun e w' => e = .returned (.int .u64 (fullV f)) ∧ ∃ n, w' = w.drewN n := by
  have h1 := hG.lo f hf
  have h2 := hG.hi f hf
  have hl := loF_lt f
  have hh := hiF_lt f
  have hr : ∀ W, Calls Tryd.prog 43 #[.int .i64 (loF f : Nat), .int .i64 (hiF f : Nat), .int .i64 1] W fun e w' => e = .returned (.int .u64 (fullV f)) ∧ W = w' := fun W => row_any (loF f) (hiF f) 1 (by omega) (by omega) (by omega) (by omega) W
  have Hr := Lib.hid hr
  have i1 : (0 : Int) ≤ (f : Int) := by omega
  have i2 : (f : Int) < 5 := by omega
  clear hr hG hl hh
  go_enter Tryd.func24, Tryd.ntmps24
  go_wp2
  go_quiet ((go_at_call 43; exact Calls.q0 (Hr.out _)))
  go_wp2
  go_ret
  exact ⟨rfl, _, rfl⟩
end Go.Proofs.YtoabloeechphkaaDoor
