/- cron.Spec in plain words; cron.Spec.has, cron.Spec.Check. For every spec. -/
import Derived.Test.YtoabloeechphkaaDoorCronG
import Derived.Test.YtoabloeechphkaaDoorTw
namespace Go.Proofs.YtoabloeechphkaaDoor
open Go.RowKit

/-- five fields -/
structure SD where
  set : Nat → Nat
  any : Nat → Bool
/-- as the program lays it -/
def SD.row (c : SD) : Array Value := #[.int .u64 (c.set 0 : Nat), .int .u64 (c.set 1 : Nat), .int .u64 (c.set 2 : Nat), .int .u64 (c.set 3 : Nat), .int .u64 (c.set 4 : Nat), .bool (c.any 0), .bool (c.any 1), .bool (c.any 2), .bool (c.any 3), .bool (c.any 4)]
def SD.val (c : SD) : Value := .agg c.row
def SD.Ok (c : SD) : Prop := ∀ f, f < 5 → c.set f < 18446744073709551616
def SD.has (c : SD) (f n : Nat) : Bool := (c.set f).testBit n

theorem ask_eq (s n : Nat) (hs : s < 18446744073709551616) : (bits .and .u64 ((s : Int) / 2 ^ n) 1 == 1) = s.testBit n := by
  have h := bit_ask s n hs
  have e : ((s / 2 ^ n : Nat) : Int) = (s : Int) / 2 ^ n := by simp
  rw [← e, h]
  cases s.testBit n <;> rfl

set_option maxRecDepth 20000 in
set_option maxHeartbeats 800000 in
theorem has_any (c : SD) (hc : c.Ok) (f n : Nat) (hf : f < 5) (hn : n < 64) (w : World) :
    Calls Tryd.prog 33 #[c.val, .int .i64 f, .int .i64 n] w fun e w' => e = .returned (.bool (c.has f n)) ∧ Touch [] w w' := by
  have hq := ask_eq (c.set f) n (hc f hf)
  have Hq := Lib.hid hq
  clear hq
  have t0 := (Touch.refl [] w).alloc (.cells c.row 27)
  unfold SD.val SD.row at *
  have hcs : f = 0 ∨ f = 1 ∨ f = 2 ∨ f = 3 ∨ f = 4 := by omega
  go_enter Tryd.func33, Tryd.ntmps33
  rcases hcs with rfl | rfl | rfl | rfl | rfl
  all_goals
    go_wp2
    go_ret
    exact ⟨ret_bool Hq.out, t0⟩

/-- is a field right? -/
def fldR (f s : Nat) (any : Bool) : Bool := !decide (s = 0) && (decide (s &&& (18446744073709551615 - fullV f) = 0) && (!any || decide (s = fullV f)))
def SD.right (c : SD) : Bool := (List.range 5).all fun f => fldR f (c.set f) (c.any f)
/-- the error's number -/
def SD.err (c : SD) : Int := if c.right then 0 else 30
theorem SD.err_no {c : SD} (h : c.right = false) : c.err = 30 := by unfold SD.err; rw [h]; rfl
theorem SD.err_yes {c : SD} (h : c.right = true) : c.err = 0 := by unfold SD.err; rw [h]; rfl

set_option maxRecDepth 20000 in
set_option maxHeartbeats 1600000 in
theorem check_any (c : SD) (hc : c.Ok) (w : World) (hG : Gc w) :
    Calls Tryd.prog 14 #[c.val] w fun e w' => e = .returned (.int .i64 c.err) ∧ Touch [] w w' := by
  have t0 := (Touch.refl [] w).alloc (.cells c.row 27)
  have hG0 := hG.touch0 t0
  have hb := heap_alloc_new w (.cells c.row 27)
  have hcell : ∀ f, f < 5 → (w.alloc (.cells c.row 27)).cell? ⟨w.heap.size, 5 + f, none⟩ = some (.bool (c.any f)) := fun f hf => cell_blk hb (by
    have : f = 0 ∨ f = 1 ∨ f = 2 ∨ f = 3 ∨ f = 4 := by omega
    rcases this with rfl | rfl | rfl | rfl | rfl <;> rfl)
  have Hcell := Lib.hid hcell
  have HG := Lib.hid hG0
  clear hcell hG hb hG0
  have i0 : ∀ w, (Instr.index 24 (.agg #[.int .u64 (c.set 0 : Nat), .int .u64 (c.set 1 : Nat), .int .u64 (c.set 2 : Nat), .int .u64 (c.set 3 : Nat), .int .u64 (c.set 4 : Nat)]) (.int .i64 0)).run Tryd.prog w = .ok (.int .u64 (c.set 0 : Nat)) w := fun _ => by kernel_rfl
  have i1 : ∀ w, (Instr.index 24 (.agg #[.int .u64 (c.set 0 : Nat), .int .u64 (c.set 1 : Nat), .int .u64 (c.set 2 : Nat), .int .u64 (c.set 3 : Nat), .int .u64 (c.set 4 : Nat)]) (.int .i64 1)).run Tryd.prog w = .ok (.int .u64 (c.set 1 : Nat)) w := fun _ => by kernel_rfl
  have i2 : ∀ w, (Instr.index 24 (.agg #[.int .u64 (c.set 0 : Nat), .int .u64 (c.set 1 : Nat), .int .u64 (c.set 2 : Nat), .int .u64 (c.set 3 : Nat), .int .u64 (c.set 4 : Nat)]) (.int .i64 2)).run Tryd.prog w = .ok (.int .u64 (c.set 2 : Nat)) w := fun _ => by kernel_rfl
  have i3 : ∀ w, (Instr.index 24 (.agg #[.int .u64 (c.set 0 : Nat), .int .u64 (c.set 1 : Nat), .int .u64 (c.set 2 : Nat), .int .u64 (c.set 3 : Nat), .int .u64 (c.set 4 : Nat)]) (.int .i64 3)).run Tryd.prog w = .ok (.int .u64 (c.set 3 : Nat)) w := fun _ => by kernel_rfl
  have i4 : ∀ w, (Instr.index 24 (.agg #[.int .u64 (c.set 0 : Nat), .int .u64 (c.set 1 : Nat), .int .u64 (c.set 2 : Nat), .int .u64 (c.set 3 : Nat), .int .u64 (c.set 4 : Nat)]) (.int .i64 4)).run Tryd.prog w = .ok (.int .u64 (c.set 4 : Nat)) w := fun _ => by kernel_rfl
  unfold SD.val SD.row
  go_enter Tryd.func14, Tryd.ntmps14
  go_wp2_with fail
  obtain ⟨W, hW⟩ : ∃ W, W = w.alloc (.cells c.row 27) := ⟨_, rfl⟩
  have hW2 := hW
  unfold SD.row at hW2
  rw [← hW2]
  rw [← hW] at Hcell HG t0
  have HW := Lib.hid hW
  clear hW hW2
  go_loopw [8] (fun i wr => ∃ k : Nat, k ≤ 5 ∧ i = .int .i64 k ∧ Hid (∀ f, f < k → fldR f (c.set f) (c.any f) = true) ∧ Touch [] W wr) (fun i _ => 5 - (intOf i).toNat)
  case atStart => exact ⟨0, by omega, rfl, Lib.hid (fun f hf => by omega), Touch.refl _ _⟩
  case round =>
    obtain ⟨k, hk, rfl, hall, ht⟩ := hrel
    by_cases hlt : k < 5
    · have hcl := ht.cell (Hcell.out k hlt) (by simp)
      have hs := hc k hlt
      have hfull := full_any k hlt wr (HG.out.touch0 ht)
      have hna := u64_andNot_nat (c.set k) (fullV k) hs (fullV_lt k)
      have hno : fldR k (c.set k) (c.any k) = false → c.right = false := fun h => by
        unfold SD.right
        rw [List.all_eq_false]
        exact ⟨k, List.mem_range.2 hlt, by rw [h]; simp⟩
      have hyes : fldR k (c.set k) (c.any k) = true → ∀ f, f < k + 1 → fldR f (c.set f) (c.any f) = true := fun h f hf => by
        by_cases hfk : f = k
        · subst hfk; exact h
        · exact hall.out f (by omega)
      have Hno := Lib.hid hno; have Hyes := Lib.hid hyes; have Hfull := Lib.hid hfull; have Hna := Lib.hid hna
      clear hno hyes hfull hna hs hall
      obtain ⟨s, hs⟩ : ∃ s, s = c.set k := ⟨_, rfl⟩
      obtain ⟨F, hF⟩ : ∃ F, F = fullV k := ⟨_, rfl⟩
      rw [← hs, ← hF] at Hna
      rw [← hF] at Hfull
      rw [← hs] at Hno Hyes
      have hfld : ∀ b, fldR k s b = (!decide (s = 0) && (decide (s &&& (18446744073709551615 - F) = 0) && (!b || decide (s = F)))) := fun b => by rw [hF]; rfl
      have Hfld := Lib.hid hfld
      clear hfld
      have HF := Lib.hid hF
      clear hF
      obtain ⟨x, hx⟩ : ∃ x, x = c.any k := ⟨_, rfl⟩
      rw [← hx] at Hno Hyes hcl
      have hkc : k = 0 ∨ k = 1 ∨ k = 2 ∨ k = 3 ∨ k = 4 := by omega
      have Hx := Lib.hid hx
      clear hx
      have hidx : ∀ w, (Instr.index 24 (.agg #[.int .u64 (c.set 0 : Nat), .int .u64 (c.set 1 : Nat), .int .u64 (c.set 2 : Nat), .int .u64 (c.set 3 : Nat), .int .u64 (c.set 4 : Nat)]) (.int .i64 k)).run Tryd.prog w = .ok (.int .u64 s) w := fun w => by
        rw [hs]
        rcases hkc with rfl | rfl | rfl | rfl | rfl
        · exact i0 w
        · exact i1 w
        · exact i2 w
        · exact i3 w
        · exact i4 w
      have Hs := Lib.hid hs
      clear i0 i1 i2 i3 i4 hs hkc
      have hk0 : (0 : Int) ≤ (k : Int) := by omega
      have hk5 : (k : Int) < 5 := by omega
      by_cases z0 : s = 0
      · have z1 : ((s : Int) == 0) = true := by rw [beq_iff_eq]; omega
        have Hn := Lib.hid (SD.err_no (Hno.out (by rw [Hfld.out, z0]; rfl)))
        clear z0
        go_wp2_with fail
        refine Hfull.out.mono ?_
        rintro e w1 ⟨rfl, nq, rfl⟩
        go_wp2_with fail
        go_ret
        exact ⟨by rw [Hn.out]; rfl, t0.trans0 (ht.drewN nq)⟩
      have z1 : ((s : Int) == 0) = false := by rw [beq_eq_false_iff_ne]; omega
      by_cases y0 : s &&& (18446744073709551615 - F) = 0
      · have y1 : (bits .andNot .u64 (s : Int) (F : Int) == 0) = true := by rw [Hna.out, y0]; rfl
        have y2 : (bits .andNot .u64 (s : Int) (F : Int) != 0) = false := by rw [Hna.out, y0]; rfl
        have Hfld2 : Hid (∀ b, fldR k s b = (!b || decide (s = F))) := Lib.hid (fun b => by rw [Hfld.out, decide_eq_true y0, decide_eq_false z0]; simp)
        clear y0 Hfld z0 Hna
        rcases x with _ | _
        · have Hy := Lib.hid (Hyes.out (by rw [Hfld2.out]; rfl))
          go_wp2_with fail
          refine Hfull.out.mono ?_
          rintro e w1 ⟨rfl, nq, rfl⟩
          go_wp2_with fail
          go_roundw
          case rel => exact ⟨k + 1, by omega, by go_num, Hy, ht.drewN nq⟩
          case measure => simp [intOf]; omega
        · by_cases f0 : s = F
          · have Hy := Lib.hid (Hyes.out (by rw [Hfld2.out]; simp [f0]))
            have f1 : ((s : Int) == (F : Int)) = true := by rw [beq_iff_eq]; omega
            have f2 : ((s : Int) != (F : Int)) = false := by rw [bne, f1]; rfl
            clear f0
            go_wp2_with fail
            refine Hfull.out.mono ?_
            rintro e w1 ⟨rfl, nq, rfl⟩
            go_wp2_with fail
            go_roundw
            case rel => exact ⟨k + 1, by omega, by go_num, Hy, ht.drewN nq⟩
            case measure => simp [intOf]; omega
          · have Hn := Lib.hid (SD.err_no (Hno.out (by rw [Hfld2.out]; simp [f0])))
            have f1 : ((s : Int) == (F : Int)) = false := by rw [beq_eq_false_iff_ne]; omega
            have f2 : ((s : Int) != (F : Int)) = true := by rw [bne, f1]; rfl
            clear f0
            go_wp2_with fail
            refine Hfull.out.mono ?_
            rintro e w1 ⟨rfl, nq, rfl⟩
            go_wp2_with fail
            go_ret
            exact ⟨by rw [Hn.out]; rfl, t0.trans0 (ht.drewN nq)⟩
      · have y1 : (bits .andNot .u64 (s : Int) (F : Int) == 0) = false := by rw [Hna.out, beq_eq_false_iff_ne]; omega
        have y2 : (bits .andNot .u64 (s : Int) (F : Int) != 0) = true := by rw [bne, y1]; rfl
        have Hn := Lib.hid (SD.err_no (Hno.out (by rw [Hfld.out, decide_eq_false y0, decide_eq_false z0]; rfl)))
        clear y0 z0 Hfld Hna
        go_wp2_with fail
        refine Hfull.out.mono ?_
        rintro e w1 ⟨rfl, nq, rfl⟩
        go_wp2_with fail
        go_ret
        exact ⟨by rw [Hn.out]; rfl, t0.trans0 (ht.drewN nq)⟩
    · obtain rfl : k = 5 := by omega
      have hr : c.right = true := by
        unfold SD.right
        rw [List.all_eq_true]
        exact fun f hf => hall.out f (List.mem_range.1 hf)
      have Hr := Lib.hid (SD.err_yes hr)
      clear hr hall i0 i1 i2 i3 i4
      go_wp2_with fail
      go_ret
      exact ⟨by rw [Hr.out]; rfl, t0.trans0 ht⟩
end Go.Proofs.YtoabloeechphkaaDoor
