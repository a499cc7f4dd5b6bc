/- the law's right; bywashref10.Match: a minute matches as the document says just if the program says so. -/
import Derived.Test.YtoabloeechphkaaDoorCronRight
import Derived.Test.YtoabloeechphkaaDoorCronRof
namespace Go.Proofs.YtoabloeechphkaaDoor
open Go.RowKit

/-- the document's fields in a variable of their own -/
theorem alloc_setRow (w : World) (cur cs : Array Value) (t : TypeId) : (w.alloc (.cells cur t)).setRow w.heap.size cs = w.alloc (.cells cs t) := by
  unfold World.setRow World.alloc
  congr 1
  apply Array.ext
  · simp
  · intro i h1 h2
    simp only [Array.getElem_modify]
    by_cases hi : w.heap.size = i
    · subst hi; simp
    · have h3 : i < w.heap.size := by simp at h2; omega
      simp [hi, Array.getElem_push, h3]
theorem run_store34 (c : SD) (w : World) : (storeCells ⟨w.heap.size, 0, none⟩ (refC c)).run Tryd.prog (w.alloc (.cells Tryd.zeroCells34 34)) = .ok () (w.alloc (.cells (refC c).toArray 34)) := by
  rw [run_store_row (heap_alloc_new w _) (refC_size34 c) (refC_one c), alloc_setRow]
theorem size33 : (Tryd.prog.info? 33).map (·.size) = some 65 := by kernel_rfl
theorem info33 (s : Nat) (any : Bool) : (Tryd.prog.info? 33).map (·.size) = some (fldC s any).length := by rw [fldC_length, size33]
theorem range_fld {w : World} {B : Nat} {c : SD} {t : TypeId} (h : w.heap[B]? = some (.cells (refC c).toArray t (0, 0))) (f : Nat) (hf : f < 5) : w.rangeAt B (f * 65) (fldC (c.set f) (c.any f)) := fun j v hv =>
  cell_blk h (by rw [List.getElem?_toArray]; exact fldC_ref c f hf j v hv)

set_option maxRecDepth 100000 in
set_option maxHeartbeats 3200000 in
theorem lright_any (c : SD) (hc : c.Ok) (w : World) :
    Calls Tryd.prog 13 #[c.val] w fun e w' => e = .returned (.bool c.right) ∧ Touch [] w w' := by
  have t0 := (Touch.refl [] w).alloc (.cells c.row 27)
  have hS := specAt_new w c
  have hR := fun w' => ref_any c hc w'
  unfold SD.val SD.row at *
  have HR := Lib.hid hR
  clear hR
  obtain ⟨s0, s1, s2, s3, s4, a0, a1, a2, a3, a4⟩ := hS
  go_enter Tryd.func13, Tryd.ntmps13
  go_wp2_with fail
  refine (HR.out _).mono ?_
  rintro e w1 ⟨rfl, t1⟩
  have hst := run_store34 c w1
  go_wp2_with fail
  clear hst s0 s1 s2 s3 s4 a0 a1 a2 a3 a4
  have tW := (t0.trans0 t1).alloc (.cells (refC c).toArray 34)
  have hb := heap_alloc_new w1 (.cells (refC c).toArray 34)
  obtain ⟨W, hW⟩ : ∃ W, W = w1.alloc (.cells (refC c).toArray 34) := ⟨_, rfl⟩
  rw [← hW] at tW hb ⊢
  have HB := Lib.hid hb
  clear hW hb
  go_loopw [7] (fun i wr => ∃ k : Nat, k ≤ 5 ∧ i = .int .i64 k ∧ Hid (∀ f, f < k → fldR f (c.set f) (c.any f) = true) ∧ Touch [] W wr) (fun i _ => 5 - (intOf i).toNat)
  case atStart => exact ⟨0, by omega, rfl, Lib.hid (fun f hf => by omega), Touch.refl _ _⟩
  case round =>
    obtain ⟨k, hk, rfl, hall, ht⟩ := hrel
    by_cases hlt : k < 5
    · have hrng := range_fld (ht.blk HB.out (by simp)) k hlt
      have hri := right_any k hlt (c.set k) (hc k hlt) (c.any k)
      have hno : fldR k (c.set k) (c.any k) = false → c.right = false := fun h => by
        unfold SD.right
        rw [List.all_eq_false]
        exact ⟨k, List.mem_range.2 hlt, by rw [h]; simp⟩
      have hyes : fldR k (c.set k) (c.any k) = true → ∀ f, f < k + 1 → fldR f (c.set f) (c.any f) = true := fun h f hf => by
        by_cases hfk : f = k
        · subst hfk; exact h
        · exact hall.out f (by omega)
      have Hrng := Lib.hid hrng
      have Hri := Lib.hid hri; have Hno := Lib.hid hno; have Hyes := Lib.hid hyes
      have k0 : (0 : Int) ≤ (k : Int) := by omega
      have k1 : (k : Int) < 5 := by omega
      clear hrng hri hno hyes hall
      rcases hv : fldR k (c.set k) (c.any k) with _ | _
      · have Hn := Lib.hid (Hno.out hv)
        rw [hv] at Hri
        clear hv
        go_wp2_with (refine wpList_load_mid rfl 33 (.tmp 12) rfl w1.heap.size (k * 65) rfl _ _ Hrng.out Tryd.underlying33 rfl (info33 _ _) ?_)
        refine (Hri.out _).mono ?_
        rintro e w2 ⟨rfl, t2⟩
        go_wp2_with fail
        go_ret
        exact ⟨ret_bool (by rw [Hn.out]), (tW.trans0 ht).trans0 t2⟩
      · have Hy := Lib.hid (Hyes.out hv)
        rw [hv] at Hri
        clear hv
        go_wp2_with (refine wpList_load_mid rfl 33 (.tmp 12) rfl w1.heap.size (k * 65) rfl _ _ Hrng.out Tryd.underlying33 rfl (info33 _ _) ?_)
        refine (Hri.out _).mono ?_
        rintro e w2 ⟨rfl, t2⟩
        go_wp2_with fail
        go_roundw
        case rel => exact ⟨k + 1, by omega, by go_num, Hy, ht.trans0 t2⟩
        case measure => simp [intOf]; omega
    · obtain rfl : k = 5 := by omega
      have hr : c.right = true := by
        unfold SD.right
        rw [List.all_eq_true]
        exact fun f hf => hall.out f (List.mem_range.1 hf)
      have Hr := Lib.hid hr
      clear hr hall
      go_wp2_with fail
      go_ret
      exact ⟨ret_bool (by rw [Hr.out]), tW.trans0 ht⟩
end Go.Proofs.YtoabloeechphkaaDoor
