/- the law's ref: a spec as the document's fields. -/
import Derived.Test.YtoabloeechphkaaDoorCronDay
import Derived.Deep.MidRow
namespace Go.Proofs.YtoabloeechphkaaDoor
open Go.RowKit

/-- the document's five fields, cell by cell -/
def refAt (c : SD) (i : Nat) : Bool := if i % 65 = 64 then c.any (i / 65) else (c.set (i / 65)).testBit (i % 65)
def refC (c : SD) : List Value := (List.range 325).map fun i => Value.bool (refAt c i)
theorem refC_length (c : SD) : (refC c).length = 325 := by simp [refC]
theorem refC_get (c : SD) (i : Nat) (h : i < 325) : (refC c)[i]? = some (.bool (refAt c i)) := by
  unfold refC
  rw [List.getElem?_map, List.getElem?_range h]; rfl

theorem zero34 : Tryd.zeroCells34.size = 325 := by kernel_rfl

theorem refC_one (c : SD) : ∀ v ∈ refC c, v.oneCell' = true := by
  intro v hv
  obtain ⟨i, _, rfl⟩ := List.mem_map.1 hv
  rfl
theorem refC_size34 (c : SD) : (refC c).length = Tryd.zeroCells34.size := by rw [refC_length, zero34]
theorem size34 : (Tryd.prog.info? 34).map (·.size) = some 325 := by kernel_rfl
theorem info34 (c : SD) : (Tryd.prog.info? 34).map (·.size) = some (refC c).toArray.size := by rw [List.size_toArray, refC_length, size34]
theorem Touch.setRow (g : Nat) (w : World) (cs : Array Value) : Touch [g] w (w.setRow g cs) :=
  ⟨rfl, rfl, rfl, by simp, fun k _ hn => setRow_other w g k cs (fun e => hn (by simp [e]))⟩
/-- a whole row is stored -/
theorem run_store_row {P : Program} {w : World} {g : Nat} {cur : Array Value} {t : TypeId} {vs : List Value} (hg : w.heap[g]? = some (.cells cur t (0, 0))) (hl : vs.length = cur.size) (h1 : ∀ v ∈ vs, v.oneCell' = true) :
    (storeCells ⟨g, 0, none⟩ vs).run P w = .ok () (w.setRow g vs.toArray) := by
  have := run_storeCells_from (P := P) g t vs 0 cur w hg (by omega) h1
  simpa using this
/-- a block in which the cells of a set of places hold what they are to hold -/
structure PartAt (w : World) (B : Nat) (c : SD) (p : Nat → Prop) : Prop where
  blk : ∃ cs : Array Value, w.heap[B]? = some (.cells cs 34 (0, 0)) ∧ cs.size = 325 ∧ ∀ i, i < 325 → p i → cs[i]? = some (.bool (refAt c i))
theorem PartAt.touch {fp : List Nat} {w w' : World} {B : Nat} {c : SD} {p : Nat → Prop} (h : PartAt w B c p) (t : Touch fp w w') (hB : B ∉ fp) : PartAt w' B c p := by
  obtain ⟨cs, h1, h2, h3⟩ := h.blk
  exact ⟨cs, t.blk h1 hB, h2, h3⟩
theorem PartAt.drew {w : World} {B : Nat} {c : SD} {p : Nat → Prop} (h : PartAt w B c p) : PartAt w.drew B c p := by
  obtain ⟨cs, h1, h2, h3⟩ := h.blk
  exact ⟨cs, h1, h2, h3⟩
theorem PartAt.mono {w : World} {B : Nat} {c : SD} {p q : Nat → Prop} (h : PartAt w B c p) (hq : ∀ i, i < 325 → q i → p i) : PartAt w B c q := by
  obtain ⟨cs, h1, h2, h3⟩ := h.blk
  exact ⟨cs, h1, h2, fun i hi hqi => h3 i hi (hq i hi hqi)⟩
theorem PartAt.there {w : World} {B : Nat} {c : SD} {p : Nat → Prop} (h : PartAt w B c p) (i : Nat) (hi : i < 325) : (∃ v, w.cell? ⟨B, i, none⟩ = some v) ∧ w.frozen? ⟨B, i, none⟩ = false := by
  obtain ⟨cs, h1, h2, h3⟩ := h.blk
  exact ⟨⟨cs[i]'(by omega), cell_blk h1 (by rw [Array.getElem?_eq_getElem])⟩, by simp [World.frozen?, h1]⟩
theorem PartAt.set {w : World} {B : Nat} {c : SD} {p : Nat → Prop} (h : PartAt w B c p) (i : Nat) (hi : i < 325) (v : Bool) (hv : v = refAt c i) : PartAt (w.setCell ⟨B, i, none⟩ (.bool v)) B c (fun j => p j ∨ j = i) := by
  obtain ⟨cs, h1, h2, h3⟩ := h.blk
  subst hv
  refine ⟨_, set_blk h1 i _, by rw [Array.size_setIfInBounds]; exact h2, fun j hj hp => ?_⟩
  rw [Array.getElem?_setIfInBounds]
  by_cases hij : i = j
  · subst hij; rw [if_pos rfl, if_pos (by omega)]
  · rw [if_neg hij]
    rcases hp with hp | hp
    · exact h3 j hj hp
    · exact absurd hp.symm hij
theorem PartAt.all {w : World} {B : Nat} {c : SD} (h : PartAt w B c (fun _ => True)) : w.heap[B]? = some (.cells (refC c).toArray 34 (0, 0)) := by
  obtain ⟨cs, h1, h2, h3⟩ := h.blk
  have : cs = (refC c).toArray := by
    apply Array.ext_getElem?
    intro i
    rcases Nat.lt_or_ge i 325 with hi | hi
    · rw [h3 i hi trivial, List.getElem?_toArray, refC_get c i hi]
    · rw [Array.getElem?_eq_none (by omega), List.getElem?_toArray, List.getElem?_eq_none (by rw [refC_length]; exact hi)]
  rw [h1, this]
theorem refAt_any (c : SD) (f : Nat) : refAt c (f * 65 + 64) = c.any f := by
  unfold refAt
  rw [if_pos (by omega)]
  congr 1; omega
theorem refAt_bit (c : SD) (f n : Nat) (hn : n < 64) : refAt c (f * 65 + n) = (c.set f).testBit n := by
  unfold refAt
  rw [if_neg (by omega)]
  have e1 : (f * 65 + n) / 65 = f := by omega
  have e2 : (f * 65 + n) % 65 = n := by omega
  rw [e1, e2]

set_option maxRecDepth 100000 in
set_option maxHeartbeats 3200000 in
theorem ref_any (c : SD) (hc : c.Ok) (w : World) :
    Calls Tryd.prog 12 #[c.val] w fun e w' => e = .returned (.agg (refC c).toArray) ∧ Touch [] w w' := by
  have t1 := (Touch.refl [] w).alloc (.cells c.row 27)
  have t2 := t1.alloc (.cells Tryd.zeroCells34 34)
  have t3 := t2.alloc (.cells Tryd.zeroCells34 34)
  have hS := (specAt_new w c).touch0 (((Touch.refl [] _).alloc (.cells Tryd.zeroCells34 34)).alloc (.cells Tryd.zeroCells34 34))
  have hb2 := ((Touch.refl [] _).alloc (.cells Tryd.zeroCells34 34)).blk (heap_alloc_new (w.alloc (.cells c.row 27)) (.cells Tryd.zeroCells34 34)) (by simp)
  have hb3 := heap_alloc_new ((w.alloc (.cells c.row 27)).alloc (.cells Tryd.zeroCells34 34)) (.cells Tryd.zeroCells34 34)
  simp only [World.size_alloc] at hb2 hb3
  obtain ⟨W, hW⟩ : ∃ W, W = ((w.alloc (.cells c.row 27)).alloc (.cells Tryd.zeroCells34 34)).alloc (.cells Tryd.zeroCells34 34) := ⟨_, rfl⟩
  have hW2 := hW
  unfold SD.row at hW2
  rw [← hW] at t3 hS hb2 hb3
  have HW := Lib.hid hW2
  have HS := Lib.hid hS
  have HB2 := Lib.hid hb2
  have hP0 : PartAt W (w.heap.size + 1 + 1) c (fun _ => False) := ⟨_, hb3, zero34, fun _ _ h => h.elim⟩
  clear hW hW2 hS hb2 hb3 t1 t2
  unfold SD.val SD.row
  go_enter Tryd.func12, Tryd.ntmps12
  go_wp2_with fail
  rw [← HW.out]
  go_loopw [6] (fun i wr => ∃ k : Nat, k ≤ 5 ∧ i = .int .i64 k ∧ PartAt wr (w.heap.size + 1 + 1) c (fun j => j < k * 65) ∧ Touch [w.heap.size + 1 + 1] W wr) (fun i _ => 5 - (intOf i).toNat)
  case atStart => exact ⟨0, by omega, rfl, hP0.mono (fun i _ h => by omega), Touch.refl _ _⟩
  case round =>
    obtain ⟨k, hk, rfl, hP, ht⟩ := hrel
    clear hP0
    have hS := HS.out.touch ht (by simp; omega)
    by_cases hlt : k < 5
    · have hset : wr.cell? ⟨w.heap.size, k, none⟩ = some (.int .u64 (c.set k : Nat)) := by
        have : k = 0 ∨ k = 1 ∨ k = 2 ∨ k = 3 ∨ k = 4 := by omega
        rcases this with rfl | rfl | rfl | rfl | rfl
        · exact hS.s0
        · exact hS.s1
        · exact hS.s2
        · exact hS.s3
        · exact hS.s4
      have hany : wr.cell? ⟨w.heap.size, 5 + k, none⟩ = some (.bool (c.any k)) := by
        have : k = 0 ∨ k = 1 ∨ k = 2 ∨ k = 3 ∨ k = 4 := by omega
        rcases this with rfl | rfl | rfl | rfl | rfl
        · exact hS.a0
        · exact hS.a1
        · exact hS.a2
        · exact hS.a3
        · exact hS.a4
      obtain ⟨⟨v0, hv0⟩, hf0⟩ := hP.there (k * 65 + 64) (by omega)
      have hP1 := hP.set (k * 65 + 64) (by omega) (c.any k) (refAt_any c k).symm
      have ht1 := ht.trans ((Touch.refl [w.heap.size + 1 + 1] wr).setCell (p := ⟨w.heap.size + 1 + 1, k * 65 + 64, none⟩) (.inl (by simp)) (.bool (c.any k))) (fun b hb => .inl hb)
      have hP1' := Lib.hid hP1; have ht1' := Lib.hid ht1
      have hset1 := Lib.hid (((Touch.refl [w.heap.size + 1 + 1] wr).setCell (p := ⟨w.heap.size + 1 + 1, k * 65 + 64, none⟩) (.inl (by simp)) (.bool (c.any k))).cell hset (by simp; omega))
      have i0 : (0 : Int) ≤ (k : Int) := by omega
      have i1 : (k : Int) < 5 := by omega
      clear hP1 ht1 hS hset
      go_wp2_with fail
      obtain ⟨W1, hW1⟩ : ∃ W1, W1 = wr.setCell ⟨w.heap.size + 1 + 1, k * 65 + 64, none⟩ (.bool (c.any k)) := ⟨_, rfl⟩
      rw [← hW1] at hP1' ht1' hset1 ⊢
      clear hW1 hv0 hf0 hany
      have hs := hc k hlt
      go_loopw [16] (fun i w2 => ∃ n : Nat, n ≤ 64 ∧ i = .int .i64 n ∧ PartAt w2 (w.heap.size + 1 + 1) c (fun j => j < k * 65 ∨ j = k * 65 + 64 ∨ j < k * 65 + n) ∧ Touch [w.heap.size + 1 + 1] W1 w2) (fun i _ => 64 - (intOf i).toNat)
      case atStart => exact ⟨0, by omega, rfl, hP1'.out.mono (fun i _ h => by omega), Touch.refl _ _⟩
      case round =>
        obtain ⟨n, hn, rfl, hQ, hu⟩ := hrel
        by_cases hlt2 : n < 64
        · have hset2 := hu.cell hset1.out (by simp; omega)
          obtain ⟨⟨v1, hv1⟩, hf1⟩ := hQ.there (k * 65 + n) (by omega)
          have hask := ask_eq (c.set k) n hs
          have hQ1 := hQ.set (k * 65 + n) (by omega) ((c.set k).testBit n) (refAt_bit c k n hlt2).symm
          have j0 : (0 : Int) ≤ (n : Int) := by omega
          have j1 : (n : Int) < 64 := by omega
          have Hask := Lib.hid hask; have HQ1 := Lib.hid hQ1
          clear hask hQ1
          go_wp2_with fail
          go_region
          rw [Hask.out]
          go_wp2_with fail
          go_roundw
          case rel =>
            exact ⟨n + 1, by omega, by go_num, (HQ1.out.mono (fun i _ h => by omega)).drew, (hu.setCell (.inl (by simp)) _).drew⟩
          case measure => simp [intOf]; omega
        · obtain rfl : n = 64 := by omega
          go_wp2_with fail
          go_roundw
          case rel => exact ⟨k + 1, by omega, by go_num, hQ.mono (fun i _ h => by omega), ht1'.out.trans hu (fun b hb => .inl hb)⟩
          case measure => simp [intOf]; omega
    · obtain rfl : k = 5 := by omega
      have hA := (hP.mono (q := fun _ => True) (fun i hi _ => by omega)).all
      have HA := Lib.hid hA
      have H2 := Lib.hid (ht.blk HB2.out (by simp))
      clear hA
      go_wp2_with fail
      have hst := run_store_row (P := Tryd.prog) H2.out (refC_size34 c) (refC_one c)
      refine wp_load_row _ _ rfl (w.heap.size + 1 + 1) rfl _ _ _ _ HA.out Tryd.underlying34 rfl (info34 c) ?_
      go_wp2_with fail
      refine bodyPost_ret (results_cell_row rfl _ _ (w.heap.size + 1) _ _ _ _ rfl (setRow_heap wr _ _ _ _ _ H2.out) Tryd.underlying34 rfl (info34 c)) rfl ⟨rfl, ?_⟩
      exact (t3.trans ht (fun b hb => .inr (by simp at hb; omega))).trans (Touch.setRow (w.heap.size + 1) wr _) (fun b hb => .inr (by simp at hb; omega))
end Go.Proofs.YtoabloeechphkaaDoor
