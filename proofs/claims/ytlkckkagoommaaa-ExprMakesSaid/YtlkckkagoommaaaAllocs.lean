/- A region that draws its order and makes three variables' blocks at any time beside its calls: one walk for all orders. No program's function. -/
import Derived.Test.YtlkckkagoommaaaTree
import Derived.Deep.DrawnRows
import Derived.Deep.RegionHeld3
namespace Go.Proofs.Ytlkckkagoommaaa
open Go.RowKit

/-- how many are not made yet -/
def cnt3 (b1 b2 b3 : Bool) : Nat := (!b1).toNat + (!b2).toNat + (!b3).toNat
/-- three blocks, each made or not -/
structure Al3 (N : Nat → Prop) (z : Obj) (b1 b2 b3 : Bool) (v1 v2 v3 : Value) (w : World) : Prop where
  p1 : b1 = true → ∃ g, v1 = .pointer (some ⟨g, 0, none⟩) ∧ N g ∧ w.heap[g]? = some z
  p2 : b2 = true → ∃ g, v2 = .pointer (some ⟨g, 0, none⟩) ∧ N g ∧ w.heap[g]? = some z
  p3 : b3 = true → ∃ g, v3 = .pointer (some ⟨g, 0, none⟩) ∧ N g ∧ w.heap[g]? = some z
  d12 : b1 = true → b2 = true → v1 ≠ v2
  d13 : b1 = true → b3 = true → v1 ≠ v3
  d23 : b2 = true → b3 = true → v2 ≠ v3
theorem Al3.init (N : Nat → Prop) (z : Obj) (v1 v2 v3 : Value) (w : World) : Al3 N z false false false v1 v2 v3 w := ⟨by simp, by simp, by simp, by simp, by simp, by simp⟩
theorem al_touch {w w' : World} {N : Nat → Prop} {z : Obj} {v : Value} (h : ∃ g, v = .pointer (some ⟨g, 0, none⟩) ∧ N g ∧ w.heap[g]? = some z) (t : Touch [] w w') : ∃ g, v = .pointer (some ⟨g, 0, none⟩) ∧ N g ∧ w'.heap[g]? = some z := by
  obtain ⟨g, h1, h2, h3⟩ := h
  exact ⟨g, h1, h2, t.blk h3 (by simp)⟩
theorem Al3.touch0 {N : Nat → Prop} {z : Obj} {b1 b2 b3 : Bool} {v1 v2 v3 : Value} {w w' : World} (h : Al3 N z b1 b2 b3 v1 v2 v3 w) (t : Touch [] w w') : Al3 N z b1 b2 b3 v1 v2 v3 w' :=
  ⟨fun e => al_touch (h.p1 e) t, fun e => al_touch (h.p2 e) t, fun e => al_touch (h.p3 e) t, h.d12, h.d13, h.d23⟩
/-- behind a call, that made none of the three -/
theorem al_next {N N' : Nat → Prop} {w w' : World} {z : Obj} {v : Value} (h : ∃ g, v = .pointer (some ⟨g, 0, none⟩) ∧ N g ∧ w.heap[g]? = some z) (t : Touch [] w w') (hN : ∀ g, N g → g < w.heap.size → N' g) : ∃ g, v = .pointer (some ⟨g, 0, none⟩) ∧ N' g ∧ w'.heap[g]? = some z := by
  obtain ⟨g, h1, h2, h3⟩ := h
  exact ⟨g, h1, hN g h2 (Array.getElem?_eq_some_iff.1 h3).1, t.blk h3 (by simp)⟩
theorem Al3.next {N N' : Nat → Prop} {z : Obj} {b1 b2 b3 : Bool} {v1 v2 v3 : Value} {w w' : World} (h : Al3 N z b1 b2 b3 v1 v2 v3 w) (t : Touch [] w w') (hN : ∀ g, N g → g < w.heap.size → N' g) : Al3 N' z b1 b2 b3 v1 v2 v3 w' :=
  ⟨fun e => al_next (h.p1 e) t hN, fun e => al_next (h.p2 e) t hN, fun e => al_next (h.p3 e) t hN, h.d12, h.d13, h.d23⟩
theorem al_new (w : World) (z : Obj) (N : Nat → Prop) (h : N w.heap.size) : ∃ g, Value.pointer (some ⟨w.heap.size, 0, none⟩) = .pointer (some ⟨g, 0, none⟩) ∧ N g ∧ (w.alloc z).heap[g]? = some z := ⟨_, rfl, h, heap_alloc_new w z⟩
theorem al_ne {w : World} {N : Nat → Prop} {z : Obj} {v : Value} (h : ∃ g, v = .pointer (some ⟨g, 0, none⟩) ∧ N g ∧ w.heap[g]? = some z) : Value.pointer (some ⟨w.heap.size, 0, none⟩) ≠ v := by
  obtain ⟨g, rfl, _, h3⟩ := h
  have := (Array.getElem?_eq_some_iff.1 h3).1
  intro e
  injection e with e
  injection e with e
  injection e with e
  omega
theorem Al3.new1 {N : Nat → Prop} {z : Obj} {b1 b2 b3 : Bool} {v1 v2 v3 : Value} {w : World} (h : Al3 N z b1 b2 b3 v1 v2 v3 w) (hn : N w.heap.size) : Al3 N z true b2 b3 (.pointer (some ⟨w.heap.size, 0, none⟩)) v2 v3 (w.alloc z) :=
  have t := (Touch.refl [] w).alloc z
  ⟨fun _ => al_new w z N hn, fun e => al_touch (h.p2 e) t, fun e => al_touch (h.p3 e) t, fun _ e => al_ne (h.p2 e), fun _ e => al_ne (h.p3 e), h.d23⟩
theorem Al3.new2 {N : Nat → Prop} {z : Obj} {b1 b2 b3 : Bool} {v1 v2 v3 : Value} {w : World} (h : Al3 N z b1 b2 b3 v1 v2 v3 w) (hn : N w.heap.size) : Al3 N z b1 true b3 v1 (.pointer (some ⟨w.heap.size, 0, none⟩)) v3 (w.alloc z) :=
  have t := (Touch.refl [] w).alloc z
  ⟨fun e => al_touch (h.p1 e) t, fun _ => al_new w z N hn, fun e => al_touch (h.p3 e) t, fun e _ => (al_ne (h.p1 e)).symm, h.d13, fun _ e => al_ne (h.p3 e)⟩
theorem Al3.new3 {N : Nat → Prop} {z : Obj} {b1 b2 b3 : Bool} {v1 v2 v3 : Value} {w : World} (h : Al3 N z b1 b2 b3 v1 v2 v3 w) (hn : N w.heap.size) : Al3 N z b1 b2 true v1 v2 (.pointer (some ⟨w.heap.size, 0, none⟩)) (w.alloc z) :=
  have t := (Touch.refl [] w).alloc z
  ⟨fun e => al_touch (h.p1 e) t, fun e => al_touch (h.p2 e) t, fun _ => al_new w z N hn, h.d12, fun e _ => (al_ne (h.p1 e)).symm, fun e _ => (al_ne (h.p2 e)).symm⟩

section
variable {P : Program} {ops : Array Oper} {Q : Exit → Act → World → Prop} {md : Region.Mode} {S : World → Prop}
/-- such an operation makes a block -/
def MakesAt (P : Program) (ops : Array Oper) (Q : Exit → Act → World → Prop) (z : Obj) (i d : Nat) : Prop := ∀ (a : Act) (w : World) (K : Act → World → Prop), K (a.put (some d) (.pointer (some ⟨w.heap.size, 0, none⟩))) (w.alloc z) → wpOp P ops Q i K a w

theorem al3_begin (N : Nat → Prop) (z : Obj) (d1 d2 d3 : Nat) (L : Bool → Bool → Bool → Array Bool) {listed : Array Bool} {a : Act} {w : World} {m : Nat}
    (hl : L false false false = listed) (ha : ((a.put (some d1) undef).put (some d2) undef).put (some d3) undef = a)
    (h : ∀ b1 b2 b3 v1 v2 v3, Al3 N z b1 b2 b3 v1 v2 v3 w → wpAnyH P md ops Q S (m + cnt3 b1 b2 b3) (L b1 b2 b3) (((a.put (some d1) v1).put (some d2) v2).put (some d3) v3) w) : wpAnyH P md ops Q S (m + 3) listed a w := by
  have := h false false false undef undef undef (Al3.init _ _ _ _ _ _)
  rw [hl, ha] at this
  exact this

theorem al3_phase {N : Nat → Prop} {z : Obj} {i1 i2 i3 d1 d2 d3 : Nat} (c : Nat) {oc : Oper} {m : Nat} {L : Bool → Bool → Bool → Array Bool} {F : Value → Value → Value → Act} {W : World}
    (h1 : MakesAt P ops Q z i1 d1) (h2 : MakesAt P ops Q z i2 d2) (h3 : MakesAt P ops Q z i3 d3) (ho : ops[c]? = some oc)
    (hL1 : ∀ b2 b3, (L false b2 b3).setIfInBounds i1 true = L true b2 b3) (hL2 : ∀ b1 b3, (L b1 false b3).setIfInBounds i2 true = L b1 true b3) (hL3 : ∀ b1 b2, (L b1 b2 false).setIfInBounds i3 true = L b1 b2 true)
    (hF1 : ∀ x y u v, (F x y u).put (some d1) v = F v y u) (hF2 : ∀ x y u v, (F x y u).put (some d2) v = F x v u) (hF3 : ∀ x y u v, (F x y u).put (some d3) v = F x y v)
    (hr : ∀ b1 b2 b3, Region.ready md ops (L b1 b2 b3) = c :: ((if b1 = true then [] else [i1]) ++ ((if b2 = true then [] else [i2]) ++ (if b3 = true then [] else [i3]))))
    (hN : ∀ g, W.heap.size ≤ g → N g) (hS : ∀ w, Touch [] W w → S w)
    (hc : ∀ b1 b2 b3 v1 v2 v3 w, Al3 N z b1 b2 b3 v1 v2 v3 w → Touch [] W w → ∀ K' : Act → World → Prop, Shut (∀ a w, S w → (S w → wpAnyH P md ops Q S (m + cnt3 b1 b2 b3) ((L b1 b2 b3).setIfInBounds c true) a w) → K' a w) →
      if Region.wanted oc (yielded ops (F v1 v2 v3).tmps) = true then Oper.wp P oc (F v1 v2 v3) w K' Q else K' ((F v1 v2 v3).put oc.dst undef) w) :
    ∀ b1 b2 b3 v1 v2 v3, Al3 N z b1 b2 b3 v1 v2 v3 W → wpAnyH P md ops Q S (m + 1 + cnt3 b1 b2 b3) (L b1 b2 b3) (F v1 v2 v3) W := by
  suffices H : ∀ n b1 b2 b3 v1 v2 v3 w, cnt3 b1 b2 b3 = n → Al3 N z b1 b2 b3 v1 v2 v3 w → Touch [] W w → wpAnyH P md ops Q S (m + 1 + n) (L b1 b2 b3) (F v1 v2 v3) w from fun b1 b2 b3 v1 v2 v3 h => H _ b1 b2 b3 v1 v2 v3 W rfl h (Touch.refl _ _)
  intro n
  induction n with
  | zero =>
    intro b1 b2 b3 v1 v2 v3 w hcnt h t
    refine ⟨fun e => (by rw [hr] at e; cases e), fun i hi => ?_⟩
    rw [hr] at hi
    rcases List.mem_cons.1 hi with rfl | hi
    · have := hc b1 b2 b3 v1 v2 v3 w h t
      rw [hcnt] at this
      exact wpOp_step ho (fun K' hK => this K' (fun a w hS hW => hK a w ⟨hS, hW hS⟩))
    · exfalso
      cases b1 <;> cases b2 <;> cases b3 <;> simp [cnt3] at hcnt hi
  | succ n ih =>
    intro b1 b2 b3 v1 v2 v3 w hcnt h t
    have hnw : N w.heap.size := hN _ t.size
    refine ⟨fun e => (by rw [hr] at e; cases e), fun i hi => ?_⟩
    rw [hr] at hi
    rcases List.mem_cons.1 hi with rfl | hi
    · have := hc b1 b2 b3 v1 v2 v3 w h t
      rw [hcnt] at this
      exact wpOp_step ho (fun K' hK => this K' (fun a w hS hW => hK a w ⟨hS, by rw [show (m + 1).add n = m + (n + 1) from Nat.add_right_comm m 1 n]; exact hW hS⟩))
    have t' := t.alloc z
    rcases List.mem_append.1 hi with hi | hi
    · cases b1
      · obtain rfl : i = i1 := by simpa using hi
        refine h1 _ _ _ ⟨hS _ t', ?_⟩
        rw [hL1, hF1]
        exact ih true b2 b3 _ v2 v3 _ (by simp [cnt3] at hcnt ⊢; omega) (h.new1 hnw) t'
      · simp at hi
    rcases List.mem_append.1 hi with hi | hi
    · cases b2
      · obtain rfl : i = i2 := by simpa using hi
        refine h2 _ _ _ ⟨hS _ t', ?_⟩
        rw [hL2, hF2]
        exact ih b1 true b3 v1 _ v3 _ (by simp [cnt3] at hcnt ⊢; omega) (h.new2 hnw) t'
      · simp at hi
    · cases b3
      · obtain rfl : i = i3 := by simpa using hi
        refine h3 _ _ _ ⟨hS _ t', ?_⟩
        rw [hL3, hF3]
        exact ih b1 b2 true v1 v2 _ _ (by simp [cnt3] at hcnt ⊢; omega) (h.new3 hnw) t'
      · simp at hi

theorem al3_end {N : Nat → Prop} {z : Obj} {i1 i2 i3 d1 d2 d3 : Nat} {m : Nat} {L : Bool → Bool → Bool → Array Bool} {F : Value → Value → Value → Act} {W : World}
    (h1 : MakesAt P ops Q z i1 d1) (h2 : MakesAt P ops Q z i2 d2) (h3 : MakesAt P ops Q z i3 d3)
    (hL1 : ∀ b2 b3, (L false b2 b3).setIfInBounds i1 true = L true b2 b3) (hL2 : ∀ b1 b3, (L b1 false b3).setIfInBounds i2 true = L b1 true b3) (hL3 : ∀ b1 b2, (L b1 b2 false).setIfInBounds i3 true = L b1 b2 true)
    (hF1 : ∀ x y u v, (F x y u).put (some d1) v = F v y u) (hF2 : ∀ x y u v, (F x y u).put (some d2) v = F x v u) (hF3 : ∀ x y u v, (F x y u).put (some d3) v = F x y v)
    (hr : ∀ b1 b2 b3, (b1 && (b2 && b3)) = false → Region.ready md ops (L b1 b2 b3) = (if b1 = true then [] else [i1]) ++ ((if b2 = true then [] else [i2]) ++ (if b3 = true then [] else [i3])))
    (hN : ∀ g, W.heap.size ≤ g → N g) (hS : ∀ w, Touch [] W w → S w)
    (hc : ∀ v1 v2 v3 w, Al3 N z true true true v1 v2 v3 w → Touch [] W w → S w → wpAnyH P md ops Q S m (L true true true) (F v1 v2 v3) w) :
    ∀ b1 b2 b3 v1 v2 v3, Al3 N z b1 b2 b3 v1 v2 v3 W → wpAnyH P md ops Q S (m + cnt3 b1 b2 b3) (L b1 b2 b3) (F v1 v2 v3) W := by
  suffices H : ∀ n b1 b2 b3 v1 v2 v3 w, cnt3 b1 b2 b3 = n → Al3 N z b1 b2 b3 v1 v2 v3 w → Touch [] W w → wpAnyH P md ops Q S (m + n) (L b1 b2 b3) (F v1 v2 v3) w from fun b1 b2 b3 v1 v2 v3 h => H _ b1 b2 b3 v1 v2 v3 W rfl h (Touch.refl _ _)
  intro n
  induction n with
  | zero =>
    intro b1 b2 b3 v1 v2 v3 w hcnt h t
    cases b1 <;> cases b2 <;> cases b3 <;> simp [cnt3] at hcnt
    exact hc v1 v2 v3 w h t (hS w t)
  | succ n ih =>
    intro b1 b2 b3 v1 v2 v3 w hcnt h t
    have hnw : N w.heap.size := hN _ t.size
    have hb : (b1 && (b2 && b3)) = false := by cases b1 <;> cases b2 <;> cases b3 <;> simp [cnt3] at hcnt ⊢
    have t' := t.alloc z
    refine ⟨fun e => ?_, fun i hi => ?_⟩
    · exfalso
      rw [hr _ _ _ hb] at e
      cases b1 <;> cases b2 <;> cases b3 <;> simp at e hb
    rw [hr _ _ _ hb] at hi
    rcases List.mem_append.1 hi with hi | hi
    · cases b1
      · obtain rfl : i = i1 := by simpa using hi
        refine h1 _ _ _ ⟨hS _ t', ?_⟩
        rw [hL1, hF1]
        exact ih true b2 b3 _ v2 v3 _ (by simp [cnt3] at hcnt ⊢; omega) (h.new1 hnw) t'
      · simp at hi
    rcases List.mem_append.1 hi with hi | hi
    · cases b2
      · obtain rfl : i = i2 := by simpa using hi
        refine h2 _ _ _ ⟨hS _ t', ?_⟩
        rw [hL2, hF2]
        exact ih b1 true b3 v1 _ v3 _ (by simp [cnt3] at hcnt ⊢; omega) (h.new2 hnw) t'
      · simp at hi
    · cases b3
      · obtain rfl : i = i3 := by simpa using hi
        refine h3 _ _ _ ⟨hS _ t', ?_⟩
        rw [hL3, hF3]
        exact ih b1 b2 true v1 v2 _ _ (by simp [cnt3] at hcnt ⊢; omega) (h.new3 hnw) t'
      · simp at hi
end
end Go.Proofs.Ytlkckkagoommaaa
