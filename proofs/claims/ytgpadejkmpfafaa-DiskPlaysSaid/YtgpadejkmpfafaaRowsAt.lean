/- A struct in one block: slices of the calls' own ahead, other fields behind. -/
import Derived.Test.YtgpadejkmpfafaaDiskCrash
namespace Go.Proofs.Ytgpadejkmpfafaa
open Go.RowKit

structure Rw where
  A : Option Addr
  c : Nat
  xs : List Value
def Rw.v (r : Rw) : Value := .slice r.A r.xs.length r.c

/-- the struct's block; every row is owned, and no two lie in one block -/
structure RowsAt (w : World) (g : Nat) (T : TypeId) (ty : Nat → TypeId) (rs : List Rw) (tail : List Value) : Prop where
  blk : w.heap[g]? = some (.cells (rs.map Rw.v ++ tail).toArray T (0, 0))
  own : ∀ i (h : i < rs.length), w.ownsRow 0 (ty i) 1 rs[i].v rs[i].xs.length rs[i].xs
  ne : ∀ i (h : i < rs.length), g ∉ fpo rs[i].A
  apart : ∀ i j (hi : i < rs.length) (hj : j < rs.length), i ≠ j → ∀ b ∈ fpo rs[i].A, b ∉ fpo rs[j].A
def rfp (g : Nat) (rs : List Rw) : List Nat := g :: rs.flatMap fun f => fpo f.A

theorem mem_rfp {g : Nat} {rs : List Rw} {b : Nat} : b ∈ rfp g rs ↔ b = g ∨ ∃ i, ∃ h : i < rs.length, b ∈ fpo rs[i].A := by
  simp only [rfp, List.mem_cons, List.mem_flatMap]
  constructor
  · rintro (h | ⟨f, hf, hb⟩)
    · exact .inl h
    · obtain ⟨i, hi, rfl⟩ := List.getElem_of_mem hf
      exact .inr ⟨i, hi, hb⟩
  · rintro (h | ⟨i, hi, hb⟩)
    · exact .inl h
    · exact .inr ⟨rs[i], List.getElem_mem hi, hb⟩
theorem ownsV_touch {w w' : World} {T : TypeId} {r : Rw} {fp : List Nat} (h : w.ownsRow 0 T 1 r.v r.xs.length r.xs) (ht : Touch fp w w') (hn : ∀ b ∈ fpo r.A, b ∉ fp) : w'.ownsRow 0 T 1 r.v r.xs.length r.xs := by
  refine ⟨h.1, ?_⟩
  rcases h.2 with hv | ⟨g, cap, cur, hv, hb, hg, rest⟩
  · exact .inl hv
  · have hA : r.A = some ⟨g, 0, none⟩ := by unfold Rw.v at hv; injection hv
    exact .inr ⟨g, cap, cur, hv, hb, ht.blk hg (hn g (by rw [hA]; simp [fpo])), rest⟩
theorem ownsV_lt {w : World} {T : TypeId} {r : Rw} (h : w.ownsRow 0 T 1 r.v r.xs.length r.xs) : ∀ b ∈ fpo r.A, b < w.heap.size := by
  intro b hb
  rcases h.2 with ⟨hv, _⟩ | ⟨g, cap, cur, hv, _, hg, _⟩
  · unfold Rw.v at hv; injection hv with hA _ _; rw [hA] at hb; cases hb
  · have hA : r.A = some ⟨g, 0, none⟩ := by unfold Rw.v at hv; injection hv
    rw [hA] at hb
    have : b = g := by simpa [fpo] using hb
    subst this
    exact (Array.getElem?_eq_some_iff.1 hg).1
theorem RowsAt.lt {w : World} {g : Nat} {T : TypeId} {ty : Nat → TypeId} {rs : List Rw} {tail : List Value} (h : RowsAt w g T ty rs tail) : ∀ b ∈ rfp g rs, b < w.heap.size := by
  intro b hb
  rcases mem_rfp.1 hb with rfl | ⟨i, hi, hm⟩
  · exact lt_of_block h.blk
  · exact ownsV_lt (h.own i hi) b hm
theorem RowsAt.step {w w' : World} {g : Nat} {T : TypeId} {ty : Nat → TypeId} {rs : List Rw} {tail : List Value} {fp : List Nat} (h : RowsAt w g T ty rs tail) (ht : Touch fp w w') (hn : ∀ b ∈ rfp g rs, b ∉ fp) : RowsAt w' g T ty rs tail :=
  ⟨ht.blk h.blk (hn g (mem_rfp.2 (.inl rfl))), fun i hi => ownsV_touch (h.own i hi) ht (fun b hb => hn b (mem_rfp.2 (.inr ⟨i, hi, hb⟩))), h.ne, h.apart⟩
theorem RowsAt.cell {w : World} {g : Nat} {T : TypeId} {ty : Nat → TypeId} {rs : List Rw} {tail : List Value} (h : RowsAt w g T ty rs tail) (i : Nat) (hi : i < rs.length) : w.cell? ⟨g, i, none⟩ = some rs[i].v := by
  rw [cell_of_row w g i _ T (0, 0) h.blk]
  simp [List.getElem?_append_left (show i < (rs.map Rw.v).length by simpa using hi), hi]
theorem RowsAt.tcell {w : World} {g : Nat} {T : TypeId} {ty : Nat → TypeId} {rs : List Rw} {tail : List Value} (h : RowsAt w g T ty rs tail) (i k : Nat) (hk : k = rs.length + i) (v : Value) (hv : tail[i]? = some v) : w.cell? ⟨g, k, none⟩ = some v := by
  subst hk
  rw [cell_of_row w g _ _ T (0, 0) h.blk]
  simp [List.getElem?_append_right, hv]
theorem RowsAt.free {w : World} {g : Nat} {T : TypeId} {ty : Nat → TypeId} {rs : List Rw} {tail : List Value} (h : RowsAt w g T ty rs tail) (i : Nat) : w.frozen? ⟨g, i, none⟩ = false := by
  simp [World.frozen?, h.blk]

/-- a field behind the rows is set -/
theorem RowsAt.setTail {w : World} {g : Nat} {T : TypeId} {ty : Nat → TypeId} {rs : List Rw} {tail : List Value} (h : RowsAt w g T ty rs tail) (i k : Nat) (hk : k = rs.length + i) (v : Value) : RowsAt (w.setCell ⟨g, k, none⟩ v) g T ty rs (tail.set i v) := by
  subst hk
  have ht := (Touch.refl [g] w).setCell (p := ⟨g, rs.length + i, none⟩) (.inl (by simp)) v
  refine ⟨?_, fun j hj => ownsV_touch (h.own j hj) ht (fun b hb hm => h.ne j hj ((by simpa using hm : b = g) ▸ hb)), h.ne, h.apart⟩
  rw [heap_setCell_same w g _ _ _ _ h.blk]
  congr 2
  apply Array.ext'
  simp only [Array.toList_setIfInBounds]
  have e : (rs.map Rw.v).length ≤ rs.length + i := by simp
  rw [List.set_append_right _ _ e]
  simp

/-- a row is set: what it holds now, and its cell -/
theorem RowsAt.setRow' {w w2 : World} {g : Nat} {T : TypeId} {ty : Nat → TypeId} {rs : List Rw} {tail : List Value} (h : RowsAt w g T ty rs tail) (n : Nat) (hn : n < rs.length) (r : Rw) (T2 : Touch (fpo rs[n].A) w w2)
    (hown : w2.ownsRow 0 (ty n) 1 r.v r.xs.length r.xs) (hgr : g ∉ fpo r.A) (key : ∀ j, (hj : j < rs.length) → j ≠ n → ∀ x ∈ fpo r.A, x ∉ fpo rs[j].A) : RowsAt (w2.setCell ⟨g, n, none⟩ r.v) g T ty (rs.set n r) tail := by
  have hb2 := T2.blk h.blk (h.ne n hn)
  have ht2 := (Touch.refl [g] w2).setCell (p := ⟨g, n, none⟩) (.inl (by simp)) r.v
  refine ⟨?_, ?_, ?_, ?_⟩
  · rw [heap_setCell_same w2 g _ _ _ _ hb2]
    congr 2
    apply Array.ext'
    simp only [Array.toList_setIfInBounds]
    rw [List.set_append_left _ _ (by simpa using hn), List.map_set]
  · intro j hj
    have hj' : j < rs.length := by simpa using hj
    by_cases e : n = j
    · subst e
      rw [List.getElem_set_self]
      exact ownsV_touch hown ht2 (fun b hb hm => hgr ((by simpa using hm : b = g) ▸ hb))
    · rw [List.getElem_set_ne e]
      exact ownsV_touch (ownsV_touch (h.own j hj') T2 (fun b hb hm => h.apart j n hj' hn (fun e' => e e'.symm) b hb hm)) ht2 (fun b hb hm => h.ne j hj' ((by simpa using hm : b = g) ▸ hb))
  · intro j hj
    have hj' : j < rs.length := by simpa using hj
    by_cases e : n = j
    · subst e; rw [List.getElem_set_self]; exact hgr
    · rw [List.getElem_set_ne e]; exact h.ne j hj'
  · intro i j hi hj hij
    have hi' : i < rs.length := by simpa using hi
    have hj' : j < rs.length := by simpa using hj
    by_cases ei : n = i
    · subst ei
      rw [List.getElem_set_self, List.getElem_set_ne hij]
      exact fun x hx => key j hj' (fun e => hij e.symm) x hx
    · by_cases ej : n = j
      · subst ej
        rw [List.getElem_set_self, List.getElem_set_ne ei]
        exact fun x hx hm => key i hi' hij x hm hx
      · rw [List.getElem_set_ne ei, List.getElem_set_ne ej]
        exact h.apart i j hi' hj' hij
theorem RowsAt.setRow {w w2 : World} {g : Nat} {T : TypeId} {ty : Nat → TypeId} {rs : List Rw} {tail : List Value} (h : RowsAt w g T ty rs tail) (n : Nat) (hn : n < rs.length) (r : Rw) (T2 : Touch (fpo rs[n].A) w w2)
    (hown : w2.ownsRow 0 (ty n) 1 r.v r.xs.length r.xs) (hf : ∀ b ∈ fpo r.A, b ∈ fpo rs[n].A ∨ w.heap.size ≤ b) : RowsAt (w2.setCell ⟨g, n, none⟩ r.v) g T ty (rs.set n r) tail := by
  have hgl := lt_of_block h.blk
  refine h.setRow' n hn r T2 hown (fun hm => ?_) fun j hj hne x hx hm => ?_
  · rcases hf g hm with h1 | h1
    · exact h.ne n hn h1
    · omega
  · rcases hf x hx with h1 | h1
    · exact h.apart n j hn hj (fun e => hne e.symm) x h1 hm
    · have := ownsV_lt (h.own j hj) x hm; omega
theorem rfp_set {g n : Nat} {rs : List Rw} {r : Rw} {m : Nat} (hn : n < rs.length) (hf : ∀ b ∈ fpo r.A, b ∈ fpo rs[n].A ∨ m ≤ b) : ∀ b ∈ rfp g (rs.set n r), b ∈ rfp g rs ∨ m ≤ b := by
  intro b hb
  rcases mem_rfp.1 hb with h | ⟨i, hi, hm⟩
  · exact .inl (mem_rfp.2 (.inl h))
  · have hi' : i < rs.length := by simpa using hi
    by_cases e : n = i
    · subst e
      rw [List.getElem_set_self] at hm
      rcases hf b hm with h | h
      · exact .inl (mem_rfp.2 (.inr ⟨n, hn, h⟩))
      · exact .inr h
    · rw [List.getElem_set_ne e] at hm
      exact .inl (mem_rfp.2 (.inr ⟨i, hi', hm⟩))
end Go.Proofs.Ytgpadejkmpfafaa
