/- The queue's heap as the memory holds it: a row of pointers to entries, each of which knows where it stands. No condition. -/
import Derived.Test.YthhjioeipjnjmaaRdK
import Derived.Test.YthhjioeipjnjmaaMaps
import Derived.Test.YthhjioeipjnjmaaQueP
namespace Go.Proofs.Ythhjioeipjnjmaa
open Go.RowKit

abbrev ES := List (Nat × QE)
def ptrV (b : Nat) : Value := .pointer (some ⟨b, 0, none⟩)
def peE (e : Nat × QE) : List Value := [ptrV e.1]
theorem peE_length (e : Nat × QE) : (peE e).length = 1 := rfl
theorem peE_one (e : Nat × QE) : ∀ u ∈ peE e, u.oneCell' = true := by
  intro u hu
  obtain rfl : u = ptrV e.1 := by simpa [peE] using hu
  rfl
def ecells (q : QE) (i : Nat) : Array Value := #[.string q.asset, .int .i64 q.index, .int .i64 q.due, .int .i64 q.rank, .int .i64 q.put, .int .i64 i]

/-- a row of entries -/
structure EsAt (w : World) (A : Option Addr) (c : Nat) (es : ES) : Prop where
  own : OwnK 57 1 peE w A c es
  ent : ∀ i (h : i < es.length), w.heap[es[i].1]? = some (.cells (ecells es[i].2 i) 62 (0, 0))
  nd : (es.map (·.1)).Nodup
  nA : ∀ e ∈ es, e.1 ∉ fpo A

/-- the blocks that it lies in -/
def efp (A : Option Addr) (es : ES) : List Nat := fpo A ++ es.map (·.1)
theorem mem_efp {A : Option Addr} {es : ES} {b : Nat} : b ∈ efp A es ↔ b ∈ fpo A ∨ ∃ e ∈ es, e.1 = b := by simp [efp]

theorem EsAt.touch {w w' : World} {A : Option Addr} {c : Nat} {es : ES} {fp : List Nat} (h : EsAt w A c es) (ht : Touch fp w w') (hn : ∀ b ∈ efp A es, b ∉ fp) : EsAt w' A c es :=
  ⟨h.own.touch ht (fun b hb => hn b (mem_efp.2 (.inl hb))), fun i hi => ht.blk (h.ent i hi) (hn _ (mem_efp.2 (.inr ⟨_, List.getElem_mem hi, rfl⟩))), h.nd, h.nA⟩
theorem EsAt.touch0 {w w' : World} {A : Option Addr} {c : Nat} {es : ES} (h : EsAt w A c es) (ht : Touch [] w w') : EsAt w' A c es := h.touch ht (by simp)
theorem EsAt.lt {w : World} {A : Option Addr} {c : Nat} {es : ES} (h : EsAt w A c es) : ∀ b ∈ efp A es, b < w.heap.size := by
  intro b hb
  rcases mem_efp.1 hb with hb | ⟨e, he, rfl⟩
  · exact h.own.lt b hb
  · obtain ⟨i, hi, rfl⟩ := List.getElem_of_mem he
    exact lt_of_block (h.ent i hi)
theorem EsAt.nil (w : World) : EsAt w none 0 [] := ⟨OwnK.nil _ _ _ _, fun i hi => absurd hi (by simp), .nil, by simp⟩
/-- what the row's i-th cell holds -/
theorem EsAt.at_ {w : World} {A : Option Addr} {c : Nat} {es : ES} (h : EsAt w A c es) (i : Nat) (hi : i < es.length) :
    ∃ G, A = some ⟨G, 0, none⟩ ∧ w.cell? ⟨G, i, none⟩ = some (ptrV es[i].1) ∧ w.frozen? ⟨G, i, none⟩ = false := by
  have hx : (es.flatMap peE)[i]? = some (ptrV es[i].1) := by
    have := flat_get peE 1 peE_length es i 0 hi (by omega)
    rw [Nat.mul_one] at this
    exact this
  rcases h.own.2 with ⟨_, h0⟩ | ⟨g, cap, cur, hv, _, hg, _, _, _, _⟩
  · rw [List.eq_nil_of_length_eq_zero h0] at hi; simp at hi
  · have hA : A = some ⟨g, 0, none⟩ := by injection hv
    subst hA
    refine ⟨g, rfl, ?_, by simp [World.frozen?, hg]⟩
    have := World.ownsRow.cells h.own (g := g) rfl i _ hx
    rwa [show (⟨g, 0, none⟩ : Addr).add i = ⟨g, i, none⟩ by unfold Addr.add; split <;> simp_all] at this
theorem EsAt.cell {w : World} {A : Option Addr} {c : Nat} {es : ES} (h : EsAt w A c es) (i : Nat) (hi : i < es.length) (j : Nat) (v : Value) (hv : (ecells es[i].2 i)[j]? = some v) : w.cell? ⟨es[i].1, j, none⟩ = some v :=
  cell_blk (h.ent i hi) hv
theorem EsAt.free {w : World} {A : Option Addr} {c : Nat} {es : ES} (h : EsAt w A c es) (i : Nat) (hi : i < es.length) (j : Nat) : w.frozen? ⟨es[i].1, j, none⟩ = false := by
  simp [World.frozen?, h.ent i hi]
theorem EsAt.ne {w : World} {A : Option Addr} {c : Nat} {es : ES} (h : EsAt w A c es) (i j : Nat) (hi : i < es.length) (hj : j < es.length) (hij : i ≠ j) : es[i].1 ≠ es[j].1 := by
  have hp := List.pairwise_iff_getElem.1 (List.pairwise_map.1 h.nd)
  rcases Nat.lt_or_gt_of_ne hij with hl | hl
  · exact hp i j hi hj hl
  · exact fun e => hp j i hj hi hl e.symm

theorem OwnK.free_ {α : Type} {t k : Nat} {enc : α → List Value} {w : World} {G c : Nat} {xs : List α} (h : OwnK t k enc w (some ⟨G, 0, none⟩) c xs) (i : Nat) : w.frozen? ⟨G, i, none⟩ = false := by
  rcases h.2 with ⟨hv, _⟩ | ⟨g, cap, cur, hv, _, hg, _, _, _, _⟩
  · injection hv with hA; cases hA
  · have hA : (some ⟨G, 0, none⟩ : Option Addr) = some ⟨g, 0, none⟩ := by injection hv
    injection hA with hA; injection hA with hG; subst hG
    simp [World.frozen?, hg]
theorem flat_set {α β : Type} (enc : α → List β) (k : Nat) (hk : ∀ x, (enc x).length = k) (v : β) (o : Nat) (ho : o < k) : ∀ (xs : List α) (i : Nat) (hi : i < xs.length) (y : α), enc y = (enc xs[i]).set o v → (xs.set i y).flatMap enc = (xs.flatMap enc).set (i * k + o) v
  | [], i => fun hi => absurd hi (by simp)
  | x :: xs, 0 => fun _ y hy => by
    rw [List.set_cons_zero, List.flatMap_cons, List.flatMap_cons, hy, List.getElem_cons_zero, Nat.zero_mul, Nat.zero_add, List.set_append_left _ _ (by rw [hk]; exact ho)]
  | x :: xs, i + 1 => fun hi y hy => by
    have ih := flat_set enc k hk v o ho xs i (by simpa using hi) y (by simpa using hy)
    have e1 : (i + 1) * k + o = k + (i * k + o) := by rw [Nat.add_mul]; omega
    rw [List.set_cons_succ, List.flatMap_cons, List.flatMap_cons, ih, List.set_append_right _ _ (by rw [hk, e1]; omega), hk, e1, Nat.add_sub_cancel_left]
theorem OwnK.set {α : Type} {t k : Nat} {enc : α → List Value} {w : World} {G c : Nat} {xs : List α} (h : OwnK t k enc w (some ⟨G, 0, none⟩) c xs) (hk : ∀ x, (enc x).length = k) (i : Nat) (hi : i < xs.length) (o : Nat) (ho : o < k) (v : Value) (y : α)
    (hy : enc y = (enc xs[i]).set o v) : OwnK t k enc (w.setCell ⟨G, i * k + o, none⟩ v) (some ⟨G, 0, none⟩) c (xs.set i y) := by
  have := (World.ownsRow.stored h (i * k + o) v).1
  unfold OwnK
  rw [List.length_set, flat_set enc k hk v o ho xs i hi y hy]
  exact this
theorem OwnK.set1 {w : World} {G c : Nat} {es : ES} (h : OwnK 57 1 peE w (some ⟨G, 0, none⟩) c es) (i : Nat) (hi : i < es.length) (y : Nat × QE) : OwnK 57 1 peE (w.setCell ⟨G, i, none⟩ (ptrV y.1)) (some ⟨G, 0, none⟩) c (es.set i y) := by
  have := h.set peE_length i hi 0 (by omega) (ptrV y.1) y rfl
  rwa [Nat.mul_one] at this

/-- two entries change their places, and know it: four stores -/
theorem EsAt.swap {w : World} {G c : Nat} {es : ES} (h : EsAt w (some ⟨G, 0, none⟩) c es) (i j : Nat) (hi : i < es.length) (hj : j < es.length) :
    EsAt ((((w.setCell ⟨G, i, none⟩ (ptrV es[j].1)).setCell ⟨G, j, none⟩ (ptrV es[i].1)).setCell ⟨es[j].1, 5, none⟩ (.int .i64 i)).setCell ⟨es[i].1, 5, none⟩ (.int .i64 j)) (some ⟨G, 0, none⟩) c (swL es i j) := by
  have hnA : ∀ k (hk : k < es.length), es[k].1 ≠ G := fun k hk e => h.nA _ (List.getElem_mem hk) (by simp [fpo, e])
  have e1 : es[j]! = es[j] := getE _ _ hj
  have e2 : es[i]! = es[i] := getE _ _ hi
  have o1 := h.own.set1 i hi es[j]
  have o2 := o1.set1 j (by simpa using hj) es[i]
  have hsw : swL es i j = (es.set i es[j]).set j es[i] := by unfold swL; rw [e1, e2]
  have T3 := (Touch.refl [es[j].1] ((w.setCell ⟨G, i, none⟩ (ptrV es[j].1)).setCell ⟨G, j, none⟩ (ptrV es[i].1))).setCell (p := ⟨es[j].1, 5, none⟩) (.inl (by simp)) (.int .i64 i)
  have T4 := (Touch.refl [es[i].1] (((w.setCell ⟨G, i, none⟩ (ptrV es[j].1)).setCell ⟨G, j, none⟩ (ptrV es[i].1)).setCell ⟨es[j].1, 5, none⟩ (.int .i64 i))).setCell (p := ⟨es[i].1, 5, none⟩) (.inl (by simp)) (.int .i64 j)
  have T12 := ((Touch.refl [G] w).setCell (p := ⟨G, i, none⟩) (.inl (by simp)) (ptrV es[j].1)).setCell (p := ⟨G, j, none⟩) (.inl (by simp)) (ptrV es[i].1)
  have o3 := (o2.touch T3 (by simp only [fpo, List.mem_singleton]; rintro b rfl e; exact hnA j hj e.symm)).touch T4 (by simp only [fpo, List.mem_singleton]; rintro b rfl e; exact hnA i hi e.symm)
  have hp := swL_perm es i j hi hj
  refine ⟨by rw [hsw]; exact o3, ?_, ((hp.map (·.1)).nodup_iff).2 h.nd, fun e he => h.nA e (hp.mem_iff.1 he)⟩
  intro k hk0
  have hk : k < es.length := by rw [swL_length] at hk0; exact hk0
  have hb : ∀ m (hm : m < es.length), ((w.setCell ⟨G, i, none⟩ (ptrV es[j].1)).setCell ⟨G, j, none⟩ (ptrV es[i].1)).heap[es[m].1]? = some (.cells (ecells es[m].2 m) 62 (0, 0)) := fun m hm =>
    T12.blk (h.ent m hm) (by simp only [List.mem_singleton]; exact hnA m hm)
  have hg : (swL es i j)[k]'hk0 = if k = j then es[i] else if k = i then es[j] else es[k] := by
    have := swL_get es i j k hi hj hk
    rw [getE _ _ hk0, e1, e2, getE _ _ hk] at this
    exact this
  rw [hg]
  by_cases k1 : k = j
  · subst k1
    rw [if_pos rfl]
    by_cases k2 : i = k
    · subst k2
      rw [set_blk (set_blk (hb i hi) 5 (.int .i64 i)) 5 (.int .i64 i)]
      rfl
    · have hne := h.ne i k hi hk k2
      rw [set_blk (T3.blk (hb i hi) (by simp only [List.mem_singleton]; exact hne)) 5 (.int .i64 k)]
      rfl
  · rw [if_neg k1]
    by_cases k2 : k = i
    · subst k2
      rw [if_pos rfl]
      have hne := h.ne j k hj hk (fun e => k1 e.symm)
      rw [T4.blk (set_blk (hb j hj) 5 (.int .i64 k)) (by simp only [List.mem_singleton]; exact hne)]
      rfl
    · rw [if_neg k2]
      exact T4.blk (T3.blk (hb k hk) (by simp only [List.mem_singleton]; exact h.ne k j hk hj k1)) (by simp only [List.mem_singleton]; exact h.ne k i hk hi k2)

/-- the queue's heap: the struct's block and its row -/
structure HpAt (w : World) (g : Nat) (A : Option Addr) (c : Nat) (es : ES) (m p : Value) : Prop where
  blk : w.heap[g]? = some (.cells #[.slice A es.length c, m, p] 53 (0, 0))
  es_ : EsAt w A c es
  ng : g ∉ efp A es
theorem HpAt.cell0 {w : World} {g : Nat} {A : Option Addr} {c : Nat} {es : ES} {m p : Value} (h : HpAt w g A c es m p) : w.cell? ⟨g, 0, none⟩ = some (.slice A es.length c) := cell_blk h.blk rfl
theorem HpAt.touch {w w' : World} {g : Nat} {A : Option Addr} {c : Nat} {es : ES} {m p : Value} {fp : List Nat} (h : HpAt w g A c es m p) (ht : Touch fp w w') (hg : g ∉ fp) (hn : ∀ b ∈ efp A es, b ∉ fp) : HpAt w' g A c es m p :=
  ⟨ht.blk h.blk hg, h.es_.touch ht hn, h.ng⟩
theorem HpAt.touch0 {w w' : World} {g : Nat} {A : Option Addr} {c : Nat} {es : ES} {m p : Value} (h : HpAt w g A c es m p) (ht : Touch [] w w') : HpAt w' g A c es m p := h.touch ht (by simp) (by simp)
theorem efp_perm {A : Option Addr} {es es' : ES} (h : es'.Perm es) : ∀ b, b ∈ efp A es' ↔ b ∈ efp A es := fun b => by
  rw [mem_efp, mem_efp]
  constructor
  · rintro (h1 | ⟨e, he, h1⟩)
    · exact .inl h1
    · exact .inr ⟨e, h.mem_iff.1 he, h1⟩
  · rintro (h1 | ⟨e, he, h1⟩)
    · exact .inl h1
    · exact .inr ⟨e, h.mem_iff.2 he, h1⟩
end Go.Proofs.Ythhjioeipjnjmaa
