/- The law's own map of the last item of each part, beside the queue's list. Plain lists; no condition. -/
import Derived.Test.YthhjioeipjnjmaaQueA
namespace Go.Proofs.Ythhjioeipjnjmaa
open Go.RowKit

def kvI (e : QE) : Value × Value := (partV e.asset e.index, itV e)
theorem newQ_ord (xs : List QE) (k : Nat) : InOrd (newQ xs k) k := by
  induction k with
  | zero => exact InOrd.nil _
  | succ k ih =>
    unfold newQ
    split
    · next x _ =>
      have := (ih.drop x.asset x.index).ins { x with put := ((k + 1 : Nat) : Int) } (by omega) (by simp) (fun e he => (mem_dropQ.1 he).2)
      simpa using this
    · exact ih.more (by omega)
theorem newQ_ok (xs : List QE) (hok : ∀ x ∈ xs, x.Ok) (k : Nat) : ∀ e ∈ newQ xs k, e.Ok := by
  induction k with
  | zero => intro e he; simp [newQ] at he
  | succ k ih =>
    unfold newQ
    split
    · next x hx =>
      intro e he
      rcases List.mem_cons.1 ((insQ_perm _ _).mem_iff.1 he) with rfl | he
      · have := hok x (List.mem_of_getElem? hx)
        exact ⟨this.t, this.i, this.d, this.r⟩
      · exact ih e (mem_dropQ.1 he).1
    · exact ih
theorem kv_miss {L : List QE} {kvs : List (Value × Value)} (hp : kvs.Perm (L.map kvI)) {a : ByteArray} {i : Int} (hm : ∀ e ∈ L, ¬ e.is a i) : ∀ x ∈ kvs, x.1 ≠ partV a i := by
  intro x hx e
  obtain ⟨y, hy, rfl⟩ := List.mem_map.1 (hp.mem_iff.1 hx)
  obtain ⟨h1, h2⟩ := partV_inj e
  exact hm y hy ⟨h1, h2⟩
theorem drop_one {L : List QE} (hpp : L.Pairwise (fun a b => ¬ (a.asset = b.asset ∧ a.index = b.index))) {e : QE} (he : e ∈ L) : L.Perm (e :: dropQ L e.asset e.index) := by
  obtain ⟨l1, l2, rfl⟩ := List.append_of_mem he
  have h1 : (l1 ++ e :: l2).Perm (e :: (l1 ++ l2)) := List.perm_middle
  refine h1.trans (List.Perm.cons _ ?_)
  exact drop_perm (List.Perm.refl _) hpp h1
theorem kv_hit {L : List QE} {kvs : List (Value × Value)} (hpp : L.Pairwise (fun a b => ¬ (a.asset = b.asset ∧ a.index = b.index))) (hp : kvs.Perm (L.map kvI)) {e : QE} (he : e ∈ L) :
    ∃ l1 l2, kvs = l1 ++ kvI e :: l2 ∧ (l1 ++ l2).Perm ((dropQ L e.asset e.index).map kvI) := by
  have hm : kvI e ∈ kvs := hp.mem_iff.2 (List.mem_map.2 ⟨e, he, rfl⟩)
  obtain ⟨l1, l2, hk⟩ := List.append_of_mem hm
  refine ⟨l1, l2, hk, ?_⟩
  have h1 := (List.perm_middle (l₁ := l1) (a := kvI e) (l₂ := l2)).symm.trans ((hk ▸ hp).trans ((drop_one hpp he).map kvI))
  rw [List.map_cons] at h1
  exact (List.perm_cons _).1 h1
/-- the map behind one item more -/
theorem kv_put {L : List QE} {kvs : List (Value × Value)} (hpp : L.Pairwise (fun a b => ¬ (a.asset = b.asset ∧ a.index = b.index))) (hp : kvs.Perm (L.map kvI)) (x : QE) (q : Int) :
    (∃ l1 l2 v0, kvs = l1 ++ (partV x.asset x.index, v0) :: l2 ∧ (l1 ++ (partV x.asset x.index, itV x) :: l2).Perm ((insQ (dropQ L x.asset x.index) { x with put := q }).map kvI)) ∨
    ((∀ p ∈ kvs, p.1 ≠ partV x.asset x.index) ∧ (kvs ++ [(partV x.asset x.index, itV x)]).Perm ((insQ (dropQ L x.asset x.index) { x with put := q }).map kvI)) := by
  have hins := (insQ_perm (dropQ L x.asset x.index) { x with put := q }).map kvI
  have hx : kvI { x with put := q } = (partV x.asset x.index, itV x) := rfl
  rw [List.map_cons, hx] at hins
  by_cases hm : ∃ e ∈ L, e.is x.asset x.index
  · obtain ⟨e, he, h1, h2⟩ := hm
    obtain ⟨l1, l2, hk, hl⟩ := kv_hit hpp hp he
    rw [h1, h2] at hl
    left
    refine ⟨l1, l2, itV e, ?_, ?_⟩
    · rw [hk]; unfold kvI; rw [h1, h2]
    · exact List.perm_middle.trans ((hl.cons _).trans hins.symm)
  · right
    have hno : ∀ e ∈ L, ¬ e.is x.asset x.index := fun e he k => hm ⟨e, he, k⟩
    refine ⟨kv_miss hp hno, ?_⟩
    rw [dropQ_miss hno] at hins ⊢
    exact (List.perm_append_singleton _ _).trans ((hp.cons _).trans hins.symm)
theorem QIs.ord {w : World} {g : Nat} {fp : List Nat} {L : List QE} {p : Nat} (h : QIs w g fp L p) : InOrd L p ∧ (∀ e ∈ L, e.Ok) := by
  obtain ⟨mb, A, c, es, kvs, _, hh⟩ := h
  exact ⟨hh.ord, hh.ok⟩
end Go.Proofs.Ythhjioeipjnjmaa
