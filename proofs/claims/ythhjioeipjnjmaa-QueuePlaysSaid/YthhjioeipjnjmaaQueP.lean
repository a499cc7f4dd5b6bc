/- A queue as a list in order: what is put, taken and dropped; the order of items. Plain lists; no condition. -/
import Derived.Test.YthhjioeipjnjmaaHeapL
import Derived.Lib.Small
namespace Go.Proofs.Ythhjioeipjnjmaa

/-- an entry: the part, when it is due, its rank, when it was put -/
structure QE where
  asset : ByteArray
  index : Int
  due : Int
  rank : Int
  put : Int
deriving Inhabited

/-- as numbers are compared -/
abbrev cmI (a b : Int) : Int := Lib.compareInt a b
/-- as entries are -/
def cfQ (a b : QE) : Int := if cmI a.due b.due ≠ 0 then cmI a.due b.due else if cmI a.rank b.rank ≠ 0 then cmI a.rank b.rank else cmI a.put b.put
def ltQ (a b : QE) : Bool := decide (cfQ a b < 0)
theorem ltQ_iff (a b : QE) : ltQ a b = true ↔ a.due < b.due ∨ a.due = b.due ∧ (a.rank < b.rank ∨ a.rank = b.rank ∧ a.put < b.put) := by
  unfold ltQ cfQ cmI Lib.compareInt
  rw [decide_eq_true_eq]
  repeat' split
  all_goals omega
theorem ltQ_ff (a b : QE) : ltQ a b = false ↔ b.due < a.due ∨ b.due = a.due ∧ (b.rank < a.rank ∨ b.rank = a.rank ∧ b.put ≤ a.put) := by
  rw [← Bool.not_eq_true, ltQ_iff]; omega
theorem ordQ : Ord ltQ := ⟨fun a b h => by rw [ltQ_iff] at h; rw [ltQ_ff]; omega, fun a b c h k => by rw [ltQ_ff] at *; omega⟩
theorem ltQ_irr (a : QE) : ltQ a a = false := by rw [ltQ_ff]; omega
theorem ltQ_tr {a b c : QE} (h : ltQ a b = true) (k : ltQ b c = true) : ltQ a c = true := by rw [ltQ_iff] at *; omega

/-- same part? -/
def QE.is (e : QE) (asset : ByteArray) (index : Int) : Prop := e.asset = asset ∧ e.index = index
instance (e : QE) (a : ByteArray) (i : Int) : Decidable (e.is a i) := by unfold QE.is; exact inferInstance

/-- a queue's list in order: rising, no two of a part, all put up to p -/
structure InOrd (L : List QE) (p : Int) : Prop where
  sorted : L.Pairwise (fun a b => ltQ a b = true)
  parts : L.Pairwise (fun a b => ¬ (a.asset = b.asset ∧ a.index = b.index))
  puts : ∀ e ∈ L, 0 ≤ e.put ∧ e.put ≤ p

/-- without a part's -/
def dropQ (L : List QE) (a : ByteArray) (i : Int) : List QE := L.filter fun e => !decide (e.is a i)
/-- ahead of the first that stands behind -/
def insQ (L : List QE) (x : QE) : List QE :=
  match L with
  | [] => [x]
  | y :: L => if x.due < y.due ∨ x.due = y.due ∧ x.rank < y.rank then x :: y :: L else y :: insQ L x

theorem InOrd.nil (p : Int) : InOrd [] p := ⟨.nil, .nil, by simp⟩
theorem InOrd.sub {L L' : List QE} {p : Int} (h : InOrd L p) (hs : L'.Sublist L) : InOrd L' p := ⟨h.sorted.sublist hs, h.parts.sublist hs, fun e he => h.puts e (hs.subset he)⟩
theorem InOrd.drop {L : List QE} {p : Int} (h : InOrd L p) (a : ByteArray) (i : Int) : InOrd (dropQ L a i) p := h.sub List.filter_sublist
theorem InOrd.more {L : List QE} {p q : Int} (h : InOrd L p) (hq : p ≤ q) : InOrd L q := ⟨h.sorted, h.parts, fun e he => by have := h.puts e he; omega⟩
theorem insQ_perm (L : List QE) (x : QE) : (insQ L x).Perm (x :: L) := by
  induction L with
  | nil => exact List.Perm.refl _
  | cons y L ih =>
    unfold insQ
    split
    · exact List.Perm.refl _
    · exact (ih.cons y).trans (List.Perm.swap _ _ _)
theorem mem_dropQ {L : List QE} {a : ByteArray} {i : Int} {e : QE} : e ∈ dropQ L a i ↔ e ∈ L ∧ ¬ e.is a i := by simp [dropQ]
theorem dropQ_miss {L : List QE} {a : ByteArray} {i : Int} (h : ∀ e ∈ L, ¬ e.is a i) : dropQ L a i = L := by
  unfold dropQ
  rw [List.filter_eq_self]
  intro e he; simp [h e he]
theorem InOrd.ins {L : List QE} {p : Int} (h : InOrd L p) (x : QE) (h0 : 0 ≤ p) (hx : x.put = p + 1) (hp : ∀ e ∈ L, ¬ e.is x.asset x.index) : InOrd (insQ L x) (p + 1) := by
  have key : ∀ L : List QE, L.Pairwise (fun a b => ltQ a b = true) → (∀ e ∈ L, e.put ≤ p) → (insQ L x).Pairwise (fun a b => ltQ a b = true) := by
    intro L
    induction L with
    | nil => intro _ _; simp [insQ]
    | cons y L ih =>
      intro hs hm
      rw [List.pairwise_cons] at hs
      have hy := hm y (by simp)
      unfold insQ
      split
      · next hc =>
        have hxy : ltQ x y = true := by rw [ltQ_iff]; omega
        refine List.pairwise_cons.2 ⟨fun z hz => ?_, List.pairwise_cons.2 hs⟩
        rcases List.mem_cons.1 hz with rfl | hz
        · exact hxy
        · exact ltQ_tr hxy (hs.1 z hz)
      · next hc =>
        refine List.pairwise_cons.2 ⟨fun z hz => ?_, ih hs.2 (fun e he => hm e (by simp [he]))⟩
        rcases List.mem_cons.1 ((insQ_perm L x).mem_iff.1 hz) with rfl | hz
        · rw [ltQ_iff]; omega
        · exact hs.1 z hz
  refine ⟨key L h.sorted (fun e he => (h.puts e he).2), ?_, fun e he => ?_⟩
  · refine ((insQ_perm L x).pairwise_iff (fun {a b} hab => fun k => hab ⟨k.1.symm, k.2.symm⟩)).2 (List.pairwise_cons.2 ⟨fun e he k => ?_, h.parts⟩)
    exact hp e he ⟨k.1.symm, k.2.symm⟩
  · rcases List.mem_cons.1 ((insQ_perm L x).mem_iff.1 he) with rfl | he
    · omega
    · have := h.puts e he; omega
/-- two that are in order and have the same are one -/
theorem sortedQ_unique {L M : List QE} (h : L.Perm M) (hL : L.Pairwise (fun a b => ltQ a b = true)) (hM : M.Pairwise (fun a b => ltQ a b = true)) : L = M := by
  refine h.eq_of_pairwise (le := fun a b => ltQ a b = true) (fun a b _ _ h1 h2 => ?_) hL hM
  have := ordQ.asym a b h1
  rw [this] at h2; cases h2
/-- the heap's first is the list's first -/
theorem heap_head {es L : List QE} (hp : es.Perm L) (hs : L.Pairwise (fun a b => ltQ a b = true)) (hh : Heap ltQ es es.length) (h0 : 0 < es.length) : ∃ L', L = es[0]! :: L' := by
  rcases L with _ | ⟨y, L⟩
  · have := hp.length_eq; rw [List.length_nil] at this; omega
  · refine ⟨L, ?_⟩
    have hy : y ∈ es := hp.mem_iff.2 (by simp)
    have h1 : es[0]! ∈ y :: L := hp.mem_iff.1 (by rw [getE _ _ h0]; exact List.getElem_mem h0)
    rcases List.mem_cons.1 h1 with h1 | h1
    · rw [h1]
    · have h2 := (List.pairwise_cons.1 hs).1 _ h1
      obtain ⟨k, hk, e⟩ := List.getElem_of_mem hy
      have h3 := heap_min ordQ hh ltQ_irr k hk
      rw [getE _ _ hk, e] at h3
      rw [h2] at h3; cases h3
/-- the part's entry is dropped: the others, in order -/
theorem drop_perm {es : List QE} {e : QE} {rest L : List QE} (hp : es.Perm L) (hpp : L.Pairwise (fun a b => ¬ (a.asset = b.asset ∧ a.index = b.index))) (h : es.Perm (e :: rest)) : rest.Perm (dropQ L e.asset e.index) := by
  have h1 : (dropQ L e.asset e.index).Perm (dropQ (e :: rest) e.asset e.index) := (hp.symm.trans h).filter _
  have h2 : (e :: rest).Pairwise (fun a b => ¬ (a.asset = b.asset ∧ a.index = b.index)) := ((hp.symm.trans h).pairwise_iff (fun {a b} hab => fun k => hab ⟨k.1.symm, k.2.symm⟩)).1 hpp
  have h3 : dropQ (e :: rest) e.asset e.index = rest := by
    unfold dropQ
    rw [List.filter_cons_of_neg (by simp [QE.is])]
    rw [List.filter_eq_self]
    intro x hx
    have := (List.pairwise_cons.1 h2).1 x hx
    simp only [Bool.not_eq_true', decide_eq_false_iff_not]
    exact fun k => this ⟨k.1.symm, k.2.symm⟩
  rw [h3] at h1
  exact h1.symm
theorem dropQ_head {e : QE} {L : List QE} (hpp : (e :: L).Pairwise (fun a b => ¬ (a.asset = b.asset ∧ a.index = b.index))) : dropQ (e :: L) e.asset e.index = L := by
  unfold dropQ
  rw [List.filter_cons_of_neg (by simp [QE.is]), List.filter_eq_self]
  intro x hx
  have := (List.pairwise_cons.1 hpp).1 x hx
  simp only [Bool.not_eq_true', decide_eq_false_iff_not]
  exact fun k => this ⟨k.1.symm, k.2.symm⟩
end Go.Proofs.Ythhjioeipjnjmaa
