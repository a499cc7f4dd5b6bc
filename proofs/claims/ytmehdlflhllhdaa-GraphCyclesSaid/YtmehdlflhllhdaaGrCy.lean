/- A row of nodes, each of which needs the one ahead; closed to a ring. Plainly. -/
import Derived.Test.YtmehdlflhllhdaaGrF
namespace Go.Proofs.Ytmehdlflhllhdaa
open Go.RowKit

/-- what node a needs, when the rows below i are laid -/
def rowC (i a : Nat) : List Int := if 1 ≤ a ∧ a < i then [(a : Int) - 1] else []
/-- the row of n nodes -/
def cyL (n : Nat) : List (List Int) := (List.range n).map (rowC n)
theorem cyL_length (n : Nat) : (cyL n).length = n := by simp [cyL]
theorem cyL_get (n a : Nat) : (cyL n).getD a [] = rowC n a := by
  unfold cyL
  rcases Nat.lt_or_ge a n with h | h
  · simp [h]
  · rw [List.getD_eq_getElem?_getD, List.getElem?_eq_none (by simpa using h)]
    unfold rowC; rw [if_neg (by omega)]; rfl
theorem cyL_all (n : Nat) : ∀ l ∈ cyL n, allN n l = true := by
  intro l hl
  unfold cyL at hl
  obtain ⟨a, ha, rfl⟩ := List.mem_map.1 hl
  have := List.mem_range.1 ha
  unfold rowC
  split
  · simp [allN, nodeB_iff]; omega
  · rfl
theorem cy_edge (n a b : Nat) : b ∈ nsOf (nsL n (cyL n)) a ↔ 1 ≤ a ∧ a < n ∧ b + 1 = a := by
  rw [nsOf_nsL n (cyL n) (by rw [cyL_length]; exact Nat.le_refl _), mem_rowU (allN_getD (cyL_all n) a), cyL_get]
  unfold rowC
  split
  · simp; omega
  · simp; omega
theorem cy_way (n a b : Nat) : Way (edge (nsL n (cyL n))) a b ↔ b < a ∧ a < n := by
  have hE : ∀ x y, edge (nsL n (cyL n)) x y = true ↔ 1 ≤ x ∧ x < n ∧ y + 1 = x := fun x y => by unfold edge; rw [decide_eq_true_iff]; exact cy_edge n x y
  constructor
  · intro w
    induction w with
    | one h => have := (hE _ _).1 h; omega
    | more h _ ih => have := (hE _ _).1 h; omega
  · rintro ⟨h1, h2⟩
    induction a with
    | zero => omega
    | succ a ih =>
      by_cases e : b = a
      · exact .one ((hE _ _).2 (by omega))
      · exact .more (b := a) ((hE _ _).2 (by omega)) (ih (by omega) (by omega))
theorem cy_ring (n : Nat) : ¬ Ring (nsL n (cyL n)) := fun ⟨a, _, w⟩ => by have := (cy_way n a a).1 w; omega
theorem cy_deep (n : Nat) : Deep (nsL n (cyL n)) (fun k => if k < n then k else 0) where
  up := fun k x hx => by
    have := (cy_edge n k x).1 hx
    (try simp only)
    rw [if_pos (by omega), if_pos (by omega)]; omega
  most := fun k => by
    by_cases h : 1 ≤ k ∧ k < n
    · right
      exact ⟨k - 1, (cy_edge n k (k - 1)).2 (by omega), by (try simp only); rw [if_pos (by omega), if_pos (by omega)]; omega⟩
    · left
      (try simp only)
      split <;> omega
theorem mostV_range (n : Nat) : mostV (List.range n) = (n : Int) - 1 := by
  induction n with
  | zero => rfl
  | succ n ih =>
    have := mostV_take (List.range (n + 1)) n (by simp)
    rw [List.take_of_length_le (by simp), List.take_range, Nat.min_eq_left (by omega), ih] at this
    rw [this]
    simp; omega
theorem cy_most {n : Nat} {ds : List Nat} (hl : ds.length = n) (h : Deep (nsL n (cyL n)) fun k => ds.getD k 0) : mostV ds = (n : Int) - 1 := by
  have e : ds = List.range n := by
    apply List.ext_getElem
    · simp [hl]
    · intro i h1 h2
      have := h.one (cy_deep n) _ i rfl
      (try simp only at this)
      rw [if_pos (by omega)] at this
      simp [h1] at this
      simp [this]
  rw [e, mostV_range]
theorem count_le (n at_ : Nat) (h : at_ < n) : (pick n fun a => decide (a ≤ at_)).length = at_ + 1 := by
  have : pick n (fun a => decide (a ≤ at_)) = List.range (at_ + 1) := by
    rw [pick_more (fun a => decide (a ≤ at_)) (at_ + 1) n (by omega) (fun r hr => by simp; omega)]
    unfold pick
    exact List.filter_eq_self.2 (fun x hx => by have := List.mem_range.1 hx; simp; omega)
  rw [this]; simp
theorem count_split (n : Nat) (p : Nat → Bool) : (pick n p).length + (pick n fun a => !p a).length = n := by
  induction n with
  | zero => simp [pick]
  | succ n ih =>
    rw [pick_succ, pick_succ]
    cases p n <;> simp <;> omega
theorem count_ge (n at_ : Nat) (h : at_ < n) : (pick n fun a => decide (at_ ≤ a)).length = n - at_ := by
  rcases at_ with _ | t
  · have : pick n (fun a => decide (0 ≤ a)) = List.range n := by
      unfold pick; exact List.filter_eq_self.2 (fun x _ => by simp)
    rw [this]; simp
  · have h1 := count_split n fun a => decide (a ≤ t)
    rw [count_le n t (by omega)] at h1
    have e : (fun a => !decide (a ≤ t)) = fun a => decide (t + 1 ≤ a) := by
      funext a
      rw [Bool.eq_iff_iff]; simp; omega
    rw [e] at h1
    omega
theorem cy_up (n at_ : Nat) (h : at_ < n) : (upN (nsL n (cyL n)) [(at_ : Int)]).length = at_ + 1 := by
  unfold upN
  rw [nsL_length, reachN_eq (q := fun a => decide (a ≤ at_)), count_le n at_ h]
  intro a ha
  rw [decide_eq_true_iff]
  constructor
  · rintro (h | ⟨b, hb, _, w⟩)
    · simp at h; omega
    · have := (cy_way n b a).1 w
      simp at hb; omega
  · intro hle
    rcases Nat.lt_or_ge a at_ with q | q
    · exact .inr ⟨at_, by simp, h, (cy_way n at_ a).2 ⟨q, h⟩⟩
    · left; simp; omega
theorem cy_dn (n at_ : Nat) (h : at_ < n) : (dnN (nsL n (cyL n)) [(at_ : Int)]).length = n - at_ := by
  unfold dnN
  rw [nsL_length, reachN_eq (q := fun a => decide (at_ ≤ a)), count_ge n at_ h]
  intro a ha
  rw [decide_eq_true_iff]
  constructor
  · rintro (h | ⟨b, hb, _, w⟩)
    · simp at h; omega
    · have w2 := Way.turn (s := edge (nsL n (cyL n))) (fun _ _ => rfl) w
      have := (cy_way n a b).1 w2
      simp at hb; omega
  · intro hle
    rcases Nat.lt_or_ge at_ a with q | q
    · exact .inr ⟨at_, by simp, h, Way.turn (s := fun a b => edge (nsL n (cyL n)) b a) (fun _ _ => rfl) ((cy_way n a at_).2 ⟨q, ha⟩)⟩
    · left; simp; omega

/-- closed to a ring -/
def riL (n at_ : Nat) : List (List Int) := (cyL n).set at_ (rowC n at_ ++ [(n : Int) - 1])
theorem riL_length (n at_ : Nat) : (riL n at_).length = n := by simp [riL, cyL]
theorem riL_get (n at_ a : Nat) (h : at_ < n) : (riL n at_).getD a [] = if a = at_ then rowC n at_ ++ [(n : Int) - 1] else rowC n a := by
  unfold riL
  by_cases e : a = at_
  · subst e; simp [cyL_length, h]
  · rw [if_neg e, List.getD_eq_getElem?_getD, List.getElem?_set_ne (by omega), ← List.getD_eq_getElem?_getD]
    exact cyL_get n a
theorem riL_all (n at_ : Nat) (h : at_ < n) : ∀ l ∈ riL n at_, allN n l = true := by
  intro l hl
  unfold riL at hl
  rcases List.mem_or_eq_of_mem_set hl with q | rfl
  · exact cyL_all n l q
  · unfold allN
    rw [List.all_append]
    have h1 : (rowC n at_).all (nodeB n) = true := by
      have := cyL_all n (rowC n at_) (by unfold cyL; exact List.mem_map.2 ⟨at_, List.mem_range.2 h, rfl⟩)
      exact this
    rw [h1]
    simp [nodeB_iff]; omega
theorem ri_edge (n at_ a b : Nat) (h : at_ < n) : b ∈ nsOf (nsL n (riL n at_)) a ↔ (1 ≤ a ∧ a < n ∧ b + 1 = a) ∨ (a = at_ ∧ b + 1 = n) := by
  rw [nsOf_nsL n (riL n at_) (by rw [riL_length]; exact Nat.le_refl _), mem_rowU (allN_getD (riL_all n at_ h) a), riL_get n at_ a h]
  split
  · rename_i e
    subst e
    unfold rowC
    split
    · simp; omega
    · simp; omega
  · unfold rowC
    split
    · simp; omega
    · simp; omega
theorem ri_ring (n at_ : Nat) (h : at_ < n) : Ring (nsL n (riL n at_)) := by
  have hE : ∀ x y, edge (nsL n (riL n at_)) x y = true ↔ (1 ≤ x ∧ x < n ∧ y + 1 = x) ∨ (x = at_ ∧ y + 1 = n) := fun x y => by unfold edge; rw [decide_eq_true_iff]; exact ri_edge n at_ x y h
  have hw : ∀ a, at_ < a → a < n → Way (edge (nsL n (riL n at_))) a at_ := by
    intro a
    induction a with
    | zero => intro q; omega
    | succ a ih =>
      intro h1 h2
      by_cases e : a = at_
      · exact .one ((hE _ _).2 (by omega))
      · exact .more (b := a) ((hE _ _).2 (by omega)) (ih (by omega) (by omega))
  refine ⟨at_, by rw [nsL_length]; exact h, ?_⟩
  by_cases e : at_ + 1 = n
  · exact .one ((hE _ _).2 (by omega))
  · exact .more (b := n - 1) ((hE _ _).2 (by omega)) (hw (n - 1) (by omega) (by omega))
end Go.Proofs.Ytmehdlflhllhdaa
