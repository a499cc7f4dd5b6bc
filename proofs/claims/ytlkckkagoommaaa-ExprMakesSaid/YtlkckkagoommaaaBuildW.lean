/- What is built hangs on those that it takes, and tells them. No walk. -/
import Derived.Test.YtlkckkagoommaaaBuildV
namespace Go.Proofs.Ytlkckkagoommaaa
open Go.RowKit

/-- as many Args each -/
def SameC (l r : List PL) : Prop := l.map PL.cnt = r.map PL.cnt
theorem SameC.drop {l r : List PL} (h : SameC l r) (n : Nat) : SameC (l.drop n) (r.drop n) := by unfold SameC at h ⊢; rw [List.map_drop, List.map_drop, h]
theorem SameC.len {l r : List PL} (h : SameC l r) : l.length = r.length := by have := congrArg List.length h; simpa using this
theorem SameC.tail {l r : List PL} (h : SameC l r) : SameC l.tail r.tail := by have := h.drop 1; rwa [List.drop_one, List.drop_one] at this
theorem SameC.head {l r : List PL} (h : SameC l r) : (l.headD zeroP).cnt = (r.headD zeroP).cnt := by
  cases l with
  | nil => cases r with
    | nil => rfl
    | cons b r => cases h
  | cons a l => cases r with
    | nil => cases h
    | cons b r => exact (List.cons.inj h).1
theorem SameC.nil {l r : List PL} (h : SameC l r) (hl : l ≠ []) : r ≠ [] := fun q => by
  have := h.len
  rw [q] at this
  exact hl (List.eq_nil_of_length_eq_zero (by simpa using this))
theorem kids_same {α : Type} {f : List PL → α × Nat} (hf : ∀ l r, SameC l r → (f l).2 = (f r).2) : ∀ (k : Nat) (l r : List PL), SameC l r → (kidsX f k l).2 = (kidsX f k r).2
  | 0, l, r => fun _ => by rw [kidsX_zero, kidsX_zero]
  | k + 1, l, r => fun h => by
    by_cases hl : l = []
    · subst hl
      have : r = [] := List.eq_nil_of_length_eq_zero (by have := h.len; simpa using this.symm)
      rw [this]
    · rw [kidsX_step f k hl, kidsX_step f k (h.nil hl)]
      have h1 := hf l r h
      have h2 := kids_same hf k _ _ (h.drop (f l).2)
      simp only
      rw [h1] at h2 ⊢
      rw [h2]
theorem build_same : ∀ (m : Nat) (l r : List PL), SameC l r → (buildX m l).2 = (buildX m r).2
  | 0, _, _ => fun _ => rfl
  | m + 1, l, r => fun h => by
    rw [buildX_succ, buildX_succ]
    simp only
    rw [h.head, kids_same (build_same m) _ _ _ h.tail]
theorem take_parts {α : Type} {l r : List α} {a b : Nat} (h : l.take (a + b) = r.take (a + b)) : l.take a = r.take a ∧ (l.drop a).take b = (r.drop a).take b := by
  constructor
  · have := congrArg (List.take a) h
    rwa [List.take_take, List.take_take, Nat.min_eq_left (by omega)] at this
  · have := congrArg (List.drop a) h
    rwa [List.drop_take, List.drop_take, Nat.add_sub_cancel_left] at this
theorem kids_agree {α : Type} {f : List PL → α × Nat} (hf : ∀ l r, SameC l r → l ≠ [] → l.take (f l).2 = r.take (f l).2 → (f l).1 = (f r).1) (hf2 : ∀ l r, SameC l r → (f l).2 = (f r).2) :
    ∀ (k : Nat) (l r : List PL), SameC l r → l.take (kidsX f k l).2 = r.take (kidsX f k l).2 → (kidsX f k l).1 = (kidsX f k r).1
  | 0, l, r => fun _ _ => by rw [kidsX_zero, kidsX_zero]
  | k + 1, l, r => fun h ha => by
    by_cases hl : l = []
    · subst hl
      have : r = [] := List.eq_nil_of_length_eq_zero (by have := h.len; simpa using this.symm)
      rw [this]
    · rw [kidsX_step f k hl] at ha
      simp only at ha
      obtain ⟨h1, h2⟩ := take_parts ha
      rw [kidsX_step f k hl, kidsX_step f k (h.nil hl), ← hf2 l r h, hf l r h hl h1, kids_agree hf hf2 k _ _ (h.drop _) h2]
theorem build_agree : ∀ (m : Nat) (l r : List PL), SameC l r → l ≠ [] → l.take (buildX m l).2 = r.take (buildX m l).2 → (buildX m l).1 = (buildX m r).1
  | 0, l, r => fun h hl ha => by
    cases l with
    | nil => exact absurd rfl hl
    | cons a l => cases r with
      | nil => cases h
      | cons b r =>
        have : a = b := (List.cons.inj ha).1
        subst this; rfl
  | m + 1, l, r => fun h hl ha => by
    cases l with
    | nil => exact absurd rfl hl
    | cons a l => cases r with
      | nil => cases h
      | cons b r =>
        rw [buildX_succ] at ha
        simp only [List.headD_cons, List.tail_cons] at ha
        rw [Nat.add_comm, List.take_succ_cons, List.take_succ_cons] at ha
        obtain ⟨h1, h2⟩ := List.cons.inj ha
        subst h1
        rw [buildX_succ, buildX_succ]
        simp only [List.headD_cons, List.tail_cons]
        exact congrArg (fun q => ((a.nd, q) : TX (m + 2))) (kids_agree (build_agree m) (build_same m) _ l r h.tail h2)
/-- an expression and those within, in a row -/
def flatX : (n : Nat) → TX n → List ND
  | 0, _ => []
  | n + 1, e => e.1 :: e.2.flatMap (flatX n)
theorem kids_flat {m : Nat} {f : List PL → TX (m + 1) × Nat} (hf : ∀ l, l ≠ [] → flatX (m + 1) (f l).1 = (l.take (f l).2).map PL.nd) : ∀ (k : Nat) (l : List PL), (kidsX f k l).1.flatMap (flatX (m + 1)) = (l.take (kidsX f k l).2).map PL.nd
  | 0, l => by rw [kidsX_zero]; rfl
  | k + 1, l => by
    by_cases hl : l = []
    · subst hl; rw [kidsX_nil]; rfl
    · rw [kidsX_step f k hl]
      simp only
      rw [List.flatMap_cons, hf l hl, kids_flat hf k, List.take_add, List.map_append]
theorem build_flat : ∀ (m : Nat) (l : List PL), l ≠ [] → flatX (m + 1) (buildX m l).1 = (l.take (buildX m l).2).map PL.nd
  | 0, l => fun hl => by
    cases l with
    | nil => exact absurd rfl hl
    | cons a l => rfl
  | m + 1, l => fun hl => by
    cases l with
    | nil => exact absurd rfl hl
    | cons a l =>
      rw [buildX_succ]
      simp only [List.headD_cons, List.tail_cons]
      show a.nd :: List.flatMap (flatX (m + 1)) _ = _
      rw [kids_flat (build_flat m), Nat.add_comm 1, List.take_succ_cons, List.map_cons]
/-- a list that differs in one thing makes another expression just if the thing is taken -/
theorem build_other (m : Nat) (l r : List PL) (i : Nat) (hi : i < l.length) (h : SameC l r) (hr : ∀ j, j ≠ i → r[j]? = l[j]?) (hn : ∀ a b, l[i]? = some a → r[i]? = some b → a.nd ≠ b.nd) :
    (buildX m l).1 = (buildX m r).1 ↔ (buildX m l).2 ≤ i := by
  have hl : l ≠ [] := fun q => by rw [q] at hi; simp at hi
  constructor
  · intro he
    rcases Nat.lt_or_ge i (buildX m l).2 with hlt | hge
    · exfalso
      have h1 := build_flat m l hl
      have h2 := build_flat m r (h.nil hl)
      rw [← he, ← build_same m l r h] at h2
      rw [h1] at h2
      have h3 := congrArg (fun x : List ND => x[i]?) h2
      have hi2 : i < r.length := by rw [← h.len]; exact hi
      simp only [List.getElem?_map, List.getElem?_take, if_pos hlt, List.getElem?_eq_getElem hi, List.getElem?_eq_getElem hi2, Option.map_some, Option.some.injEq] at h3
      exact hn _ _ (List.getElem?_eq_getElem hi) (List.getElem?_eq_getElem hi2) h3
    · exact hge
  · intro hge
    refine build_agree m l r h hl (List.ext_getElem? fun j => ?_)
    rw [List.getElem?_take, List.getElem?_take]
    split
    · exact (hr j (by omega)).symm
    · rfl
end Go.Proofs.Ytlkckkagoommaaa
