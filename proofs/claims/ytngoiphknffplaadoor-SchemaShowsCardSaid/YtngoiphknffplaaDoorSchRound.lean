/- The text of a right schema is read back as this schema: in plain words, no program. -/
import Derived.Test.YtngoiphknffplaaDoorSchShow
namespace Go.Proofs.YtngoiphknffplaaDoor
open Go.RowKit

theorem index_app (c : UInt8) (tl rest p : List UInt8) (h : ∀ x ∈ p, x ≠ c) : Lib.index (p ++ (c :: tl ++ rest)) (c :: tl) = p.length := by
  refine Lib.index_first (by simp) ?_ ?_
  · unfold Lib.occAt
    rw [List.drop_left, List.isPrefixOf_iff_prefix]
    exact List.prefix_append _ _
  · intro j hj
    rw [Bool.eq_false_iff]
    intro ho
    have h1 := Lib.occAt_head rfl ho
    rw [List.getElem?_append_left hj] at h1
    exact h c (List.mem_of_getElem? h1) rfl
theorem index_no (c : UInt8) (tl p : List UInt8) (h : ∀ x ∈ p, x ≠ c) : Lib.index p (c :: tl) = -1 := by
  refine Lib.index_none fun j _ => ?_
  rw [Bool.eq_false_iff]
  intro ho
  exact h c (List.mem_of_getElem? (Lib.occAt_head rfl ho)) rfl

theorem join_two (x y : List UInt8) (r : List (List UInt8)) (sep : List UInt8) : Lib.join (x :: y :: r) sep = x ++ (sep ++ Lib.join (y :: r) sep) := by
  rw [Lib.join_cons, Lib.join_cons]
  simp [Lib.joinTail]

theorem splitF_join (c : UInt8) (tl : List UInt8) : ∀ (r : List (List UInt8)) (x : List UInt8) (f : Nat), (∀ p ∈ x :: r, ∀ u ∈ p, u ≠ c) → (Lib.join (x :: r) (c :: tl)).length ≤ f → splitF (c :: tl) f (Lib.join (x :: r) (c :: tl)) = x :: r
  | [], x, f, h, hf => by
    rw [Lib.join_one]
    cases f with
    | zero => rfl
    | succ f =>
      unfold splitF
      rw [if_pos (index_no c tl x (h x List.mem_cons_self))]
  | y :: r, x, f, h, hf => by
    rw [join_two] at hf ⊢
    cases f with
    | zero => simp at hf
    | succ f =>
      have hi := index_app c tl (Lib.join (y :: r) (c :: tl)) x (h x List.mem_cons_self)
      unfold splitF
      rw [hi, if_neg (by omega), Int.toNat_natCast, List.take_left]
      have hd : (x ++ (c :: tl ++ Lib.join (y :: r) (c :: tl))).drop (x.length + (c :: tl).length) = Lib.join (y :: r) (c :: tl) := by
        rw [← List.append_assoc, ← List.length_append, List.drop_left]
      rw [hd, splitF_join c tl r y f (fun p hp => h p (List.mem_cons_of_mem _ hp)) (by simp at hf ⊢; omega)]

theorem nameV_inn {s : List UInt8} (h : nameV s = true) : ∀ x ∈ s, innB x = true := by
  cases s with
  | nil => cases h
  | cons c r =>
    rw [nameV_cons, Bool.and_eq_true, Bool.and_eq_true] at h
    exact List.all_eq_true.1 h.2.2
theorem name_no {s : List UInt8} (h : nameV s = true) (c : UInt8) (hc : innB c = false) : ∀ x ∈ s, x ≠ c := fun x hx e => by
  have := nameV_inn h x hx
  rw [e, hc] at this
  cases this
theorem word_no (t : Int) : ∀ x ∈ wordV t, x ≠ 44 := by
  unfold wordV
  split <;> decide
theorem part_no {c : CD} (h : nameV c.name.data.toList = true) : ∀ x ∈ partV c, x ≠ 44 := fun x hx => by
  unfold partV at hx
  rcases List.mem_append.1 hx with e | e
  · exact name_no h 44 (by decide) x e
  · rcases List.mem_cons.1 e with e | e
    · rw [e]; decide
    · exact word_no _ x e
theorem colV_part {c : CD} (h : nameV c.name.data.toList = true) (ht : c.typ = 1 ∨ c.typ = 2) : colV (partV c) = c := by
  have hi : Lib.index (partV c) [32] = c.name.data.toList.length := index_app 32 [] (wordV c.typ) _ (name_no h 32 (by decide))
  have hcut : Lib.cut (partV c) [32] = (c.name.data.toList, wordV c.typ, true) := by
    unfold Lib.cut
    rw [hi, if_pos (by omega), Int.toNat_natCast]
    unfold partV
    rw [List.take_left]
    have hd : (c.name.data.toList ++ 32 :: wordV c.typ).drop (c.name.data.toList.length + [(32 : UInt8)].length) = wordV c.typ := by
      rw [show c.name.data.toList ++ 32 :: wordV c.typ = (c.name.data.toList ++ [32]) ++ wordV c.typ by simp, ← List.length_append, List.drop_left]
    rw [hd]
  have hw : typV (wordV c.typ) = c.typ := by
    rcases ht with e | e <;> rw [e] <;> rfl
  unfold colV
  rw [hcut]
  simp only [hw]

theorem body_text (cs : List CD) : bodyV (textV cs) = Lib.join (cs.map partV) [44, 32] := by
  unfold bodyV textV
  have h1 : Lib.trimPrefix (40 :: (Lib.join (cs.map partV) [44, 32] ++ [41])) [40] = Lib.join (cs.map partV) [44, 32] ++ [41] := by
    unfold Lib.trimPrefix Lib.hasPrefix
    simp
  rw [h1]
  unfold Lib.trimSuffix Lib.hasSuffix
  simp

theorem cols_text {cs : List CD} (h : checkV cs = 0) : colsV (textV cs) = cs := by
  obtain ⟨h1, _, h2⟩ := check_zero h
  have hall : ∀ c ∈ cs, nameV c.name.data.toList = true ∧ (c.typ = 1 ∨ c.typ = 2) := fun c hc => by
    obtain ⟨j, hj, rfl⟩ := List.mem_iff_getElem.1 hc
    exact h2 j hj
  unfold colsV splitV
  rw [body_text]
  cases cs with
  | nil => simp at h1
  | cons c r =>
    rw [List.map_cons, splitF_join 44 [32] (r.map partV) (partV c) _ (fun p hp => by
      rcases List.mem_cons.1 hp with e | e
      · rw [e]; exact part_no (hall c List.mem_cons_self).1
      · obtain ⟨d, hd, rfl⟩ := List.mem_map.1 e
        exact part_no (hall d (List.mem_cons_of_mem _ hd)).1) (Nat.le_refl _), List.map_cons, colV_part (hall c List.mem_cons_self).1 (hall c List.mem_cons_self).2]
    congr 1
    rw [List.map_map]
    conv => rhs; rw [← List.map_id r]
    exact List.map_congr_left fun d hd => colV_part (hall d (List.mem_cons_of_mem _ hd)).1 (hall d (List.mem_cons_of_mem _ hd)).2
theorem text_len {cs : List CD} (h : checkV cs = 0) : (textV cs).length ≤ 370 := by
  have := parts_length h cs.length
  rw [List.take_length] at this
  unfold textV
  simp
  omega
theorem text_ne (cs : List CD) : textV cs ≠ [] := by unfold textV; simp
end Go.Proofs.YtngoiphknffplaaDoor
