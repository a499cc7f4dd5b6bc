/- A right spec's text is read back. No program. -/
import Derived.Test.YtoabloeechphkaaDoorCronSh
namespace Go.Proofs.YtoabloeechphkaaDoor

def showT (c : SD) (L : Nat → List (Nat × Nat)) : List UInt8 := Lib.join ((List.range 5).map fun f => fldT (c.any f) (L f)) [32]
theorem right_at {c : SD} (h : c.right = true) {f : Nat} (hf : f < 5) : fldR f (c.set f) (c.any f) = true := by
  unfold SD.right at h
  exact List.all_eq_true.1 h f (List.mem_range.2 hf)
theorem right_in {f s : Nat} {a : Bool} (h : fldR f s a = true) : s ≠ 0 ∧ (∀ j, j < 64 → s.testBit j = true → loF f ≤ j ∧ j ≤ hiF f) ∧ (a = true → s = fullV f) := by
  refine ⟨fun e => ?_, fun j hj hb => ?_, fun ha => ?_⟩
  · unfold fldR at h; rw [e] at h; simp at h
  · by_cases hin : loF f ≤ j ∧ j ≤ hiF f
    · exact hin
    · exfalso
      have : badN f s a j = true := by
        unfold badN
        rw [hb]
        have : (decide (loF f ≤ j) && decide (j ≤ hiF f)) = false := by
          rw [Bool.and_eq_false_iff]
          by_cases h1 : loF f ≤ j
          · exact .inr (decide_eq_false (fun h2 => hin ⟨h1, h2⟩))
          · exact .inl (decide_eq_false h1)
        rw [this]; rfl
      rw [fld_bad hj this] at h; cases h
  · unfold fldR at h
    rw [ha] at h
    simp only [Bool.not_true, Bool.false_or, Bool.and_eq_true, decide_eq_true_eq] at h
    exact h.2.2
theorem join_mem {b c : UInt8} : ∀ {l : List (List UInt8)}, c ∈ Lib.join l [b] → c = b ∨ ∃ t ∈ l, c ∈ t
  | [], h => by rw [Lib.join_nil] at h; cases h
  | x :: r, h => by
    rw [Lib.join_cons] at h
    rcases List.mem_append.1 h with h | h
    · exact .inr ⟨x, by simp, h⟩
    · unfold Lib.joinTail at h
      rw [List.mem_flatten] at h
      obtain ⟨l', h1, h2⟩ := h
      obtain ⟨t, ht, rfl⟩ := List.mem_map.1 h1
      rcases List.mem_cons.1 h2 with h2 | h2
      · exact .inl h2
      · exact .inr ⟨t, by simp [ht], h2⟩
section
variable {c : SD} {f : Nat} {l : List (Nat × Nat)} (hok : c.set f < 18446744073709551616) (hr : fldR f (c.set f) (c.any f) = true) (hL : Runs (c.set f) 0 l)
include hok hr hL
theorem runs_ne : l ≠ [] := by
  intro e
  subst e
  cases hL with
  | nil _ h => exact (right_in hr).1 ((bits_zero hok).2 (fun j hj => h j (Nat.zero_le _) hj))
theorem runs_all : ∀ r ∈ l, r.1 ≤ r.2 ∧ r.2 < 64 ∧ loF f ≤ r.1 ∧ r.2 ≤ hiF f := fun r hm => by
  have _ := hok
  obtain ⟨h1, h2, h3, h4⟩ := runs_in hL r hm
  obtain ⟨-, hi, -⟩ := right_in hr
  exact ⟨h1, h2, (hi _ (by omega) h3).1, (hi _ h2 h4).2⟩
theorem fldT_items : ∀ t ∈ l.map runT, (44 : UInt8) ∉ t := fun t ht hm => by
  obtain ⟨r, hr', rfl⟩ := List.mem_map.1 ht
  obtain ⟨h1, h2, -, -⟩ := runs_all hok hr hL r hr'
  rcases (runT_chars (r := r) (by omega) h2).1 44 hm with h | h
  · exact absurd h (by decide)
  · exact absurd h (by decide)
theorem fldT_no32 : (32 : UInt8) ∉ fldT (c.any f) l := by
  intro hm
  unfold fldT at hm
  split at hm
  · simp at hm
  · rcases join_mem hm with h | ⟨t, ht, h⟩
    · exact absurd h (by decide)
    · obtain ⟨r, hr', rfl⟩ := List.mem_map.1 ht
      obtain ⟨h1, h2, -, -⟩ := runs_all hok hr hL r hr'
      rcases (runT_chars (r := r) (by omega) h2).1 32 h with h | h
      · exact absurd h (by decide)
      · exact absurd h (by decide)
theorem fldT_head : c.any f = false → ∃ x, (fldT (c.any f) l).head? = some x ∧ digB x = true := fun ha => by
  have hne := runs_ne hok hr hL
  unfold fldT
  rw [ha, if_neg (by simp)]
  cases l with
  | nil => exact absurd rfl hne
  | cons r r2 =>
    obtain ⟨h1, h2, -, -⟩ := runs_all hok hr hL r (by simp)
    obtain ⟨-, hn, -, x, hx, hd⟩ := runT_chars (r := r) (by omega) h2
    rw [List.map_cons, Lib.join_cons]
    cases ht : runT r with
    | nil => exact absurd ht hn
    | cons y q =>
      rw [ht] at hx
      exact ⟨x, by rw [List.cons_append]; exact hx, hd⟩
theorem fldT_ne : fldT (c.any f) l ≠ [] := by
  rcases ha : c.any f with _ | _
  · obtain ⟨x, hx, -⟩ := fldT_head hok hr hL ha
    rw [ha] at hx
    intro e
    rw [e] at hx; cases hx
  · simp [fldT]
theorem field_show {cc : SD} (hz : cc.set f = 0 ∧ cc.any f = false) : fieldV f (fldT (c.any f) l) cc = (0, cc.put f (c.set f) (c.any f)) := by
  rcases ha : c.any f with _ | _
  · obtain ⟨x, hx, hd⟩ := fldT_head hok hr hL ha
    rw [ha] at hx
    have hne : ¬ fldT false l = [42] := fun e => by
      rw [e] at hx
      simp at hx
      rw [← hx, dig42] at hd; cases hd
    have hsp : splitV (fldT false l) [44] = l.map runT := by
      unfold fldT
      rw [if_neg (by simp)]
      exact split_join 44 _ (by simp [runs_ne hok hr hL]) (fldT_items hok hr hL)
    rw [fieldV_items f _ cc hne (l.map runT) hsp.symm, items_runs l _ (runs_all hok hr hL), hz.1, hz.2, Nat.zero_or, runs_or hok hL, fromB_zero]
  · show fieldV f (fldT true l) cc = _
    have : fldT true l = [42] := rfl
    rw [this, fieldV_star, (right_in hr).2.2 ha]
end
theorem fields_show {c : SD} {L : Nat → List (Nat × Nat)} (hok : c.Ok) (hr : c.right = true) (hL : ∀ f, f < 5 → Runs (c.set f) 0 (L f)) : ∀ (d f : Nat) (cc : SD), f + d = 5 → (∀ j, f ≤ j → cc.set j = 0 ∧ cc.any j = false) →
    ∃ c', fieldsV f ((List.range' f d).map fun f => fldT (c.any f) (L f)) cc = (0, c') ∧ (∀ j, j < f → c'.set j = cc.set j ∧ c'.any j = cc.any j) ∧ ∀ j, f ≤ j → j < 5 → c'.set j = c.set j ∧ c'.any j = c.any j
  | 0, f, cc, hf, _ => ⟨cc, rfl, fun j _ => ⟨rfl, rfl⟩, fun j h1 h2 => by omega⟩
  | d + 1, f, cc, hf, hz => by
    have h1 := field_show (hok f (by omega)) (right_at hr (by omega)) (hL f (by omega)) (hz f (Nat.le_refl _))
    obtain ⟨c', h2, h3, h4⟩ := fields_show hok hr hL d (f + 1) (cc.put f (c.set f) (c.any f)) (by omega) (fun j hj => by
      rw [put_set_ne _ _ _ _ _ (by omega), put_any_ne _ _ _ _ _ (by omega)]; exact hz j (by omega))
    refine ⟨c', ?_, fun j hj => ?_, fun j hj1 hj2 => ?_⟩
    · rw [List.range'_succ, List.map_cons, fieldsV_cons, h1, if_pos rfl]; exact h2
    · obtain ⟨e1, e2⟩ := h3 j (by omega)
      rw [e1, e2, put_set_ne _ _ _ _ _ (by omega), put_any_ne _ _ _ _ _ (by omega)]; exact ⟨rfl, rfl⟩
    · by_cases e : j = f
      · subst e
        obtain ⟨e1, e2⟩ := h3 j (by omega)
        rw [e1, e2, put_set, put_any]; exact ⟨rfl, rfl⟩
      · exact h4 j (by omega) hj2
theorem show_parse {c : SD} {L : Nat → List (Nat × Nat)} (hok : c.Ok) (hr : c.right = true) (hL : ∀ f, f < 5 → Runs (c.set f) 0 (L f)) : (parseC (showT c L)).1 = 0 ∧ (parseC (showT c L)).2.val = c.val := by
  have hT : ∀ t ∈ (List.range 5).map (fun f => fldT (c.any f) (L f)), (32 : UInt8) ∉ t ∧ t ≠ [] := fun t ht => by
    obtain ⟨f, hf, rfl⟩ := List.mem_map.1 ht
    have hf5 := List.mem_range.1 hf
    exact ⟨fldT_no32 (hok f hf5) (right_at hr hf5) (hL f hf5), fldT_ne (hok f hf5) (right_at hr hf5) (hL f hf5)⟩
  have hsp : splitV (showT c L) [32] = (List.range 5).map (fun f => fldT (c.any f) (L f)) := split_join 32 _ (by simp [List.range_succ]) (fun t ht => (hT t ht).1)
  have hne : ne ((List.range 5).map (fun f => fldT (c.any f) (L f))) = (List.range 5).map (fun f => fldT (c.any f) (L f)) := by
    unfold ne
    rw [List.filter_eq_self]
    intro t ht
    simp [(hT t ht).2]
  have hlast := last_of (showT c L)
  rw [hsp] at hlast
  have hbad : badF (showT c L) = false := by
    rw [bad_iff (fun h => ?_) (fun h => ?_), hsp, hne]
    · simp
    · rw [hsp] at h
      exact (hT [] (List.mem_of_getElem? h)).2 rfl
    · rw [h] at hlast
      exact (hT [] (List.mem_of_getElem? hlast)).2 rfl
  obtain ⟨c', h2, -, h4⟩ := fields_show hok hr hL 5 0 zeroC (by omega) (fun j _ => ⟨rfl, rfl⟩)
  rw [← List.range_eq_range'] at h2
  have hp : parseC (showT c L) = (0, c') := by
    unfold parseC
    rw [hbad, if_neg (by simp), hsp, hne, h2, if_pos rfl]
  rw [hp]
  refine ⟨rfl, ?_⟩
  show c'.val = c.val
  unfold SD.val SD.row
  rw [(h4 0 (by omega) (by omega)).1, (h4 0 (by omega) (by omega)).2, (h4 1 (by omega) (by omega)).1, (h4 1 (by omega) (by omega)).2, (h4 2 (by omega) (by omega)).1, (h4 2 (by omega) (by omega)).2, (h4 3 (by omega) (by omega)).1, (h4 3 (by omega) (by omega)).2, (h4 4 (by omega) (by omega)).1, (h4 4 (by omega) (by omega)).2]
theorem fldT_len {a : Bool} {l : List (Nat × Nat)} (h : ∀ r ∈ l, r.1 < 64 ∧ r.2 < 64) : (fldT a l).length ≤ 6 * l.length + 1 := by
  unfold fldT
  split
  · simp
  · have gen : ∀ l : List (Nat × Nat), (∀ r ∈ l, r.1 < 64 ∧ r.2 < 64) → (Lib.joinTail [44] (l.map runT)).length ≤ 6 * l.length := fun l => by
      induction l with
      | nil => simp [Lib.joinTail]
      | cons r l ih =>
        intro h
        have h1 := ih (fun x hx => h x (by simp [hx]))
        have h2 := (runT_chars (h r (by simp)).1 (h r (by simp)).2).2.2.1
        have e : Lib.joinTail [44] ((r :: l).map runT) = 44 :: (runT r ++ Lib.joinTail [44] (l.map runT)) := by simp [Lib.joinTail]
        rw [e]; simp; omega
    cases l with
    | nil => simp [Lib.join_nil]
    | cons r l =>
      have h1 := gen l (fun x hx => h x (by simp [hx]))
      have h2 := (runT_chars (h r (by simp)).1 (h r (by simp)).2).2.2.1
      rw [List.map_cons, Lib.join_cons]; simp; omega
end Go.Proofs.YtoabloeechphkaaDoor
