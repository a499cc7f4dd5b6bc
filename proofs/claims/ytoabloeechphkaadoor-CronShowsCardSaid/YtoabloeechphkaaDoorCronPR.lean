/- A spec that is read is right. No program. -/
import Derived.Test.YtoabloeechphkaaDoorCronPEq
namespace Go.Proofs.YtoabloeechphkaaDoor

/-- a set within a field -/
def InF (f s : Nat) : Prop := s < 18446744073709551616 ∧ ∀ j, j < 64 → s.testBit j = true → loF f ≤ j ∧ j ≤ hiF f
theorem InF.or {f s t : Nat} (h : InF f s) (k : InF f t) : InF f (s ||| t) :=
  ⟨or_lt h.1 k.1, fun j hj hb => by
    rw [Nat.testBit_or, Bool.or_eq_true] at hb
    rcases hb with hb | hb
    · exact h.2 j hj hb
    · exact k.2 j hj hb⟩
theorem InF.right {f s : Nat} (h : InF f s) (h0 : s ≠ 0) : fldR f s false = true := by
  have := fld_good (f := f) (any := false) h.1 (fun n hn => by
    unfold badN
    rcases hb : s.testBit n with _ | _
    · simp
    · obtain ⟨h1, h2⟩ := h.2 n hn hb
      rw [decide_eq_true h1, decide_eq_true h2]; rfl)
  rw [this, decide_eq_false h0]; rfl
theorem full_right0 : (List.range 5).all (fun f => fldR f (fullV f) true) = true := by kernel_rfl
theorem full_right (f : Nat) (hf : f < 5) : fldR f (fullV f) true = true := List.all_eq_true.1 full_right0 f (List.mem_range.2 hf)
theorem tail_in {f : Nat} {fr to st : Int} {v : Nat} (hf0 : 0 ≤ fr) (h : tailV (loF f) (hiF f) fr to st = (v, 0)) : InF f v ∧ v ≠ 0 := by
  unfold tailV at h
  split at h
  · cases h
  · rename_i hn
    injection h with h1 _
    subst h1
    have hh := hiF_lt f
    obtain ⟨a, rfl⟩ := Int.eq_ofNat_of_zero_le hf0
    obtain ⟨b, rfl⟩ := Int.eq_ofNat_of_zero_le (show 0 ≤ to by omega)
    obtain ⟨k, rfl⟩ := Int.eq_ofNat_of_zero_le (show 0 ≤ st by omega)
    simp only [Int.toNat_natCast]
    refine ⟨⟨rowV_lt _ _ _, fun j hj hb => ?_⟩, fun h0 => ?_⟩
    · rw [rowV_bit _ _ _ _ hj] at hb
      simp only [rowP, Bool.and_eq_true, decide_eq_true_eq] at hb
      omega
    · have hb := rowV_bit a b k a (by omega)
      rw [h0, Nat.zero_testBit] at hb
      have : rowP a b k a = true := by
        unfold rowP
        rw [decide_eq_true (Nat.le_refl a), decide_eq_true (show a ≤ b by omega), Nat.sub_self, Nat.zero_mod]; rfl
      rw [this] at hb
      cases hb
theorem item_in {f : Nat} {x : List UInt8} {v : Nat} (h : itemV f x = (v, 0)) : InF f v ∧ v ≠ 0 := by
  rcases item_form f x with hf | hf
  · rw [h] at hf
    generalize hr : ((v, 0) : Nat × Int) = r at hf
    cases hf with
    | a w hw e => exact tail_in (by omega) hr.symm
    | b w hw e => exact tail_in (by omega) hr.symm
    | c w u hw hu e => exact tail_in (by omega) hr.symm
    | d w u y hw hu hy e => exact tail_in (by omega) hr.symm
  · rw [h] at hf; cases hf
theorem items_in {f : Nat} : ∀ {l : List (List UInt8)} {s v : Nat}, InF f s → itemsV f l s = (0, v) → InF f v ∧ (l ≠ [] ∨ s ≠ 0 → v ≠ 0)
  | [], s, v, hs, h => by
    unfold itemsV at h
    injection h with _ h
    subst h
    exact ⟨hs, fun h => h.elim (fun h => absurd rfl h) id⟩
  | x :: r, s, v, hs, h => by
    unfold itemsV at h
    by_cases h0 : (itemV f x).2 = 0
    · rw [if_pos h0] at h
      have hx : itemV f x = ((itemV f x).1, 0) := by rw [← h0]
      obtain ⟨h1, h2⟩ := item_in hx
      have ih := items_in (hs.or h1) h
      refine ⟨ih.1, fun _ => ih.2 (.inr (fun e => h2 ?_))⟩
      have := Nat.or_eq_zero_iff.1 e
      exact this.2
    · rw [if_neg h0] at h
      injection h with h _
      exact absurd h h0
theorem field_right {f : Nat} (hf : f < 5) {p : List UInt8} {c c' : SD} (hz : c.set f = 0 ∧ c.any f = false) (h : fieldV f p c = (0, c')) : fldR f (c'.set f) (c'.any f) = true ∧ ∀ j, j ≠ f → c'.set j = c.set j ∧ c'.any j = c.any j := by
  unfold fieldV at h
  split at h
  · injection h with _ h
    subst h
    rw [put_set, put_any]
    exact ⟨full_right f hf, fun j hj => ⟨put_set_ne _ _ _ _ _ hj, put_any_ne _ _ _ _ _ hj⟩⟩
  · injection h with h1 h
    subst h
    rw [put_set, put_any, hz.2]
    have hi := items_in (v := (itemsV f (splitV p [44]) (c.set f)).2) (show InF f (c.set f) from by rw [hz.1]; exact ⟨by decide, fun j _ hb => by simp at hb⟩) (by rw [← h1])
    exact ⟨hi.1.right (hi.2 (.inl (splitV_ne p 44))), fun j hj => ⟨put_set_ne _ _ _ _ _ hj, put_any_ne _ _ _ _ _ hj⟩⟩
theorem fields_right : ∀ {l : List (List UInt8)} {f : Nat} {c c' : SD}, f + l.length = 5 → (∀ j, f ≤ j → c.set j = 0 ∧ c.any j = false) → (∀ j, j < f → fldR j (c.set j) (c.any j) = true) → fieldsV f l c = (0, c') → ∀ j, j < 5 → fldR j (c'.set j) (c'.any j) = true
  | [], f, c, c', hl, _, hg, h => by
    unfold fieldsV at h
    injection h with _ h
    subst h
    intro j hj
    exact hg j (by simp at hl; omega)
  | p :: r, f, c, c', hl, hz, hg, h => by
    rw [List.length_cons] at hl
    unfold fieldsV at h
    by_cases h0 : (fieldV f p c).1 = 0
    · rw [if_pos h0] at h
      have hx : fieldV f p c = (0, (fieldV f p c).2) := by rw [← h0]
      obtain ⟨k1, k2⟩ := field_right (by omega) (hz f (Nat.le_refl _)) hx
      refine fields_right (f := f + 1) (by omega) (fun j hj => ?_) (fun j hj => ?_) h
      · obtain ⟨e1, e2⟩ := k2 j (by omega)
        rw [e1, e2]; exact hz j (by omega)
      · by_cases hjf : j = f
        · subst hjf; exact k1
        · obtain ⟨e1, e2⟩ := k2 j hjf
          rw [e1, e2]; exact hg j (by omega)
    · rw [if_neg h0] at h
      rw [h] at h0
      exact absurd rfl h0
theorem parse_right {s : List UInt8} (h : (parseC s).1 = 0) : (parseC s).2.right = true := by
  unfold parseC at h ⊢
  by_cases hb : badF s = true
  · rw [if_pos hb] at h; cases h
  · rw [if_neg hb] at h ⊢
    by_cases h0 : (fieldsV 0 (ne (splitV s [32])) zeroC).1 = 0
    · rw [if_pos h0]
      have h5 : (ne (splitV s [32])).length = 5 := by
        by_cases h5 : (ne (splitV s [32])).length = 5
        · exact h5
        · exact absurd (badF_len h5) hb
      have := fields_right (l := ne (splitV s [32])) (f := 0) (c := zeroC) (c' := (fieldsV 0 (ne (splitV s [32])) zeroC).2) (by omega) (fun j _ => ⟨rfl, rfl⟩) (fun j hj => by omega) (by rw [← h0])
      unfold SD.right
      rw [List.all_eq_true]
      exact fun j hj => this j (List.mem_range.1 hj)
    · rw [if_neg h0] at h
      exact absurd h h0
end Go.Proofs.YtoabloeechphkaaDoor
