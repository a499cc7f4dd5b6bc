/- Which texts have no five fields, as the document says; a row of fields with one cell set. No program. -/
import Derived.Test.YtoabloeechphkaaDoorCronRItem
namespace Go.Proofs.YtoabloeechphkaaDoor

theorem zero_ref : Tryd.zeroCells34 = (refC zeroC).toArray := by kernel_rfl
theorem put_put (c : SD) (f s s' : Nat) (a a' : Bool) : (c.put f s a).put f s' a' = c.put f s' a' := by
  unfold SD.put
  congr 1
  · funext i; by_cases h : i = f <;> simp [h]
  · funext i; by_cases h : i = f <;> simp [h]
theorem put_set (c : SD) (f s : Nat) (a : Bool) : (c.put f s a).set f = s := if_pos rfl
theorem put_any (c : SD) (f s : Nat) (a : Bool) : (c.put f s a).any f = a := if_pos rfl
theorem put_set_ne (c : SD) (f s : Nat) (a : Bool) (j : Nat) (h : ¬ j = f) : (c.put f s a).set j = c.set j := if_neg h
theorem put_any_ne (c : SD) (f s : Nat) (a : Bool) (j : Nat) (h : ¬ j = f) : (c.put f s a).any j = c.any j := if_neg h
theorem refC_any (c : SD) (f : Nat) (hf : f < 5) (s : Nat) (a a0 : Bool) : refC (c.put f s a) = (refC (c.put f s a0)).set (f * 65 + 64) (.bool a) := by
  apply List.ext_getElem?
  intro i
  rw [List.getElem?_set]
  by_cases hi : i < 325
  · rw [refC_get _ _ hi]
    by_cases he : f * 65 + 64 = i
    · subst he
      rw [if_pos rfl, if_pos (by rw [refC_length]; omega), refAt_any, put_any]
    · rw [if_neg he, refC_get _ _ hi]
      congr 2
      unfold refAt
      by_cases h64 : i % 65 = 64
      · rw [if_pos h64, if_pos h64]
        have hne : ¬ i / 65 = f := fun e => he (by have := Nat.div_add_mod i 65; omega)
        rw [put_any_ne _ _ _ _ _ hne, put_any_ne _ _ _ _ _ hne]
      · rw [if_neg h64, if_neg h64]; rfl
  · rw [List.getElem?_eq_none (by rw [refC_length]; omega), if_neg (by omega), List.getElem?_eq_none (by rw [refC_length]; omega)]
theorem rowU_items (c : SD) (f s v : Nat) (a : Bool) : rowU (c.put f s a) f v = (refC (c.put f (s ||| v) a)).toArray := by
  unfold rowU; rw [put_put, put_set, put_any]

theorem splitV_ne (s : List UInt8) (b : UInt8) : splitV s [b] ≠ [] := splitF_ne _ _ _
theorem ne_empty : ne (splitV [] [32]) = [] := by rfl
theorem badF_len {s : List UInt8} (h : ¬ (ne (splitV s [32])).length = 5) : badF s = true := by unfold badF; rw [decide_eq_false h]; rfl
theorem first_bad {s : List UInt8} (h : (splitV s [32])[0]? = some []) : badF s = true := by
  cases s with
  | nil => exact badF_len (by rw [ne_empty]; simp)
  | cons c r =>
    by_cases hc : c = 32
    · subst hc
      unfold badF
      have : Lib.hasPrefix (32 :: r) [32] = true := by simp [Lib.hasPrefix, List.isPrefixOf]
      rw [this]; simp
    · exfalso
      have hb : ((32 : UInt8) == c) = false := beq_eq_false_iff_ne.2 (fun e => hc e.symm)
      by_cases hn : Lib.index (c :: r) [32] = -1
      · unfold splitV at h
        rw [split_last hn] at h
        simp at h
      · obtain ⟨i, hi, hil⟩ := index_le _ _ hn
        obtain ⟨f', hst, -, -⟩ := split_step (f := (c :: r).length) hi (by simp) hil (Nat.le_refl _)
        unfold splitV at h
        rw [hst] at h
        simp only [List.getElem?_cons_zero, Option.some.injEq] at h
        have h0 : i ≠ 0 := fun e => by
          subst e
          have e : Lib.index (c :: r) [32] = if (Lib.index r [32] == -1) = true then -1 else Lib.index r [32] + 1 := by
            rw [Lib.index, pre_one, hb]; rfl
          rw [e] at hi
          have hg := Lib.index_ge r [32]
          by_cases hm : (Lib.index r [32] == -1) = true
          · rw [if_pos hm] at hi; cases hi
          · rw [if_neg hm] at hi
            have : ¬ Lib.index r [32] = -1 := fun e2 => hm (beq_iff_eq.2 e2)
            omega
        cases i with
        | zero => exact h0 rfl
        | succ i => simp at h
theorem first_good {s : List UInt8} (h : ¬ (splitV s [32])[0]? = some []) : Lib.hasPrefix s [32] = false := by
  rcases hp : Lib.hasPrefix s [32] with _ | _
  · rfl
  · exfalso
    cases s with
    | nil => simp [Lib.hasPrefix] at hp
    | cons c r =>
      have hc : c = 32 := by
        simp [Lib.hasPrefix, List.isPrefixOf] at hp
        exact hp.symm
      subst hc
      have hi : Lib.index (32 :: r) [32] = ((0 : Nat) : Int) := by unfold Lib.index; rw [pre_one]; rfl
      obtain ⟨f', hst, -, -⟩ := split_step (f := (32 :: r).length) hi (by simp) (by simp) (Nat.le_refl _)
      apply h
      unfold splitV
      rw [hst]; rfl
theorem last_of (s : List UInt8) : (splitV s [32])[(splitV s [32]).length - 1]? = some (splA 32 s).2 := by
  rw [← spl_split]
  simp [spl]
theorem last_bad {s : List UInt8} (h : (splA 32 s).2 = []) : badF s = true := by
  by_cases hs : s = []
  · subst hs; exact badF_len (by rw [ne_empty]; simp)
  · have e : s = s.dropLast ++ [s.getLast hs] := (List.dropLast_concat_getLast hs).symm
    by_cases hc : s.getLast hs = 32
    · unfold badF
      have : Lib.hasSuffix s [32] = true := by
        unfold Lib.hasSuffix
        rw [e, hc]; simp [List.isSuffixOf_iff_suffix]
      rw [this]; simp
    · exfalso
      rw [e, splA_snoc] at h
      unfold splStep at h
      rw [if_neg hc] at h
      simp at h
theorem last_good {s : List UInt8} (h : ¬ (splA 32 s).2 = []) : Lib.hasSuffix s [32] = false := by
  rcases hp : Lib.hasSuffix s [32] with _ | _
  · rfl
  · exfalso
    unfold Lib.hasSuffix at hp
    rw [List.isSuffixOf_iff_suffix] at hp
    obtain ⟨t, rfl⟩ := hp
    apply h
    rw [splA_snoc]
    unfold splStep
    rw [if_pos rfl]
theorem bad_iff {s : List UInt8} (h1 : ¬ (splitV s [32])[0]? = some []) (h2 : ¬ (splA 32 s).2 = []) : badF s = !decide ((ne (splitV s [32])).length = 5) := by
  unfold badF; rw [first_good h1, last_good h2]; simp
end Go.Proofs.YtoabloeechphkaaDoor
