/- A heap as a list: swap, up, down, remove; what they keep. Plain lists; no condition. -/
import Derived.Test.YthhjioeipjnjmaaBase
namespace Go.Proofs.Ythhjioeipjnjmaa
section
variable {α : Type} [Inhabited α]

/-- two places change what they hold -/
def swL (l : List α) (i j : Nat) : List α := (l.set i l[j]!).set j l[i]!
theorem swL_length (l : List α) (i j : Nat) : (swL l i j).length = l.length := by simp [swL]
theorem getE (l : List α) (i : Nat) (h : i < l.length) : l[i]! = l[i] := by simp [h]
theorem swL_get (l : List α) (i j k : Nat) (hi : i < l.length) (hj : j < l.length) (hk : k < l.length) : (swL l i j)[k]! = if k = j then l[i]! else if k = i then l[j]! else l[k]! := by
  unfold swL
  by_cases h1 : k = j
  · subst h1; simp [hk]
  · by_cases h2 : k = i
    · subst h2; simp [h1, hk, List.getElem_set_ne (Ne.symm h1)]
    · simp [h1, h2, hk, List.getElem_set_ne (Ne.symm h1), List.getElem_set_ne (Ne.symm h2)]
theorem perm_set {l : List α} {i : Nat} (h : i < l.length) (x : α) : (l[i]! :: l.set i x).Perm (x :: l) := by
  induction l generalizing i with
  | nil => simp at h
  | cons y l ih =>
    rcases i with _ | i
    · simp only [getE _ _ h, List.getElem_cons_zero, List.set_cons_zero]; exact List.Perm.swap _ _ _
    · have h' : i < l.length := by simpa using h
      have e : (y :: l)[i + 1]! = l[i]! := by rw [getE _ _ h, getE _ _ h']; rfl
      rw [e, List.set_cons_succ]
      exact (List.Perm.swap _ _ _).trans (((ih h').cons y).trans (List.Perm.swap _ _ _))
theorem swL_perm (l : List α) (i j : Nat) (hi : i < l.length) (hj : j < l.length) : (swL l i j).Perm l := by
  have hj' : j < (l.set i l[j]!).length := by simpa using hj
  have h1 := perm_set (l := l.set i l[j]!) hj' l[i]!
  have h2 := perm_set (l := l) hi l[j]!
  have e : (l.set i l[j]!)[j]! = l[j]! := by
    by_cases h : i = j
    · subst h; simp [hi]
    · simp [hj, List.getElem_set_ne h]
  rw [e] at h1
  exact (List.perm_cons _).1 (h1.trans h2)

/-- who stands above -/
def par (i : Nat) : Nat := (i - 1) / 2
variable (lt : α → α → Bool)
/-- place k does not stand ahead of the one above -/
def okAt (l : List α) (k : Nat) : Prop := lt l[k]! l[par k]! = false
/-- a heap: the first n places -/
def Heap (l : List α) (n : Nat) : Prop := ∀ k, 0 < k → k < n → okAt lt l k

/-- what is asked of the order -/
structure Ord : Prop where
  asym : ∀ a b, lt a b = true → lt b a = false
  tr : ∀ a b c, lt b a = false → lt c b = false → lt c a = false

theorem par_lt {k : Nat} (h : 0 < k) : par k < k := by unfold par; omega
theorem heap_min {lt : α → α → Bool} (O : Ord lt) {l : List α} {n : Nat} (h : Heap lt l n) (irr : ∀ a, lt a a = false) : ∀ k, k < n → lt l[k]! l[0]! = false := by
  intro k
  induction k using Nat.strongRecOn with
  | _ k ih =>
    intro hk
    rcases Nat.eq_zero_or_pos k with rfl | h0
    · exact irr _
    · have h1 := ih (par k) (par_lt h0) (by have := par_lt h0; omega)
      exact O.tr _ _ _ h1 (h k h0 hk)

/-- up -/
def upL (l : List α) (j : Nat) : List α :=
  if _h : 0 < j ∧ lt l[j]! l[par j]! = true then upL (swL l (par j) j) (par j) else l
termination_by j
decreasing_by exact par_lt _h.1
/-- the child that stands ahead -/
def kidL (l : List α) (i n : Nat) : Nat := if 2 * i + 2 < n ∧ lt l[2 * i + 2]! l[2 * i + 1]! = true then 2 * i + 2 else 2 * i + 1
theorem kidL_lt (l : List α) (i n : Nat) (h : 2 * i + 1 < n) : i < kidL lt l i n ∧ kidL lt l i n < n := by
  unfold kidL
  split
  · next h1 => exact ⟨by omega, h1.1⟩
  · exact ⟨by omega, h⟩
/-- down, within n places; where it stops -/
def downL (l : List α) (i n : Nat) : List α × Nat :=
  if _h : 2 * i + 1 < n ∧ lt l[kidL lt l i n]! l[i]! = true then downL (swL l i (kidL lt l i n)) (kidL lt l i n) n else (l, i)
termination_by n - i
decreasing_by have := kidL_lt lt l i n _h.1; omega

theorem upL_length (l : List α) (j : Nat) : (upL lt l j).length = l.length := by
  induction j using Nat.strongRecOn generalizing l with
  | _ j ih =>
    unfold upL
    split
    · next h => rw [ih _ (par_lt h.1), swL_length]
    · rfl
theorem upL_perm (l : List α) (j : Nat) (hj : j < l.length) : (upL lt l j).Perm l := by
  induction j using Nat.strongRecOn generalizing l with
  | _ j ih =>
    unfold upL
    split
    · next h =>
      have hp := par_lt h.1
      exact (ih _ hp _ (by rw [swL_length]; omega)).trans (swL_perm l _ _ (by omega) hj)
    · exact List.Perm.refl _
/-- all stand right but perhaps j, whose children don't stand ahead of the one above j -/
structure UpI (l : List α) (n j : Nat) : Prop where
  others : ∀ k, 0 < k → k < n → k ≠ j → okAt lt l k
  kids : ∀ k, 0 < k → k < n → par k = j → 0 < j → lt l[k]! l[par j]! = false
theorem upL_heap {lt : α → α → Bool} (O : Ord lt) (l : List α) (n j : Nat) (hn : n ≤ l.length) (hj : j < n) (h : UpI lt l n j) : Heap lt (upL lt l j) n ∧ ∀ k, n ≤ k → k < l.length → (upL lt l j)[k]! = l[k]! := by
  induction j using Nat.strongRecOn generalizing l with
  | _ j ih =>
    unfold upL
    split
    · next hc =>
      obtain ⟨h0, hlt⟩ := hc
      have hp := par_lt h0
      have g := fun k (hk : k < l.length) => swL_get l (par j) j k (by omega) (by omega) hk
      have hI : UpI lt (swL l (par j) j) n (par j) := by
        constructor
        · intro k hk0 hkn hkp
          unfold okAt
          have hpk := par_lt hk0
          rw [g k (by omega), g (par k) (by omega)]
          by_cases e1 : k = j
          · subst e1
            rw [if_pos rfl, if_neg (by omega), if_pos rfl]
            exact O.asym _ _ hlt
          · rw [if_neg e1, if_neg hkp]
            by_cases e2 : par k = j
            · rw [if_pos e2]
              exact h.kids k hk0 hkn e2 h0
            · rw [if_neg e2]
              by_cases e3 : par k = par j
              · rw [if_pos e3]
                have h1 := h.others k hk0 hkn e1
                unfold okAt at h1
                rw [e3] at h1
                exact O.tr _ _ _ (O.asym _ _ hlt) h1
              · rw [if_neg e3]; exact h.others k hk0 hkn e1
        · intro k hk0 hkn hkp hp0
          have hpk := par_lt hk0
          have hpp := par_lt hp0
          rw [g k (by omega), g (par (par j)) (by omega), if_neg (show ¬ par (par j) = j by omega), if_neg (show ¬ par (par j) = par j by omega)]
          have hj1 := h.others (par j) hp0 (by omega) (by omega)
          unfold okAt at hj1
          by_cases e1 : k = j
          · rw [if_pos e1]; exact hj1
          · rw [if_neg e1, if_neg (by omega)]
            have h1 := h.others k hk0 hkn e1
            unfold okAt at h1
            rw [hkp] at h1
            exact O.tr _ _ _ hj1 h1
      obtain ⟨k1, k2⟩ := ih (par j) hp (swL l (par j) j) (by rw [swL_length]; exact hn) (by omega) hI
      refine ⟨k1, fun k hk1 hk2 => ?_⟩
      rw [k2 k hk1 (by rw [swL_length]; exact hk2), g k hk2, if_neg (by omega), if_neg (by omega)]
    · next hc =>
      refine ⟨fun k hk0 hkn => ?_, fun _ _ _ => rfl⟩
      by_cases e : k = j
      · subst e
        unfold okAt
        cases hb : lt l[k]! l[par k]! with
        | false => rfl
        | true => exact absurd ⟨hk0, hb⟩ hc
      · exact h.others k hk0 hkn e

theorem downL_length (l : List α) (i n : Nat) : (downL lt l i n).1.length = l.length := by
  induction hm : n - i using Nat.strongRecOn generalizing l i with
  | _ m ih =>
    unfold downL
    split
    · next h =>
      have := kidL_lt lt l i n h.1
      rw [ih _ (by omega) _ _ rfl, swL_length]
    · rfl
theorem downL_perm (l : List α) (i n : Nat) (hn : n ≤ l.length) : (downL lt l i n).1.Perm l := by
  induction hm : n - i using Nat.strongRecOn generalizing l i with
  | _ m ih =>
    unfold downL
    split
    · next h =>
      have := kidL_lt lt l i n h.1
      exact (ih _ (by omega) _ _ (by rw [swL_length]; exact hn) rfl).trans (swL_perm l _ _ (by omega) (by omega))
    · exact List.Perm.refl _
/-- all stand right but perhaps the children of i (and i, if it is still the first place) -/
structure DownI (l : List α) (n i0 i : Nat) : Prop where
  others : ∀ k, 0 < k → k < n → par k ≠ i → k ≠ i → okAt lt l k
  kids : ∀ k, 0 < k → k < n → par k = i → 0 < i → lt l[k]! l[par i]! = false
  self : i ≠ i0 → 0 < i → i < n → okAt lt l i
  ge : i0 ≤ i
theorem downL_heap {lt : α → α → Bool} (O : Ord lt) (l : List α) (n i0 i : Nat) (hn : n ≤ l.length) (hi : i < l.length) (h : DownI lt l n i0 i) :
    (∀ k, n ≤ k → k < l.length → i < k → (downL lt l i n).1[k]! = l[k]!) ∧ i ≤ (downL lt l i n).2 ∧
    ((downL lt l i n).2 ≠ i0 → Heap lt (downL lt l i n).1 n) ∧ ((downL lt l i n).2 = i0 → UpI lt (downL lt l i n).1 n i0) ∧ ((downL lt l i n).2 = i → (downL lt l i n).1 = l) := by
  induction hm : n - i using Nat.strongRecOn generalizing l i with
  | _ m ih =>
    have stop : (∀ k, 0 < k → k < n → par k = i → okAt lt l k) → (i ≠ i0 → Heap lt l n) ∧ (i = i0 → UpI lt l n i0) := fun hk => by
      refine ⟨fun hne k h0 h1 => ?_, fun e => ?_⟩
      · by_cases e1 : par k = i
        · exact hk k h0 h1 e1
        · by_cases e2 : k = i
          · subst e2; exact h.self hne h0 h1
          · exact h.others k h0 h1 e1 e2
      · subst e
        refine ⟨fun k h0 h1 h2 => ?_, h.kids⟩
        by_cases e1 : par k = i
        · exact hk k h0 h1 e1
        · exact h.others k h0 h1 e1 h2
    have kids : 2 * i + 1 < n → par (kidL lt l i n) = i ∧ ∀ k, 0 < k → k < n → par k = i → k ≠ kidL lt l i n → lt l[k]! l[kidL lt l i n]! = false := fun h1 => by
      unfold kidL
      split
      · next hc =>
        refine ⟨by unfold par; omega, fun k h0 h2 h3 h4 => ?_⟩
        obtain rfl : k = 2 * i + 1 := by unfold par at h3; omega
        exact O.asym _ _ hc.2
      · next hc =>
        refine ⟨by unfold par; omega, fun k h0 h2 h3 h4 => ?_⟩
        obtain rfl : k = 2 * i + 2 := by unfold par at h3; omega
        cases hb : lt l[2 * i + 2]! l[2 * i + 1]! with
        | false => rfl
        | true => exact absurd ⟨h2, hb⟩ hc
    have bounds := kidL_lt lt l i n
    unfold downL
    obtain ⟨j, hj⟩ : ∃ j, j = kidL lt l i n := ⟨_, rfl⟩
    rw [← hj] at kids bounds ⊢
    clear hj
    split
    · next hc =>
      obtain ⟨h1, hlt⟩ := hc
      obtain ⟨hpj, hsib⟩ := kids h1
      obtain ⟨hij, hjn⟩ := bounds h1
      have g := fun k (hk : k < l.length) => swL_get l i j k (by omega) (by omega) hk
      have hI : DownI lt (swL l i j) n i0 j := by
        refine ⟨fun k h0 h2 h3 h4 => ?_, fun k h0 h2 h3 h4 => ?_, fun _ h0 h2 => ?_, by have := h.ge; omega⟩
        · unfold okAt
          have hpk := par_lt h0
          rw [g k (by omega), g (par k) (by omega), if_neg h4, if_neg h3]
          by_cases e1 : k = i
          · subst e1
            rw [if_pos rfl, if_neg (by omega)]
            exact h.kids j (by omega) hjn hpj h0
          · rw [if_neg e1]
            by_cases e2 : par k = i
            · rw [if_pos e2]; exact hsib k h0 h2 e2 h4
            · rw [if_neg e2]; exact h.others k h0 h2 e2 e1
        · have hpk := par_lt h0
          rw [g k (by omega), hpj, g i hi, if_neg (show ¬ k = j by omega), if_neg (show ¬ k = i by omega), if_neg (show ¬ i = j by omega), if_pos rfl]
          have := h.others k h0 h2 (by omega) (by omega)
          unfold okAt at this
          rw [h3] at this
          exact this
        · unfold okAt
          rw [hpj, g j (by omega), g i hi, if_pos rfl, if_neg (show ¬ i = j by omega), if_pos rfl]
          exact O.asym _ _ hlt
      obtain ⟨k1, k2, k3, k4, k5⟩ := ih (n - j) (by omega) (swL l i j) j (by rw [swL_length]; exact hn) (by rw [swL_length]; omega) hI rfl
      refine ⟨fun k a b c => ?_, by omega, k3, k4, fun e => by omega⟩
      rw [k1 k a (by rw [swL_length]; exact b) (by omega), g k b, if_neg (by omega), if_neg (by omega)]
    · next hc =>
      obtain ⟨s1, s2⟩ := stop (fun k h0 h2 h3 => by
        have h1 : 2 * i + 1 < n := by unfold par at h3; omega
        obtain ⟨hpj, hsib⟩ := kids h1
        have hlt' : lt l[j]! l[i]! = false := by cases hb : lt l[j]! l[i]! with | false => rfl | true => exact absurd ⟨h1, hb⟩ hc
        unfold okAt
        rw [h3]
        by_cases e : k = j
        · rw [e]; exact hlt'
        · exact O.tr _ _ _ hlt' (hsib k h0 h2 h3 e))
      exact ⟨fun _ _ _ _ => rfl, Nat.le_refl _, s1, s2, fun _ => rfl⟩

/-- heap.Remove: the place's one goes to the end -/
def remL (l : List α) (i : Nat) : List α :=
  let n := l.length - 1
  if n = i then l else
    let s := swL l i n
    let d := downL lt s i n
    if i < d.2 then d.1 else upL lt d.1 i
theorem remL_length (l : List α) (i : Nat) : (remL lt l i).length = l.length := by
  unfold remL; dsimp only
  split
  · rfl
  · split
    · rw [downL_length, swL_length]
    · rw [upL_length, downL_length, swL_length]
theorem remL_spec {lt : α → α → Bool} (O : Ord lt) (l : List α) (i : Nat) (hi : i < l.length) (h : Heap lt l l.length) :
    Heap lt (remL lt l i) (l.length - 1) ∧ (remL lt l i)[l.length - 1]! = l[i]! ∧ (remL lt l i).Perm l := by
  unfold remL; dsimp only
  obtain ⟨n, hn⟩ : ∃ n, n = l.length - 1 := ⟨_, rfl⟩
  rw [← hn]
  split
  · next e => subst e; exact ⟨fun k h0 h1 => h k h0 (by omega), by rw [hn], List.Perm.refl _⟩
  · next e =>
    have g := fun k (hk : k < l.length) => swL_get l i n k hi (by omega) hk
    have hI : DownI lt (swL l i n) n i i := by
      refine ⟨fun k h0 h2 h3 h4 => ?_, fun k h0 h2 h3 h4 => ?_, fun hne => absurd rfl hne, Nat.le_refl _⟩
      · have hpk := par_lt h0
        unfold okAt
        rw [g k (by omega), g (par k) (by omega), if_neg (by omega), if_neg h4, if_neg (by omega), if_neg h3]
        exact h k h0 (by omega)
      · have hpk := par_lt h0
        have hpi := par_lt h4
        rw [g k (by omega), g (par i) (by omega), if_neg (by omega), if_neg (by omega), if_neg (by omega), if_neg (by omega)]
        have h5 := h k h0 (by omega)
        unfold okAt at h5
        rw [h3] at h5
        exact O.tr _ _ _ (h i h4 hi) h5
    obtain ⟨k1, k2, k3, k4, k5⟩ := downL_heap O (swL l i n) n i i (by rw [swL_length]; omega) (by rw [swL_length]; exact hi) hI
    have hp : (downL lt (swL l i n) i n).1.Perm l := (downL_perm lt _ _ _ (by rw [swL_length]; omega)).trans (swL_perm l i n hi (by omega))
    have hlast : (downL lt (swL l i n) i n).1[n]! = l[i]! := by
      rw [k1 n (Nat.le_refl _) (by rw [swL_length]; omega) (by omega), g n (by omega), if_pos rfl]
    split
    · next hlt => exact ⟨k3 (by omega), hlast, hp⟩
    · next hlt =>
      have e2 : (downL lt (swL l i n) i n).2 = i := by omega
      obtain ⟨u1, u2⟩ := upL_heap O _ n i (by rw [downL_length, swL_length]; omega) (by omega) (k4 e2)
      refine ⟨u1, ?_, (upL_perm lt _ _ (by rw [downL_length, swL_length]; exact hi)).trans hp⟩
      rw [u2 n (Nat.le_refl _) (by rw [downL_length, swL_length]; omega), hlast]
/-- heap.Push: one more at the end goes up -/
theorem pushL_spec {lt : α → α → Bool} (O : Ord lt) (l : List α) (x : α) (h : Heap lt l l.length) : Heap lt (upL lt (l ++ [x]) l.length) (l.length + 1) ∧ (upL lt (l ++ [x]) l.length).Perm (x :: l) := by
  have hl : (l ++ [x]).length = l.length + 1 := by simp
  have hg : ∀ k, k < l.length → (l ++ [x])[k]! = l[k]! := fun k hk => by rw [getE _ _ (by omega), getE _ _ hk, List.getElem_append_left hk]
  refine ⟨(upL_heap O (l ++ [x]) (l.length + 1) l.length (by omega) (by omega) ⟨fun k h0 h1 h2 => ?_, fun k h0 h1 h2 => ?_⟩).1, (upL_perm lt _ _ (by omega)).trans (List.perm_append_singleton _ _)⟩
  · have hpk := par_lt h0
    unfold okAt
    rw [hg k (by omega), hg (par k) (by omega)]
    exact h k h0 (by omega)
  · have hpk := par_lt h0; omega
end
end Go.Proofs.Ythhjioeipjnjmaa
