/- Graphs, plainly: a row of nodes that are ready, grown step by step: all come just if there is no ring; the depths. No program in sight. -/
import Derived.Test.YtmehdlflhllhdaaGrP
namespace Go.Proofs.Ytmehdlflhllhdaa

/-- a set in which each has a next one holds a ring -/
theorem ring_of (t : Nat → Nat → Bool) : ∀ (m : Nat) (S : List Nat), S.length ≤ m → S ≠ [] → (∀ a ∈ S, ∃ b ∈ S, t a b = true) → ∃ a ∈ S, Way t a a
  | 0, S, h, hn, _ => by cases S with
    | nil => exact absurd rfl hn
    | cons a S => simp at h
  | m + 1, S, h, hn, hs => by
    classical
    obtain ⟨a, ha⟩ : ∃ a, a ∈ S := by cases S with
      | nil => exact absurd rfl hn
      | cons a S => exact ⟨a, by simp⟩
    by_cases hw : Way t a a
    · exact ⟨a, ha, hw⟩
    · have hlt : (S.filter fun b => decide (Way t a b)).length < S.length := by
        rcases Nat.lt_or_ge (S.filter fun b => decide (Way t a b)).length S.length with hlt | hge
        · exact hlt
        · have := List.length_filter_eq_length_iff.mp (Nat.le_antisymm (List.length_filter_le _ _) hge) a ha
          simp [hw] at this
      obtain ⟨b, hb, hab⟩ := hs a ha
      have := ring_of t m (S.filter fun b => decide (Way t a b)) (by omega) (by
        intro e
        have : b ∈ S.filter fun b => decide (Way t a b) := by simp [hb]; exact .one hab
        rw [e] at this; cases this) (by
        intro c hc
        simp only [List.mem_filter, decide_eq_true_eq] at hc
        obtain ⟨d, hd, hcd⟩ := hs c hc.1
        exact ⟨d, by simp only [List.mem_filter, decide_eq_true_eq]; exact ⟨hd, hc.2.trans (.one hcd)⟩, hcd⟩)
      obtain ⟨c, hc, hw⟩ := this
      exact ⟨c, (List.mem_filter.mp hc).1, hw⟩

/-- the needs of a node -/
abbrev nsOf (ns : List (List Nat)) (k : Nat) : List Nat := ns.getD k []
/-- does a need b? -/
def edge (ns : List (List Nat)) (a b : Nat) : Bool := decide (b ∈ nsOf ns a)

/-- the state: the ready ones r, the edges that are done, what is left, the depths -/
structure Kst (ns : List (List Nat)) (r : List Nat) (De : Nat → Nat → Bool) (left dep : Nat → Nat) : Prop where
  nd : r.Nodup
  lt : ∀ k ∈ r, k < ns.length
  lf : ∀ k, k < ns.length → left k = ((nsOf ns k).filter fun x => !De x k).length
  zero : ∀ k, k < ns.length → (k ∈ r ↔ left k = 0)
  de : ∀ x k, De x k = true → x ∈ r
  up : ∀ k x, x ∈ nsOf ns k → De x k = true → dep x < dep k
  most : ∀ k, dep k = 0 ∨ ∃ x ∈ nsOf ns k, De x k = true ∧ dep k = dep x + 1

/-- an edge less -/
theorem filter_less (l : List Nat) (hl : l.Nodup) (p : Nat → Bool) (i : Nat) (hi : i ∈ l) (hp : p i = true) : (l.filter fun x => p x && !(x == i)).length + 1 = (l.filter p).length := by
  induction l with
  | nil => cases hi
  | cons a l ih =>
    rw [List.nodup_cons] at hl
    by_cases e : a = i
    · subst e
      have h1 : l.filter (fun x => p x && !(x == a)) = l.filter p := by
        apply List.filter_congr
        intro x hx
        have : x ≠ a := fun e => hl.1 (e ▸ hx)
        simp [this]
      simp [hp, h1]
    · have hi' : i ∈ l := by
        rcases List.mem_cons.mp hi with h | h
        · exact absurd h.symm e
        · exact h
      have := ih hl.2 hi'
      by_cases ha : p a = true
      · simp [ha, e]; simpa using this
      · simp [ha]; simpa using this

/-- one edge is done -/
theorem Kst.step {ns : List (List Nat)} {r : List Nat} {De : Nat → Nat → Bool} {left dep : Nat → Nat} (h : Kst ns r De left dep) (hns : ∀ k, (nsOf ns k).Nodup) {i k : Nat} (hi : i ∈ r) (hk : k < ns.length) (he : i ∈ nsOf ns k) (hd : De i k = false) :
    0 < left k ∧ k ∉ r ∧ Kst ns (if left k = 1 then r ++ [k] else r) (fun x y => De x y || (x == i && y == k)) (fun y => if y = k then left k - 1 else left y) (fun y => if y = k then max (dep k) (dep i + 1) else dep y) := by
  have hl := h.lf k hk
  have hless := filter_less (nsOf ns k) (hns k) (fun x => !De x k) i he (by simp [hd])
  have hpos : 0 < left k := by omega
  have hkr : k ∉ r := fun hm => by have := (h.zero k hk).mp hm; omega
  have hik : i ≠ k := fun e => hkr (e ▸ hi)
  refine ⟨hpos, hkr, ?_⟩
  have hleft : ∀ y, y < ns.length → (if y = k then left k - 1 else left y) = ((nsOf ns y).filter fun x => !(De x y || (x == i && y == k))).length := by
    intro y hy
    by_cases e : y = k
    · subst e
      have h1 : ((nsOf ns y).filter fun x => !(De x y || (x == i && y == y))) = (nsOf ns y).filter fun x => !De x y && !(x == i) := by
        apply List.filter_congr; intro x _; simp
      rw [if_pos rfl, h1]; omega
    · rw [if_neg e, h.lf y hy]
      congr 1
      apply List.filter_congr; intro x _; simp [e]
  have hmem : ∀ y, y ∈ (if left k = 1 then r ++ [k] else r) ↔ y ∈ r ∨ (y = k ∧ left k = 1) := by
    intro y; by_cases e : left k = 1 <;> simp [e]
  constructor
  · by_cases e : left k = 1
    · rw [if_pos e, List.nodup_append]
      refine ⟨h.nd, by simp, ?_⟩
      intro a ha b hb e2
      simp at hb
      subst hb; subst e2; exact hkr ha
    · rw [if_neg e]; exact h.nd
  · intro y hy
    rcases (hmem y).mp hy with hy | ⟨rfl, _⟩
    · exact h.lt y hy
    · exact hk
  · exact hleft
  · intro y hy
    rw [hmem]
    by_cases e : y = k
    · subst e
      rw [if_pos rfl]
      constructor
      · rintro (hm | ⟨_, h1⟩)
        · exact absurd hm hkr
        · omega
      · intro h0; exact .inr ⟨rfl, by omega⟩
    · rw [if_neg e, ← h.zero y hy]; simp [e]
  · intro x y hxy
    rw [hmem]
    simp only [Bool.or_eq_true, Bool.and_eq_true, beq_iff_eq] at hxy
    rcases hxy with hxy | ⟨rfl, _⟩
    · exact .inl (h.de x y hxy)
    · exact .inl hi
  · intro y x hx hxy
    have hxr : x ∈ r := by
      simp only [Bool.or_eq_true, Bool.and_eq_true, beq_iff_eq] at hxy
      rcases hxy with hxy | ⟨rfl, _⟩
      · exact h.de x y hxy
      · exact hi
    have hxk : x ≠ k := fun e => hkr (e ▸ hxr)
    simp only [Bool.or_eq_true, Bool.and_eq_true, beq_iff_eq] at hxy
    rw [if_neg hxk]
    by_cases e : y = k
    · subst e
      rw [if_pos rfl]
      rcases hxy with hxy | ⟨rfl, _⟩
      · have := h.up y x hx hxy; omega
      · omega
    · rw [if_neg e]
      rcases hxy with hxy | ⟨_, e2⟩
      · exact h.up y x hx hxy
      · exact absurd e2 e
  · intro y
    have old : ∀ {d : Nat}, dep y = d → (d = 0 ∨ ∃ x ∈ nsOf ns y, (De x y || (x == i && y == k)) = true ∧ d = (if x = k then max (dep k) (dep i + 1) else dep x) + 1) := by
      rintro d rfl
      rcases h.most y with h0 | ⟨x, hx, hxy, e⟩
      · exact .inl h0
      · refine .inr ⟨x, hx, by simp [hxy], ?_⟩
        rw [if_neg (fun e2 : x = k => hkr (e2 ▸ h.de x y hxy))]; exact e
    by_cases e : y = k
    · subst e
      rw [if_pos rfl]
      rcases Nat.le_total (dep i + 1) (dep y) with hle | hle
      · rw [Nat.max_eq_left hle]
        have := old rfl
        rw [Nat.max_eq_left hle] at this
        exact this
      · refine .inr ⟨i, he, by simp, ?_⟩
        rw [if_neg hik]; omega
    · rw [if_neg e]; exact old rfl

/-- a way goes down -/
theorem Kst.down {ns : List (List Nat)} {r : List Nat} {De : Nat → Nat → Bool} {left dep : Nat → Nat} (h : Kst ns r De left dep) (hall : ∀ k x, x ∈ nsOf ns k → De x k = true) {a b : Nat} (w : Way (edge ns) a b) : dep b < dep a := by
  induction w with
  | one e => exact h.up _ _ (of_decide_eq_true e) (hall _ _ (of_decide_eq_true e))
  | more e _ ih =>
    have := h.up _ _ (of_decide_eq_true e) (hall _ _ (of_decide_eq_true e))
    omega

/-- all are ready: there is no ring -/
theorem Kst.none {ns : List (List Nat)} {r : List Nat} {De : Nat → Nat → Bool} {left dep : Nat → Nat} (h : Kst ns r De left dep) (hall : ∀ k x, x ∈ nsOf ns k → De x k = true) (a : Nat) : ¬ Way (edge ns) a a :=
  fun w => Nat.lt_irrefl _ (h.down hall w)

/-- one is not ready, and all that are ready are done: there is a ring -/
theorem Kst.ring {ns : List (List Nat)} {r : List Nat} {De : Nat → Nat → Bool} {left dep : Nat → Nat} (h : Kst ns r De left dep) (hns : ∀ k, ∀ x ∈ nsOf ns k, x < ns.length) (hall : ∀ k x, x ∈ nsOf ns k → x ∈ r → De x k = true) {k : Nat} (hk : k < ns.length) (hr : k ∉ r) : ∃ a, a < ns.length ∧ Way (edge ns) a a := by
  obtain ⟨a, ha, w⟩ := ring_of (edge ns) _ ((List.range ns.length).filter fun k => !decide (k ∈ r)) (Nat.le_refl _) (by
    intro e
    have : k ∈ (List.range ns.length).filter fun k => !decide (k ∈ r) := by simp [hk, hr]
    rw [e] at this; cases this) (by
    intro a ha
    simp only [List.mem_filter, List.mem_range, Bool.not_eq_true', decide_eq_false_iff_not] at ha
    have hl : left a ≠ 0 := fun e => ha.2 ((h.zero a ha.1).mpr e)
    rw [h.lf a ha.1] at hl
    obtain ⟨x, hx⟩ := List.exists_mem_of_ne_nil ((nsOf ns a).filter fun x => !De x a) (fun e => hl (by rw [e]; rfl))
    simp only [List.mem_filter, Bool.not_eq_true'] at hx
    refine ⟨x, ?_, by unfold edge; simpa using hx.1⟩
    simp only [List.mem_filter, List.mem_range, Bool.not_eq_true', decide_eq_false_iff_not]
    exact ⟨hns a x hx.1, fun hm => by rw [hall a x hx.1 hm] at hx; cases hx.2⟩)
  simp only [List.mem_filter, List.mem_range] at ha
  exact ⟨a, ha.1, w⟩

end Go.Proofs.Ytmehdlflhllhdaa
