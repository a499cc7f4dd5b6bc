/- Graphs, plainly: no depth reaches the number of nodes; the ready ones are all just if there are so many; the depths over and over. No program in sight. -/
import Derived.Test.YtmehdlflhllhdaaGrK
namespace Go.Proofs.Ytmehdlflhllhdaa

/-- different numbers below m are no more than m -/
theorem pigeon : ∀ (m : Nat) (l : List Nat), l.Nodup → (∀ x ∈ l, x < m) → l.length ≤ m
  | 0, l, _, h => by cases l with
    | nil => simp
    | cons a l => exact absurd (h a (by simp)) (Nat.not_lt_zero _)
  | m + 1, l, hn, h => by
    by_cases hm : m ∈ l
    · have h1 := filter_less l hn (fun _ => true) m hm rfl
      have h2 := pigeon m (l.filter fun x => true && !(x == m)) (hn.filter _) (by
        intro x hx
        simp only [List.mem_filter, Bool.true_and, Bool.not_eq_true', beq_eq_false_iff_ne] at hx
        have := h x hx.1
        omega)
      have h3 : (l.filter fun _ => true) = l := by simp
      rw [h3] at h1
      omega
    · have := pigeon m l hn (fun x hx => by
        have := h x hx
        have : x ≠ m := fun e => hm (e ▸ hx)
        omega)
      omega

/-- nodes that lie one below the other, as many as the depth tells -/
theorem chain_of {n : Nat} (dep : Nat → Nat) (hd : ∀ k, k < n → dep k = 0 ∨ ∃ x, x < n ∧ dep k = dep x + 1) : ∀ (d k : Nat), k < n → dep k = d → ∃ l : List Nat, l.length = d + 1 ∧ l.Nodup ∧ (∀ x ∈ l, x < n) ∧ ∀ x ∈ l, dep x ≤ d
  | 0, k, hk, e => ⟨[k], rfl, by simp, by simpa using hk, by simp [e]⟩
  | d + 1, k, hk, e => by
    rcases hd k hk with h | ⟨x, hx, h⟩
    · omega
    · obtain ⟨l, h1, h2, h3, h4⟩ := chain_of dep hd d x hx (by omega)
      refine ⟨k :: l, by simp [h1], List.nodup_cons.mpr ⟨fun hm => by have := h4 k hm; omega, h2⟩, ?_, ?_⟩
      · intro y hy
        rcases List.mem_cons.mp hy with rfl | hy
        · exact hk
        · exact h3 y hy
      · intro y hy
        rcases List.mem_cons.mp hy with rfl | hy
        · omega
        · have := h4 y hy; omega

theorem deep_lt {n : Nat} (dep : Nat → Nat) (hd : ∀ k, k < n → dep k = 0 ∨ ∃ x, x < n ∧ dep k = dep x + 1) (k : Nat) (hk : k < n) : dep k < n := by
  obtain ⟨l, h1, h2, h3, _⟩ := chain_of dep hd (dep k) k hk rfl
  have := pigeon n l h2 h3
  omega

theorem Kst.bound {ns : List (List Nat)} {r : List Nat} {De : Nat → Nat → Bool} {left dep : Nat → Nat} (h : Kst ns r De left dep) (k : Nat) (hk : k < ns.length) : dep k < ns.length :=
  deep_lt dep (fun k _ => by
    rcases h.most k with h0 | ⟨x, _, hx, e⟩
    · exact .inl h0
    · exact .inr ⟨x, h.lt x (h.de x k hx), e⟩) k hk

/-- just if there are so many, all are ready -/
theorem Kst.all {ns : List (List Nat)} {r : List Nat} {De : Nat → Nat → Bool} {left dep : Nat → Nat} (h : Kst ns r De left dep) : (r.length = ns.length ↔ ∀ k, k < ns.length → k ∈ r) ∧ r.length ≤ ns.length := by
  have hle := pigeon ns.length r h.nd h.lt
  refine ⟨⟨fun e k hk => ?_, fun hall => ?_⟩, hle⟩
  · by_cases hm : k ∈ r
    · exact hm
    · have := pigeon ns.length (k :: r) (List.nodup_cons.mpr ⟨hm, h.nd⟩) (fun x hx => by
        rcases List.mem_cons.mp hx with rfl | hx
        · exact hk
        · exact h.lt x hx)
      simp at this; omega
  · have hsub : ∀ (m : Nat) (s : List Nat), s.Nodup → (∀ k, k < m → k ∈ s) → m ≤ s.length := by
      intro m
      induction m with
      | zero => intro s _ _; omega
      | succ m ih =>
        intro s hs hk
        have h1 := filter_less s hs (fun _ => true) m (hk m (by omega)) rfl
        have h2 := ih (s.filter fun x => true && !(x == m)) (hs.filter _) (fun k hkm => by
          simp only [List.mem_filter, Bool.true_and, Bool.not_eq_true', beq_eq_false_iff_ne]
          exact ⟨hk k (by omega), by omega⟩)
        have h3 : (s.filter fun _ => true) = s := by simp
        rw [h3] at h1
        omega
    have := hsub ns.length r h.nd hall
    omega

/-- the depths of a graph -/
structure Deep (ns : List (List Nat)) (D : Nat → Nat) : Prop where
  up : ∀ k x, x ∈ nsOf ns k → D x < D k
  most : ∀ k, D k = 0 ∨ ∃ x ∈ nsOf ns k, D k = D x + 1

/-- they are one -/
theorem Deep.one {ns : List (List Nat)} {D E : Nat → Nat} (h : Deep ns D) (g : Deep ns E) : ∀ (d k : Nat), D k = d → D k = E k := by
  have le : ∀ {D E : Nat → Nat}, Deep ns D → Deep ns E → ∀ (d k : Nat), D k = d → D k ≤ E k := by
    intro D E h g d
    induction d with
    | zero => intro k e; omega
    | succ d ih =>
      intro k e
      rcases h.most k with h0 | ⟨x, hx, h1⟩
      · omega
      · have := ih x (by omega)
        have := g.up k x hx
        omega
  intro d k _
  exact Nat.le_antisymm (le h g _ k rfl) (le g h _ k rfl)

/-- what the depths found over and over are behind so many rounds, some edges of the next one done -/
structure Dst (ns : List (List Nat)) (D : Nat → Nat) (m : Nat) (De : Nat → Nat → Bool) (d : Nat → Nat) : Prop where
  le : ∀ k, d k ≤ D k
  ge : ∀ k, min (D k) m ≤ d k
  done : ∀ k x, x ∈ nsOf ns k → De k x = true → min (D x) m + 1 ≤ d k

theorem Dst.next {ns : List (List Nat)} {D d : Nat → Nat} {m : Nat} {De : Nat → Nat → Bool} (hD : Deep ns D) (h : Dst ns D m De d) (hall : ∀ k x, x ∈ nsOf ns k → De k x = true) : Dst ns D (m + 1) (fun _ _ => false) d where
  le := h.le
  ge := fun k => by
    rcases hD.most k with h0 | ⟨x, hx, e⟩
    · omega
    · have := h.done k x hx (hall k x hx)
      omega
  done := fun _ _ _ e => by cases e

theorem Dst.step {ns : List (List Nat)} {D d : Nat → Nat} {m : Nat} {De : Nat → Nat → Bool} (hD : Deep ns D) (h : Dst ns D m De d) {i x : Nat} (hx : x ∈ nsOf ns i) :
    Dst ns D m (fun a b => De a b || (a == i && b == x)) (fun y => if y = i then (if d i < d x + 1 then d x + 1 else d i) else d y) where
  le := fun k => by
    by_cases e : k = i
    · subst e
      have := h.le x; have := hD.up k x hx; have := h.le k
      rw [if_pos rfl]; split <;> omega
    · rw [if_neg e]; exact h.le k
  ge := fun k => by
    by_cases e : k = i
    · subst e
      have := h.ge k
      rw [if_pos rfl]; split <;> omega
    · rw [if_neg e]; exact h.ge k
  done := fun k y hy e => by
    simp only [Bool.or_eq_true, Bool.and_eq_true, beq_iff_eq] at e
    rcases e with e | ⟨rfl, rfl⟩
    · have := h.done k y hy e
      by_cases e2 : k = i
      · subst e2; rw [if_pos rfl]; split <;> omega
      · rw [if_neg e2]; exact this
    · have := h.ge y
      rw [if_pos rfl]; split <;> omega

/-- behind as many rounds as nodes they are the depths -/
theorem Dst.last {ns : List (List Nat)} {D d : Nat → Nat} {De : Nat → Nat → Bool} (hD : Deep ns D) (h : Dst ns D ns.length De d) (hns : ∀ k, ∀ x ∈ nsOf ns k, x < ns.length) (k : Nat) (hk : k < ns.length) : d k = D k := by
  have hb := deep_lt (n := ns.length) D (fun k _ => by
    rcases hD.most k with h0 | ⟨x, hx, e⟩
    · exact .inl h0
    · exact .inr ⟨x, hns k x hx, e⟩) k hk
  have := h.le k; have := h.ge k
  omega

end Go.Proofs.Ytmehdlflhllhdaa
