/- Graphs, plainly: nodes, and all that is reached from them, by a heap of nodes to do. No program in sight. -/
import Derived.Test.YtmehdlflhllhdaaGrD
namespace Go.Proofs.Ytmehdlflhllhdaa

/-- a is among those of l, or below one of them -/
def Reach (t : Nat → Nat → Bool) (n : Nat) (l : List Int) (a : Nat) : Prop := (a : Int) ∈ l ∨ ∃ b : Nat, (b : Int) ∈ l ∧ b < n ∧ Way t b a

theorem Way.snoc {t : Nat → Nat → Bool} {a b c : Nat} (w : Way t a b) (h : t b c = true) : Way t a c := w.trans (.one h)

theorem Reach.next {t : Nat → Nat → Bool} {n : Nat} {l : List Int} {a b : Nat} (h : Reach t n l a) (ha : a < n) (e : t a b = true) : Reach t n l b := by
  rcases h with h | ⟨c, h1, h2, w⟩
  · exact .inr ⟨a, h, ha, .one e⟩
  · exact .inr ⟨c, h1, h2, w.snoc e⟩

structure Rst (t : Nat → Nat → Bool) (n : Nat) (l : List Int) (seen : Nat → Bool) (todo : List Int) : Prop where
  start : ∀ a : Nat, (a : Int) ∈ l → a < n → seen a = true ∨ (a : Int) ∈ todo
  next : ∀ a b, seen a = true → t a b = true → seen b = true ∨ (b : Int) ∈ todo
  lt : ∀ a, seen a = true → a < n
  right : ∀ a, seen a = true → Reach t n l a
  todo : ∀ a : Nat, (a : Int) ∈ todo → Reach t n l a

theorem Rst.init (t : Nat → Nat → Bool) (n : Nat) (l : List Int) : Rst t n l (fun _ => false) l where
  start := fun _ h _ => .inr h
  next := fun _ _ h => by cases h
  lt := fun _ h => by cases h
  right := fun _ h => by cases h
  todo := fun _ h => .inl h

/-- the last one to do is none, or seen -/
theorem Rst.skip {t : Nat → Nat → Bool} {n : Nat} {l todo : List Int} {seen : Nat → Bool} {x : Int} (ht : ∀ a b, t a b = true → b < n) (h : Rst t n l seen (todo ++ [x])) (hx : ∀ a : Nat, x = a → a < n → seen a = true) : Rst t n l seen todo where
  start := fun a ha hn => by
    rcases h.start a ha hn with h1 | h1
    · exact .inl h1
    · rcases List.mem_append.mp h1 with h1 | h1
      · exact .inr h1
      · simp at h1; exact .inl (hx a h1.symm hn)
  next := fun a b ha hb => by
    rcases h.next a b ha hb with h1 | h1
    · exact .inl h1
    · rcases List.mem_append.mp h1 with h1 | h1
      · exact .inr h1
      · simp at h1; exact .inl (hx b h1.symm (ht a b hb))
  lt := h.lt
  right := h.right
  todo := fun a ha => h.todo a (by simp [ha])

/-- the last one to do is new: its next ones come -/
theorem Rst.take {t : Nat → Nat → Bool} {n : Nat} {l todo : List Int} {seen : Nat → Bool} {i : Nat} (h : Rst t n l seen (todo ++ [(i : Int)])) (hi : i < n) (nx : List Nat) (hnx : ∀ b, b ∈ nx ↔ t i b = true) : Rst t n l (fun a => seen a || a == i) (todo ++ nx.map (fun b : Nat => (b : Int))) where
  start := fun a ha hn => by
    simp only [Bool.or_eq_true, beq_iff_eq]
    rcases h.start a ha hn with h1 | h1
    · exact .inl (.inl h1)
    · rcases List.mem_append.mp h1 with h1 | h1
      · exact .inr (List.mem_append.mpr (.inl h1))
      · simp at h1; exact .inl (.inr (by omega))
  next := fun a b ha hb => by
    simp only [Bool.or_eq_true, beq_iff_eq] at ha ⊢
    rcases ha with ha | rfl
    · rcases h.next a b ha hb with h1 | h1
      · exact .inl (.inl h1)
      · rcases List.mem_append.mp h1 with h1 | h1
        · exact .inr (List.mem_append.mpr (.inl h1))
        · simp at h1; exact .inl (.inr (by omega))
    · exact .inr (List.mem_append.mpr (.inr (List.mem_map.mpr ⟨b, (hnx b).mpr hb, rfl⟩)))
  lt := fun a ha => by
    simp only [Bool.or_eq_true, beq_iff_eq] at ha
    rcases ha with ha | rfl
    · exact h.lt a ha
    · exact hi
  right := fun a ha => by
    simp only [Bool.or_eq_true, beq_iff_eq] at ha
    rcases ha with ha | rfl
    · exact h.right a ha
    · exact h.todo a (by simp)
  todo := fun a ha => by
    rcases List.mem_append.mp ha with ha | ha
    · exact h.todo a (by simp [ha])
    · obtain ⟨b, hb, e⟩ := List.mem_map.mp ha
      have : b = a := by omega
      subst this
      exact (h.todo i (by simp)).next hi ((hnx b).mp hb)

/-- nothing is to do: just those that are reached have been seen -/
theorem Rst.last {t : Nat → Nat → Bool} {n : Nat} {l : List Int} {seen : Nat → Bool} (h : Rst t n l seen []) (a : Nat) : seen a = true ↔ a < n ∧ Reach t n l a := by
  refine ⟨fun ha => ⟨h.lt a ha, h.right a ha⟩, ?_⟩
  rintro ⟨ha, hr⟩
  have hs : ∀ b : Nat, (b : Int) ∈ l → b < n → seen b = true := fun b hb hn => by
    rcases h.start b hb hn with h1 | h1
    · exact h1
    · cases h1
  have hw : ∀ {b c : Nat}, Way t b c → seen b = true → seen c = true := by
    intro b c w
    induction w with
    | one e =>
      intro hb
      rcases h.next _ _ hb e with h1 | h1
      · exact h1
      · cases h1
    | more e _ ih =>
      intro hb
      rcases h.next _ _ hb e with h1 | h1
      · exact ih h1
      · cases h1
  rcases hr with hr | ⟨b, hb, hn, w⟩
  · exact hs a hr ha
  · exact hw w (hs b hb hn)

/-- the edges turned round -/
theorem Way.turn {t s : Nat → Nat → Bool} (hts : ∀ a b, t a b = s b a) {a b : Nat} (w : Way t a b) : Way s b a := by
  induction w with
  | one h => exact .one (by rw [← hts]; exact h)
  | more h _ ih => exact ih.snoc (by rw [← hts]; exact h)

end Go.Proofs.Ytmehdlflhllhdaa
