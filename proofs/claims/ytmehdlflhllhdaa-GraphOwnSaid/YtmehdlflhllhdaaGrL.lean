/- Graphs, plainly: rising lists with the same members are one; who needs whom, told so far. No program in sight. -/
namespace Go.Proofs.Ytmehdlflhllhdaa

theorem asc_ext : ∀ (l m : List Int), l.Pairwise (· < ·) → m.Pairwise (· < ·) → (∀ x, x ∈ l ↔ x ∈ m) → l = m
  | [], [], _, _, _ => rfl
  | [], b :: m, _, _, h => absurd ((h b).mpr (by simp)) (by simp)
  | a :: l, [], _, _, h => absurd ((h a).mp (by simp)) (by simp)
  | a :: l, b :: m, hl, hm, h => by
    rw [List.pairwise_cons] at hl hm
    have hab : a = b := by
      have h1 := (h a).mp (by simp)
      have h2 := (h b).mpr (by simp)
      rcases List.mem_cons.mp h1 with h1 | h1
      · exact h1
      · rcases List.mem_cons.mp h2 with h2 | h2
        · exact h2.symm
        · have := hm.1 a h1; have := hl.1 b h2; omega
    subst hab
    congr 1
    refine asc_ext l m hl.2 hm.2 fun x => ⟨fun hx => ?_, fun hx => ?_⟩
    · rcases List.mem_cons.mp ((h x).mp (by simp [hx])) with e | h1
      · subst e; have := hl.1 x hx; omega
      · exact h1
    · rcases List.mem_cons.mp ((h x).mpr (by simp [hx])) with e | h1
      · subst e; have := hm.1 x hx; omega
      · exact h1

/-- the numbers below n of which p holds, rising -/
def pick (n : Nat) (p : Nat → Bool) : List Nat := (List.range n).filter p

theorem pick_succ (n : Nat) (p : Nat → Bool) : pick (n + 1) p = pick n p ++ (if p n then [n] else []) := by
  unfold pick
  rw [List.range_succ, List.filter_append]
  by_cases h : p n = true <;> simp [h]

theorem mem_pick {n : Nat} {p : Nat → Bool} {k : Nat} : k ∈ pick n p ↔ k < n ∧ p k = true := by
  unfold pick; simp

theorem pick_asc : ∀ (n : Nat) (p : Nat → Bool), ((pick n p).map (fun k : Nat => (k : Int))).Pairwise (· < ·)
  | 0, _ => by simp [pick]
  | n + 1, p => by
    rw [pick_succ, List.map_append, List.pairwise_append]
    refine ⟨pick_asc n p, by split <;> simp, ?_⟩
    intro a ha b hb
    obtain ⟨k, hk, rfl⟩ := List.mem_map.mp ha
    have := (mem_pick.mp hk).1
    split at hb
    · simp at hb; omega
    · simp at hb

theorem pick_nodup (n : Nat) (p : Nat → Bool) : (pick n p).Nodup := by
  have h := pick_asc n p
  rw [List.pairwise_map] at h
  exact h.imp (fun h e => by subst e; omega)

theorem pick_length_le (n : Nat) (p : Nat → Bool) : (pick n p).length ≤ n := by
  have := List.length_filter_le p (List.range n)
  simpa [pick] using this

/-- a rising list of numbers below n: the picked ones -/
theorem asc_pick (n : Nat) (l : List Int) (hl : l.Pairwise (· < ·)) (hr : ∀ x ∈ l, 0 ≤ x ∧ x < n) : l = (pick n fun k => decide ((k : Int) ∈ l)).map (fun k : Nat => (k : Int)) := by
  refine asc_ext _ _ hl (pick_asc _ _) fun x => ⟨fun hx => ?_, fun hx => ?_⟩
  · have := hr x hx
    refine List.mem_map.mpr ⟨x.toNat, mem_pick.mpr ⟨by omega, ?_⟩, by omega⟩
    rw [show ((x.toNat : Nat) : Int) = x by omega]; simpa using hx
  · obtain ⟨k, hk, rfl⟩ := List.mem_map.mp hx
    simpa using (mem_pick.mp hk).2

end Go.Proofs.Ytmehdlflhllhdaa
