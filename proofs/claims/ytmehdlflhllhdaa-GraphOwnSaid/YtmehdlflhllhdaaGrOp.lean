/- GraphOrders, plainly: the list that the law wants, the last depth, where each node stands. -/
import Derived.Test.YtmehdlflhllhdaaGrDe
import Derived.Test.YtmehdlflhllhdaaGrTu
import Derived.Test.YtmehdlflhllhdaaMaps
namespace Go.Proofs.Ytmehdlflhllhdaa
open Go.RowKit Go.Maps Go.ChangeMaps

/-- the list as it grows: all of less depth, and those of this depth among the first k -/
def wantN (N : Nat) (D : Nat → Nat) (dep k : Nat) : List Nat := ((List.range dep).flatMap fun d => (List.range N).filter fun i => decide (D i = d)) ++ (List.range k).filter fun i => decide (D i = dep)
theorem wantN_zero (N : Nat) (D : Nat → Nat) : wantN N D 0 0 = [] := by simp [wantN]
theorem wantN_row (N : Nat) (D : Nat → Nat) (dep : Nat) : wantN N D dep N = wantN N D (dep + 1) 0 := by
  unfold wantN
  rw [List.range_succ, List.flatMap_append]
  simp
theorem wantN_all (N : Nat) (D : Nat → Nat) : wantN N D (N + 1) 0 = ordN N D := by simp [wantN, ordN]
theorem wantN_yes {N : Nat} {D : Nat → Nat} {dep k : Nat} (h : D k = dep) : wantN N D dep (k + 1) = wantN N D dep k ++ [k] := by
  unfold wantN
  rw [List.range_succ, List.filter_append, ← List.append_assoc]
  simp [h]
theorem wantN_no {N : Nat} {D : Nat → Nat} {dep k : Nat} (h : ¬ D k = dep) : wantN N D dep (k + 1) = wantN N D dep k := by
  unfold wantN
  rw [List.range_succ, List.filter_append]
  simp [h]
theorem wantN_len (N : Nat) (D : Nat → Nat) (dep k : Nat) (hk : k ≤ N) : (wantN N D dep k).length ≤ (dep + 1) * N := by
  unfold wantN
  rw [List.length_append, List.length_flatMap]
  have h1 : ((List.range k).filter fun i => decide (D i = dep)).length ≤ N := Nat.le_trans (List.length_filter_le _ _) (by simpa using hk)
  have h2 : ((List.range dep).map fun d => ((List.range N).filter fun i => decide (D i = d)).length).sum ≤ dep * N := by
    have : ∀ l : List Nat, (l.map fun d => ((List.range N).filter fun i => decide (D i = d)).length).sum ≤ l.length * N := by
      intro l
      induction l with
      | nil => simp
      | cons a l ih =>
        simp only [List.map_cons, List.sum_cons, List.length_cons, Nat.succ_mul]
        have : ((List.range N).filter fun i => decide (D i = a)).length ≤ N := Nat.le_trans (List.length_filter_le _ _) (by simp)
        omega
    simpa using this (List.range dep)
  rw [Nat.succ_mul]
  omega

/-- the last one's depth -/
def lastV (D : Nat → Nat) (l : List Nat) : Int := match l.getLast? with
  | none => -1
  | some x => (D x : Nat)
theorem lastV_nil (D : Nat → Nat) : lastV D [] = -1 := rfl
theorem lastV_snoc (D : Nat → Nat) (l : List Nat) (k : Nat) : lastV D (l ++ [k]) = (D k : Nat) := by simp [lastV]

theorem ordN_last {N : Nat} {ds : List Nat} (hd : ds.length = N) (hD : ∀ i, i < N → ds.getD i 0 ≤ N) : lastV (fun i => ds.getD i 0) (ordN N fun i => ds.getD i 0) = mostV ds := by
  have hm := ordN_mem N _ hD
  have hp := ordN_pw N fun i => ds.getD i 0
  obtain ⟨L, hL⟩ : ∃ L, L = ordN N fun i => ds.getD i 0 := ⟨_, rfl⟩
  rw [← hL] at hm hp ⊢
  rcases List.eq_nil_or_concat L with rfl | ⟨l, x, rfl⟩
  · rcases mostV_is ds with ⟨_, q⟩ | ⟨k, hk, _⟩
    · rw [q]; rfl
    · exact absurd ((hm k).2 (by omega)) (by simp)
  · rw [List.concat_eq_append] at hm hp ⊢
    rw [lastV_snoc]
    have hx : x < N := (hm x).1 (by simp)
    rcases mostV_is ds with ⟨e, _⟩ | ⟨k, hk, q⟩
    · rw [e] at hd; simp at hd; omega
    · have h1 : ((ds.getD x 0 : Nat) : Int) ≤ mostV ds := mostV_ge ds x (by omega)
      have h2 : ds.getD k 0 ≤ ds.getD x 0 := by
        have hk2 : k ∈ l ++ [x] := (hm k).2 (by omega)
        rcases List.mem_append.1 hk2 with z | z
        · have := (List.pairwise_append.1 hp).2.2 k z x (by simp)
          unfold ltL at this
          dsimp only at this
          omega
        · have : k = x := by simpa using z
          subst this; exact Nat.le_refl _
      rw [q] at h1 ⊢
      have h3 : ds.getD x 0 = ds.getD k 0 := by omega
      exact congrArg (fun z : Nat => (z : Int)) h3

theorem ordN_len {N : Nat} {D : Nat → Nat} (hD : ∀ i, i < N → D i ≤ N) : (ordN N D).length = N := by
  have h1 : (ordN N D).Nodup := (ordN_pw N D).imp fun {a b} h e => by subst e; exact ltL_irrefl D a h
  have := ((List.perm_ext_iff_of_nodup h1 List.nodup_range).2 fun a => by rw [ordN_mem N D hD, List.mem_range]).length_eq
  simpa using this

/-- the map behind so many nodes -/
def posK (L : List Nat) (p : Nat) : List (Value × Value) := (List.range p).map fun j => (.int .i64 (L.getD j 0 : Nat), .int .i64 (j : Nat))
theorem posK_zero (L : List Nat) : posK L 0 = [] := rfl
theorem posK_succ (L : List Nat) (p : Nat) : posK L (p + 1) = posK L p ++ [(.int .i64 (L.getD p 0 : Nat), .int .i64 (p : Nat))] := by
  unfold posK
  rw [List.range_succ, List.map_append]; rfl
theorem getD_at {L : List Nat} {j : Nat} (h : j < L.length) : L.getD j 0 = L[j] := by simp [h]
theorem posK_miss {D : Nat → Nat} {L : List Nat} (hp : L.Pairwise (ltL D)) {p : Nat} (hl : p < L.length) : ∀ q ∈ posK L p, q.1 ≠ .int .i64 (L.getD p 0 : Nat) := by
  intro q hq e
  obtain ⟨j, hj, rfl⟩ := List.mem_map.1 hq
  have hj' := List.mem_range.1 hj
  injection e with _ e
  have e2 : L.getD j 0 = L.getD p 0 := by omega
  rw [getD_at (show j < L.length by omega), getD_at hl] at e2
  have h1 := List.pairwise_iff_getElem.1 hp j p (by omega) hl hj'
  rw [e2] at h1
  exact ltL_irrefl D _ h1
/-- where a node stands -/
theorem posK_hit {L : List Nat} {k : Nat} (h : k ∈ L) : ∃ p, p < L.length ∧ L.getD p 0 = k ∧ (Value.int .i64 (k : Nat), Value.int .i64 (p : Nat)) ∈ posK L L.length := by
  obtain ⟨p, hp, e⟩ := List.getElem_of_mem h
  refine ⟨p, hp, by rw [getD_at hp, e], List.mem_map.2 ⟨p, List.mem_range.2 hp, ?_⟩⟩
  rw [getD_at hp, e]
theorem pos_lt {D : Nat → Nat} {L : List Nat} (hp : L.Pairwise (ltL D)) {p q : Nat} (h1 : p < L.length) (h2 : q < L.length) (h : D (L.getD p 0) < D (L.getD q 0)) : p < q := by
  rcases Nat.lt_trichotomy p q with z | z | z
  · exact z
  · subst z; omega
  · have := List.pairwise_iff_getElem.1 hp q p h2 h1 z
    rw [getD_at h1, getD_at h2] at h
    unfold ltL at this; omega
theorem int_key (x : Int) (h1 : -9223372036854775808 ≤ x) (h2 : x ≤ 9223372036854775807) : keyOf Try.prog 3 (.int .i64 x) = some (.int .i64 x) :=
  keyOf_int_mk Try.underlying3 (by simp [Lit.wf, IntKind.min, IntKind.max, IntKind.bits, IntKind.signed]; omega)
theorem RowF.congr {w : World} {G c n : Nat} {f g : Nat → Nat} (h : RowF w G c n f) (e : ∀ k, k < n → f k = g k) : RowF w G c n g := by
  unfold RowF at *
  rw [show (List.range n).map g = (List.range n).map f from List.map_congr_left fun k hk => (e k (List.mem_range.1 hk)).symm]
  exact h
theorem Deep.le {n : Nat} {ls : List (List Int)} {D : Nat → Nat} (hl : ls.length ≤ n) (ha : ∀ l ∈ ls, allN n l = true) (h : Deep (nsL n ls) D) (k : Nat) (hk : k < n) : D k < n :=
  deep_lt (n := n) D (fun k _ => by
    rcases h.most k with h0 | ⟨x, hx, e⟩
    · exact .inl h0
    · have := nsL_lt hl ha k x hx
      rw [nsL_length] at this
      exact .inr ⟨x, this, e⟩) k hk
end Go.Proofs.Ytmehdlflhllhdaa
