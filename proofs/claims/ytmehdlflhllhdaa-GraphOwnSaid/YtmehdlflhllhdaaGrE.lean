/- Graphs, plainly: measure's state told by lists: the ready ones, what is left, the depths. No program in sight. -/
import Derived.Test.YtmehdlflhllhdaaGrD
import Derived.Test.YtmehdlflhllhdaaGrL
namespace Go.Proofs.Ytmehdlflhllhdaa

theorem getD_set (l : List Nat) (k v y : Nat) (hk : k < l.length) : (l.set k v).getD y 0 = if y = k then v else l.getD y 0 := by
  by_cases h : y = k
  · subst h
    simp [hk]
  · have h' : ¬ k = y := fun e => h e.symm
    simp [h, h']

theorem Kst.congr {ns : List (List Nat)} {r : List Nat} {De De2 : Nat → Nat → Bool} {left dep : Nat → Nat} (h : Kst ns r De left dep) (e : ∀ x y, x ∈ nsOf ns y → De x y = De2 x y) (hr : ∀ x y, De2 x y = true → x ∈ r) : Kst ns r De2 left dep where
  nd := h.nd
  lt := h.lt
  lf := fun k hk => by
    rw [h.lf k hk]
    congr 1
    apply List.filter_congr
    intro x hx
    rw [e x k hx]
  zero := h.zero
  de := hr
  up := fun k x hx hd => h.up k x hx (by rw [e x k hx]; exact hd)
  most := fun k => by
    rcases h.most k with h0 | ⟨x, hx, hd, q⟩
    · exact .inl h0
    · exact .inr ⟨x, hx, by rw [← e x k hx]; exact hd, q⟩

/-- who needs x -/
def ndOf (ns : List (List Nat)) (x : Nat) : List Nat := pick ns.length fun i => decide (x ∈ nsOf ns i)
theorem mem_ndOf {ns : List (List Nat)} {x y : Nat} : y ∈ ndOf ns x ↔ x ∈ nsOf ns y := by
  unfold ndOf
  rw [mem_pick]
  simp only [decide_eq_true_eq]
  refine ⟨fun h => h.2, fun h => ⟨?_, h⟩⟩
  rcases Nat.lt_or_ge y ns.length with hl | hl
  · exact hl
  · unfold nsOf at h; rw [List.getD_eq_getElem?_getD, List.getElem?_eq_none hl] at h; simp at h
theorem ndOf_nodup (ns : List (List Nat)) (x : Nat) : (ndOf ns x).Nodup := pick_nodup _ _
theorem ndOf_lt {ns : List (List Nat)} {x y : Nat} (h : y ∈ ndOf ns x) : y < ns.length := (mem_pick.1 h).1
theorem ndOf_le (ns : List (List Nat)) (x : Nat) : (ndOf ns x).length ≤ ns.length := pick_length_le _ _

/-- measure's state: j of the ready ones are done, and of the next one so many of those that need it -/
structure Mst (ns : List (List Nat)) (r lf ds : List Nat) (j p : Nat) : Prop where
  k : Kst ns r (fun x y => decide (x ∈ r.take j) || (decide (r[j]? = some x) && decide (y ∈ (ndOf ns x).take p))) (fun k => lf.getD k 0) (fun k => ds.getD k 0)
  ll : lf.length = ns.length
  dl : ds.length = ns.length
  jr : j ≤ r.length

theorem Mst.start (ns : List (List Nat)) (_hns : ∀ k, ∀ x ∈ nsOf ns k, x < ns.length) : Mst ns (pick ns.length fun k => decide (nsOf ns k = [])) (ns.map List.length) (List.replicate ns.length 0) 0 0 where
  k := {
    nd := pick_nodup _ _
    lt := fun k hk => (mem_pick.1 hk).1
    lf := fun k hk => by
      simp [nsOf, hk]
      exact (congrArg List.length (List.filter_eq_self.2 (fun _ _ => rfl))).symm
    zero := fun k hk => by
      rw [mem_pick]
      simp [nsOf, hk]
    de := fun x k h => by simp at h
    up := fun k x hx h => by simp at h
    most := fun k => by
      left
      rcases Nat.lt_or_ge k ns.length with hl | hl
      · simp [hl]
      · simp [hl] }
  ll := by simp
  dl := by simp
  jr := Nat.zero_le _

theorem take_snoc_mem {l : List Nat} {p : Nat} (hp : p < l.length) (y : Nat) : y ∈ l.take (p + 1) ↔ y ∈ l.take p ∨ y = l[p] := by
  rw [List.take_succ_eq_append_getElem hp, List.mem_append, List.mem_singleton]
theorem nodup_take {l : List Nat} (h : l.Nodup) {p : Nat} (hp : p < l.length) : l[p] ∉ l.take p := by
  have := h
  rw [← List.take_append_drop p l, List.nodup_append] at this
  intro hm
  refine this.2.2 _ hm l[p] ?_ rfl
  rw [List.drop_eq_getElem_cons hp]; exact List.mem_cons_self

/-- one that needs the next ready one -/
theorem Mst.step {ns : List (List Nat)} {r lf ds : List Nat} {j p : Nat} (h : Mst ns r lf ds j p) (hns : ∀ k, (nsOf ns k).Nodup) (hj : j < r.length) (hp : p < (ndOf ns r[j]).length) :
    (ndOf ns r[j])[p] < ns.length ∧ 0 < lf.getD (ndOf ns r[j])[p] 0 ∧
    Mst ns (if lf.getD (ndOf ns r[j])[p] 0 = 1 then r ++ [(ndOf ns r[j])[p]] else r) (lf.set (ndOf ns r[j])[p] (lf.getD (ndOf ns r[j])[p] 0 - 1)) (ds.set (ndOf ns r[j])[p] (max (ds.getD (ndOf ns r[j])[p] 0) (ds.getD r[j] 0 + 1))) j (p + 1) := by
  obtain ⟨i, hi⟩ : ∃ i, i = r[j] := ⟨_, rfl⟩
  rw [← hi] at hp
  obtain ⟨k, hk⟩ : ∃ k, k = (ndOf ns i)[p] := ⟨_, rfl⟩
  have hkm : k ∈ ndOf ns i := by rw [hk]; exact List.getElem_mem _
  have hkn := ndOf_lt hkm
  have hir : i ∈ r := by rw [hi]; exact List.getElem_mem _
  have hij : r[j]? = some i := by rw [hi]; exact List.getElem?_eq_getElem hj
  have hnt : i ∉ r.take j := by rw [hi]; exact nodup_take h.k.nd hj
  have hkt : k ∉ (ndOf ns i).take p := by rw [hk]; exact nodup_take (ndOf_nodup _ _) hp
  have hst := h.k.step hns hir hkn (mem_ndOf.1 hkm) (by simp [hnt, hkt])
  simp only [← hi, ← hk] at hst ⊢
  refine ⟨hkn, hst.1, ?_⟩
  have e1 : (fun y => if y = k then lf.getD k 0 - 1 else lf.getD y 0) = fun y => (lf.set k (lf.getD k 0 - 1)).getD y 0 := by
    funext y; rw [getD_set _ _ _ _ (by rw [h.ll]; exact hkn)]
  have e2 : (fun y => if y = k then max (ds.getD k 0) (ds.getD i 0 + 1) else ds.getD y 0) = fun y => (ds.set k (max (ds.getD k 0) (ds.getD i 0 + 1))).getD y 0 := by
    funext y; rw [getD_set _ _ _ _ (by rw [h.dl]; exact hkn)]
  have hk3 := hst.2.2
  rw [e1, e2] at hk3
  have htake : (if lf.getD k 0 = 1 then r ++ [k] else r).take j = r.take j := by
    split
    · rw [List.take_append_of_le_length (by omega)]
    · rfl
  have hget : (if lf.getD k 0 = 1 then r ++ [k] else r)[j]? = some i := by
    split
    · rw [List.getElem?_append_left hj]; exact hij
    · exact hij
  have hsub : ∀ x, x ∈ r → x ∈ (if lf.getD k 0 = 1 then r ++ [k] else r) := fun x hx => by
    split
    · simp [hx]
    · exact hx
  refine ⟨hk3.congr (fun x y hxy => ?_) (fun x y hxy => ?_), by simp [h.ll], by simp [h.dl], by have := h.jr; split <;> (try rw [List.length_append]) <;> omega⟩
  · rw [htake, hget, hij]
    by_cases hx : i = x
    · subst hx
      have := take_snoc_mem hp y
      rw [← hk] at this
      rw [Bool.eq_iff_iff]
      simp [this, hnt]
    · have hx2 : ¬ x = i := fun e => hx e.symm
      simp [hx, hx2]
  · rw [htake, hget] at hxy
    simp only [Bool.or_eq_true, Bool.and_eq_true, decide_eq_true_eq, Option.some.injEq] at hxy
    rcases hxy with hxy | ⟨rfl, _⟩
    · exact hsub _ (List.mem_of_mem_take hxy)
    · exact hsub _ hir

/-- the next ready one is done -/
theorem Mst.next {ns : List (List Nat)} {r lf ds : List Nat} {j : Nat} (hj : j < r.length) (h : Mst ns r lf ds j (ndOf ns r[j]).length) : Mst ns r lf ds (j + 1) 0 := by
  refine ⟨h.k.congr (fun x y hxy => ?_) (fun x y hxy => ?_), h.ll, h.dl, by omega⟩
  · have hm := take_snoc_mem hj x
    have hij : r[j]? = some r[j] := List.getElem?_eq_getElem hj
    rw [hij, Bool.eq_iff_iff]
    simp only [Bool.or_eq_true, Bool.and_eq_true, decide_eq_true_eq, Option.some.injEq, List.take_zero, List.not_mem_nil, decide_false, Bool.and_false, Bool.or_false, hm]
    constructor
    · rintro (q | ⟨q, _⟩)
      · exact .inl q
      · exact .inr q.symm
    · rintro (q | q)
      · exact .inl q
      · subst q
        exact .inr ⟨rfl, by rw [List.take_length]; exact mem_ndOf.2 hxy⟩
  · simp at hxy
    exact List.mem_of_mem_take hxy

theorem Mst.bound {ns : List (List Nat)} {r lf ds : List Nat} {j p : Nat} (h : Mst ns r lf ds j p) (k : Nat) (hk : k < ns.length) : ds.getD k 0 < ns.length := h.k.bound k hk
theorem Mst.lfb {ns : List (List Nat)} {r lf ds : List Nat} {j p : Nat} (h : Mst ns r lf ds j p) (k : Nat) (hk : k < ns.length) : lf.getD k 0 ≤ (nsOf ns k).length := by
  have := h.k.lf k hk
  rw [this]; exact List.length_filter_le _ _
theorem Mst.rle {ns : List (List Nat)} {r lf ds : List Nat} {j p : Nat} (h : Mst ns r lf ds j p) : r.length ≤ ns.length ∧ ∀ x ∈ r, x < ns.length := ⟨h.k.all.2, h.k.lt⟩

/-- a ring -/
def Ring (ns : List (List Nat)) : Prop := ∃ a, a < ns.length ∧ Way (edge ns) a a

theorem Mst.last {ns : List (List Nat)} {r lf ds : List Nat} (h : Mst ns r lf ds r.length 0) (hns : ∀ k, ∀ x ∈ nsOf ns k, x < ns.length) :
    (r.length = ns.length → ¬ Ring ns ∧ Deep ns fun k => ds.getD k 0) ∧ (r.length ≠ ns.length → Ring ns) := by
  have hk := h.k
  have hde : ∀ x y, x ∈ r → (decide (x ∈ r.take r.length) || (decide (r[r.length]? = some x) && decide (y ∈ (ndOf ns x).take 0))) = true := fun x y hx => by
    rw [List.take_length]; simp [hx]
  constructor
  · intro e
    have hall := hk.all.1.1 e
    have hA : ∀ k x, x ∈ nsOf ns k → (decide (x ∈ r.take r.length) || (decide (r[r.length]? = some x) && decide (k ∈ (ndOf ns x).take 0))) = true := fun k x hx => hde x k (hall x (hns k x hx))
    refine ⟨fun ⟨a, _, w⟩ => hk.none hA a w, ⟨fun k x hx => hk.up k x hx (hA k x hx), fun k => ?_⟩⟩
    rcases hk.most k with h0 | ⟨x, hx, _, q⟩
    · exact .inl h0
    · exact .inr ⟨x, hx, q⟩
  · intro e
    have : ∃ k, k < ns.length ∧ k ∉ r := by
      rcases Classical.em (∃ k, k < ns.length ∧ k ∉ r) with hh | hh
      · exact hh
      · exfalso
        refine e (hk.all.1.2 fun k hk2 => ?_)
        rcases Classical.em (k ∈ r) with q | q
        · exact q
        · exact absurd ⟨k, hk2, q⟩ hh
    obtain ⟨k, h1, h2⟩ := this
    exact hk.ring hns (fun k x _ hx => hde x k hx) h1 h2
end Go.Proofs.Ytmehdlflhllhdaa
