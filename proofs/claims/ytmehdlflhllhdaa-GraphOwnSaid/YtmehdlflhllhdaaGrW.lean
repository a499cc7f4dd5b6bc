/- graph.New: what stands in its loops; the needs that it lays. No walk. -/
import Derived.Test.YtmehdlflhllhdaaGrN
import Derived.Test.YtmehdlflhllhdaaGrX
namespace Go.Proofs.Ytmehdlflhllhdaa
open Go.RowKit

/-- a row's numbers, rising, each once -/
def rowU (l : List Int) : List Nat := (uniq l).map Int.toNat
/-- the needs of n nodes -/
def nsL (n : Nat) (ls : List (List Int)) : List (List Nat) := (List.range n).map fun a => rowU (ls.getD a [])
theorem nsL_length (n : Nat) (ls : List (List Int)) : (nsL n ls).length = n := by simp [nsL]
theorem nsOf_nsL (n : Nat) (ls : List (List Int)) (hl : ls.length ≤ n) (a : Nat) : nsOf (nsL n ls) a = rowU (ls.getD a []) := by
  unfold nsOf nsL
  rcases Nat.lt_or_ge a n with h | h
  · simp [h]
  · have hU : rowU [] = [] := by simp [rowU, uniq, sortI, Lib.compact, Lib.compactUpTo]
    rw [List.getD_eq_getElem?_getD, List.getElem?_eq_none (by simpa using h), List.getD_eq_getElem?_getD, List.getElem?_eq_none (by omega)]
    exact hU.symm
theorem mem_rowU {n : Nat} {l : List Int} (h : allN n l = true) (x : Nat) : x ∈ rowU l ↔ (x : Int) ∈ l := by
  unfold rowU
  rw [List.mem_map]
  have hp := (uniq_props l).1
  have hn : ∀ y ∈ l, 0 ≤ y ∧ y < n := fun y hy => nodeB_iff.1 (List.all_eq_true.1 h y hy)
  constructor
  · rintro ⟨y, hy, rfl⟩
    have hy' := (hp y).1 hy
    rw [Int.toNat_of_nonneg (hn y hy').1]; exact hy'
  · intro hx
    exact ⟨x, (hp x).2 hx, by simp⟩
theorem rowU_lt {n : Nat} {l : List Int} (h : allN n l = true) : ∀ x ∈ rowU l, x < n := fun x hx => by
  have := (mem_rowU h x).1 hx
  have := nodeB_iff.1 (List.all_eq_true.1 h _ this)
  omega
theorem iN_rowU {n : Nat} {l : List Int} (h : allN n l = true) : iN (rowU l) = uniq l := by
  unfold iN rowU
  rw [List.map_map]
  conv => rhs; rw [← List.map_id (uniq l)]
  apply List.map_congr_left
  intro y hy
  have hy' := ((uniq_props l).1 y).1 hy
  have := (nodeB_iff.1 (List.all_eq_true.1 h y hy')).1
  simp [Int.toNat_of_nonneg this]
theorem rowU_nodup {n : Nat} {l : List Int} (h : allN n l = true) : (rowU l).Nodup := by
  have hp := (uniq_props l).2
  rw [← iN_rowU h] at hp
  unfold iN at hp
  rw [List.pairwise_map] at hp
  exact hp.imp (fun h e => by subst e; omega)
theorem allN_nil (n : Nat) : allN n [] = true := rfl
theorem allN_getD {n : Nat} {ls : List (List Int)} (h : ∀ l ∈ ls, allN n l = true) (a : Nat) : allN n (ls.getD a []) = true := by
  rcases Nat.lt_or_ge a ls.length with hl | hl
  · simp [hl]; exact h _ (List.getElem_mem hl)
  · simp [List.getElem?_eq_none hl]; rfl
theorem nsL_lt {n : Nat} {ls : List (List Int)} (hl : ls.length ≤ n) (h : ∀ l ∈ ls, allN n l = true) : ∀ k, ∀ x ∈ nsOf (nsL n ls) k, x < (nsL n ls).length := fun k x hx => by
  rw [nsOf_nsL n ls hl] at hx
  rw [nsL_length]
  exact rowU_lt (allN_getD h k) x hx
theorem nsL_nodup {n : Nat} {ls : List (List Int)} (hl : ls.length ≤ n) (h : ∀ l ∈ ls, allN n l = true) : ∀ k, (nsOf (nsL n ls) k).Nodup := fun k => by
  rw [nsOf_nsL n ls hl]; exact rowU_nodup (allN_getD h k)

/-- who needs a, so far: the first i rows, and p of the next one -/
def ndW (f : Nat → List Nat) (i p a : Nat) : List Nat := pick i (fun r => decide (a ∈ f r)) ++ (if a ∈ (f i).take p then [i] else [])
theorem ndW_zero (f : Nat → List Nat) (i a : Nat) : ndW f i 0 a = pick i (fun r => decide (a ∈ f r)) := by unfold ndW; simp
theorem ndW_next (f : Nat → List Nat) (i p a : Nat) (h : (f i).length ≤ p) : ndW f i p a = ndW f (i + 1) 0 a := by
  rw [ndW_zero, pick_succ]
  unfold ndW
  rw [List.take_of_length_le h]
  by_cases e : a ∈ f i <;> simp [e]
theorem ndW_step (f : Nat → List Nat) (i p a : Nat) (hp : p < (f i).length) (hn : (f i).Nodup) : ndW f i (p + 1) a = if a = (f i)[p] then ndW f i p a ++ [i] else ndW f i p a := by
  unfold ndW
  have hm := take_snoc_mem hp a
  by_cases e : a = (f i)[p]
  · subst e
    have := nodup_take hn hp
    rw [if_pos (hm.2 (.inr rfl)), if_pos rfl, if_neg this]
    simp
  · rw [if_neg e]
    by_cases q : a ∈ (f i).take p
    · rw [if_pos (hm.2 (.inl q)), if_pos q]
    · rw [if_neg (fun h => by rcases hm.1 h with h | h; exact q h; exact e h), if_neg q]
theorem ndW_le (f : Nat → List Nat) (i p a : Nat) : (ndW f i p a).length ≤ i + 1 := by
  unfold ndW
  have := pick_length_le i fun r => decide (a ∈ f r)
  rw [List.length_append]
  split <;> simp <;> omega

/-- the graph on the way: so many rows are laid, of the edges back so many -/
structure NS (w : World) (B g : Nat) (X : GX) (n : Nat) (f : Nat → List Nat) (i j p : Nat) (wr : World) : Prop where
  b : wr.heap[B]? = some (.cells #[gP g] 25 (0, 0))
  hd : HdAt wr g X n
  sn : OwnK 31 1 sE wr (some ⟨X.N, 0, none⟩) n X.sn
  sm : OwnK 31 1 sE wr (some ⟨X.M, 0, none⟩) n X.sm
  dp : OwnK 3 1 nE wr (some ⟨X.P, 0, none⟩) n (List.replicate n 0)
  snl : X.sn.length = n
  sml : X.sm.length = n
  rn : ∀ a (h : a < X.sn.length), RowIs wr X.sn[a] (iN (if a < i then f a else []))
  rm : ∀ a (h : a < X.sm.length), X.sm[a].n = (ndW f j p a).length ∧ OwnK 3 1 nE wr X.sm[a].A X.sm[a].c (ndW f j p a)
  t : Touch [] w wr
  ge : ∀ x ∈ [B, g, X.N, X.M, X.P], w.heap.size ≤ x
  nd : [B, g, X.N, X.M, X.P].Nodup
  bn : ∀ s ∈ X.sn, ∀ x ∈ fpo s.A, w.heap.size ≤ x ∧ x ∉ [B, g, X.N, X.M, X.P]
  bl : ∀ s ∈ X.sn, ∀ x ∈ fpo s.A, x < wr.heap.size
  bm : ∀ s ∈ X.sm, ∀ x ∈ fpo s.A, w.heap.size ≤ x ∧ x ∉ [B, g, X.N, X.M, X.P] ∧ ∀ s2 ∈ X.sn, x ∉ fpo s2.A
  dm : ∀ a b (ha : a < X.sm.length) (hb : b < X.sm.length), a ≠ b → ∀ x ∈ fpo X.sm[a].A, x ∉ fpo X.sm[b].A

theorem NS.touch0 {w : World} {B g : Nat} {X : GX} {n : Nat} {f : Nat → List Nat} {i j p : Nat} {wr w2 : World} (h : NS w B g X n f i j p wr) (ht : Touch [] wr w2) : NS w B g X n f i j p w2 :=
  ⟨ht.blk h.b (by simp), ht.blk h.hd (by simp), h.sn.touch0 ht, h.sm.touch0 ht, h.dp.touch0 ht, h.snl, h.sml, fun a ha => (h.rn a ha).touch ht (by simp), fun a ha => ⟨(h.rm a ha).1, (h.rm a ha).2.touch0 ht⟩, h.t.trans0 ht, h.ge, h.nd, h.bn, fun s hs x hx => Nat.lt_of_lt_of_le (h.bl s hs x hx) ht.size, h.bm, h.dm⟩
theorem NS.lt {w : World} {B g : Nat} {X : GX} {n : Nat} {f : Nat → List Nat} {i j p : Nat} {wr : World} (h : NS w B g X n f i j p wr) : ∀ x ∈ [B, g, X.N, X.M, X.P], x < wr.heap.size := by
  intro x hx
  simp only [List.mem_cons, List.not_mem_nil, or_false] at hx
  rcases hx with rfl | rfl | rfl | rfl | rfl
  · exact lt_blk h.b
  · exact lt_blk h.hd
  · exact h.sn.lt _ (by simp [fpo])
  · exact h.sm.lt _ (by simp [fpo])
  · exact h.dp.lt _ (by simp [fpo])
theorem NS.next {w : World} {B g : Nat} {X : GX} {n : Nat} {f : Nat → List Nat} {i p : Nat} {wr : World} (h : NS w B g X n f (i + 1) i p wr) (hp : (f i).length ≤ p) : NS w B g X n f (i + 1) (i + 1) 0 wr :=
  ⟨h.b, h.hd, h.sn, h.sm, h.dp, h.snl, h.sml, h.rn, fun a ha => by rw [← ndW_next f i p a hp]; exact h.rm a ha, h.t, h.ge, h.nd, h.bn, h.bl, h.bm, h.dm⟩

/-- the next row is laid -/
theorem NS.row {w : World} {B g : Nat} {X : GX} {n : Nat} {f : Nat → List Nat} {i j p : Nat} {wr w2 : World} (h : NS w B g X n f i j p wr) (hi : i < n) (t2 : Touch [] wr w2) (s : SL) (hs : RowIs w2 s (iN (f i))) (hf : ∀ x ∈ fpo s.A, wr.heap.size ≤ x ∧ x < w2.heap.size) (hlt : ∀ s ∈ X.sm, ∀ x ∈ fpo s.A, x < wr.heap.size) :
    NS w B g { X with sn := X.sn.set i s } n f (i + 1) j p (w2.setCell ⟨X.N, i, none⟩ s.val) := by
  have h2 := h.touch0 t2
  have hin : i < X.sn.length := by rw [h.snl]; exact hi
  have T := (Touch.refl [X.N] w2).setCell (p := ⟨X.N, i, none⟩) (.inl (by simp)) s.val
  have hlt5 := h.lt
  have hnd := h.nd
  simp only [List.nodup_cons, List.mem_cons, List.not_mem_nil, or_false, not_or, not_false_eq_true, and_true, List.nodup_nil] at hnd
  obtain ⟨⟨n1, n2, n3, n4⟩, ⟨n5, n6, n7⟩, ⟨n8, n9⟩, n10⟩ := hnd
  have hsN : ∀ x ∈ fpo s.A, x ∉ [B, g, X.N, X.M, X.P] := fun x hx hm => by have := (hf x hx).1; have := hlt5 x hm; omega
  refine ⟨T.blk h2.b (by simpa using n2), T.blk h2.hd (by simpa using n5), h2.sn.set1 i hin s, h2.sm.touch T (fun b hb => by simp [fpo] at hb; subst hb; simp; exact fun e => n8 e.symm), h2.dp.touch T (fun b hb => by simp [fpo] at hb; subst hb; simp; exact fun e => n9 e.symm),
    by simp [h.snl], h.sml, fun a ha => ?_, fun a ha => ⟨(h2.rm a ha).1, (h2.rm a ha).2.touch T (fun b hb => ?_)⟩, h2.t.trans T (fun b hb => .inr (h.ge b (by simp at hb; subst hb; simp))), h.ge, h.nd, fun s' hs' x hx => ?_, fun s' hs' x hx => ?_, fun s' hs' x hx => ⟨(h.bm s' hs' x hx).1, (h.bm s' hs' x hx).2.1, fun s2 hs2 hm => ?_⟩, h.dm⟩
  · simp only [List.length_set] at ha
    rw [List.getElem_set]
    split
    · rename_i e
      subst e
      rw [if_pos (by omega)]
      exact hs.touch T (fun b hb => by simp; exact fun e => hsN b hb (by simp [e]))
    · rename_i e
      have h3 := h2.rn a ha
      have e2 : (a < i) = (a < i + 1) := by simp; omega
      simp only [e2] at h3
      exact h3.touch T (fun b hb => by simp; exact fun e => (h.bn _ (List.getElem_mem ha) b hb).2 (by simp [e]))
  · have := (h.bm _ (List.getElem_mem ha) b hb).2.1
    simp; exact fun e => this (by simp [e])
  · rcases List.mem_or_eq_of_mem_set hs' with e | e
    · exact h.bn _ e x hx
    · subst e
      exact ⟨Nat.le_trans h.t.size (hf x hx).1, hsN x hx⟩
  · rw [World.size_setCell]
    rcases List.mem_or_eq_of_mem_set hs' with e | e
    · exact Nat.lt_of_lt_of_le (h.bl _ e x hx) t2.size
    · subst e
      exact (hf x hx).2
  · rcases List.mem_or_eq_of_mem_set hs2 with e | e
    · exact (h.bm s' hs' x hx).2.2 _ e hm
    · subst e
      have := (hf x hm).1; have := hlt s' hs' x hx; omega

/-- one edge back -/
theorem NS.back {w : World} {B g : Nat} {X : GX} {n : Nat} {f : Nat → List Nat} {i p k : Nat} {wr w2 w3 : World} (h : NS w B g X n f (i + 1) i p wr) (hp : p < (f i).length) (hn : (f i).Nodup) (hk : k = (f i)[p]) (_hkn : k < n) (hksl : k < X.sm.length) (t2 : Touch [] wr w2)
    {A3 : Option Addr} {c3 : Nat} (hown : OwnK 3 1 nE w3 A3 c3 (ndW f i p k ++ [i])) (t3 : Touch (fpo X.sm[k].A) w2 w3) (hf : ∀ b ∈ fpo A3, b ∈ fpo X.sm[k].A ∨ wr.heap.size ≤ b) :
    NS w B g { X with sm := X.sm.set k ⟨A3, (ndW f i p k).length + 1, c3⟩ } n f (i + 1) i (p + 1) (w3.setCell ⟨X.M, k, none⟩ (.slice A3 ((ndW f i p k).length + 1) c3)) := by
  have h2 := h.touch0 t2
  have hbm := fun x hx => h.bm _ (List.getElem_mem hksl) x hx
  have T := (Touch.refl [X.M] w3).setCell (p := ⟨X.M, k, none⟩) (.inl (by simp)) (.slice A3 ((ndW f i p k).length + 1) c3)
  have hlt5 := h.lt
  have hnd := h.nd
  simp only [List.nodup_cons, List.mem_cons, List.not_mem_nil, or_false, not_or, not_false_eq_true, and_true, List.nodup_nil] at hnd
  obtain ⟨⟨n1, n2, n3, n4⟩, ⟨n5, n6, n7⟩, ⟨n8, n9⟩, n10⟩ := hnd
  have hfx : ∀ x ∈ [B, g, X.N, X.M, X.P], x ∉ fpo X.sm[k].A := fun x hx hm => (hbm x hm).2.1 hx
  have hA3 : ∀ x ∈ fpo A3, x ∉ [B, g, X.N, X.M, X.P] := fun x hx hm => by
    rcases hf x hx with e | e
    · exact hfx x hm e
    · have := hlt5 x hm; omega
  have hrl : ∀ a (ha : a < X.sm.length), ∀ x ∈ fpo X.sm[a].A, x < wr.heap.size := fun a ha x hx => (h.rm a ha).2.lt x hx
  have hsl : ∀ s ∈ X.sn, ∀ x ∈ fpo s.A, x ∉ fpo A3 := fun s hs x hx hm => by
    rcases hf x hm with e | e
    · exact (hbm x e).2.2 s hs hx
    · have := h.bl s hs x hx; omega
  have hA3g : ∀ x ∈ fpo A3, w.heap.size ≤ x := fun x hx => by
    rcases hf x hx with e | e
    · exact (hbm x e).1
    · exact Nat.le_trans h.t.size e
  have hstep := fun a => ndW_step f i p a hp hn
  have hMk : X.M ∉ fpo X.sm[k].A := hfx _ (by simp)
  have hother : ∀ a (ha : a < X.sm.length), a ≠ k → ∀ x ∈ fpo X.sm[a].A, x ∉ fpo X.sm[k].A ∧ x ≠ X.M ∧ x ∉ fpo A3 := fun a ha hak x hx => by
    refine ⟨h.dm a k ha hksl hak x hx, fun e => (h.bm _ (List.getElem_mem ha) x hx).2.1 (by simp [e]), fun hm => ?_⟩
    rcases hf x hm with e | e
    · exact h.dm a k ha hksl hak x hx e
    · have := hrl a ha x hx; omega
  refine ⟨T.blk (t3.blk h2.b (hfx _ (by simp))) (by simpa using n3), T.blk (t3.blk h2.hd (hfx _ (by simp))) (by simpa using n6), (h2.sn.touch t3 (fun b hb => by simp [fpo] at hb; subst hb; exact hfx _ (by simp))).touch T (fun b hb => by simp [fpo] at hb; subst hb; simpa using n8),
    (h2.sm.touch t3 (fun b hb => by simp [fpo] at hb; subst hb; exact hMk)).set1 k hksl ⟨A3, (ndW f i p k).length + 1, c3⟩, (h2.dp.touch t3 (fun b hb => by simp [fpo] at hb; subst hb; exact hfx _ (by simp))).touch T (fun b hb => by simp [fpo] at hb; subst hb; simp; exact fun e => n10 e.symm),
    h.snl, by simp [h.sml], fun a ha => ((h2.rn a ha).touch t3 (fun x hx hm => (hbm x hm).2.2 _ (List.getElem_mem ha) hx)).touch T (fun x hx => by simp; exact fun e => (h.bn _ (List.getElem_mem ha) x hx).2 (by simp [e])), fun a ha => ?_, (h2.t.trans t3 (fun b hb => .inr (hbm b hb).1)).trans T (fun b hb => .inr (h.ge b (by simp at hb; subst hb; simp))), h.ge, h.nd, h.bn,
    fun s hs x hx => by rw [World.size_setCell]; exact Nat.lt_of_lt_of_le (h.bl s hs x hx) (Nat.le_trans t2.size t3.size), fun s hs x hx => ?_, fun a b ha hb hab x hx => ?_⟩
  · simp only [List.length_set] at ha
    rw [List.getElem_set]
    split
    · rename_i e
      subst e
      rw [hstep, if_pos hk]
      refine ⟨by rw [List.length_append]; rfl, hown.touch T (fun x hx => by simp; exact fun e => hA3 x hx (by simp [e]))⟩
    · rename_i e
      rw [hstep, if_neg (fun q => e (by rw [q, hk]))]
      have h3 := h2.rm a ha
      exact ⟨h3.1, (h3.2.touch t3 (fun x hx => (hother a ha (fun q => e q.symm) x hx).1)).touch T (fun x hx => by simp; exact (hother a ha (fun q => e q.symm) x hx).2.1)⟩
  · rcases List.mem_or_eq_of_mem_set hs with e | e
    · exact h.bm _ e x hx
    · subst e
      exact ⟨hA3g x hx, hA3 x hx, fun s2 hs2 hm => hsl s2 hs2 x hm hx⟩
  · simp only [List.length_set] at ha hb
    simp only [List.getElem_set] at hx ⊢
    by_cases e1 : k = a
    · rw [if_pos e1] at hx
      rw [if_neg (by omega)]
      exact fun hm => (hother b hb (by omega) x hm).2.2 hx
    · rw [if_neg e1] at hx
      by_cases e2 : k = b
      · rw [if_pos e2]
        exact (hother a ha (by omega) x hx).2.2
      · rw [if_neg e2]
        exact h.dm a b ha hb hab x hx

theorem pick_more (p : Nat → Bool) (m : Nat) : ∀ n, m ≤ n → (∀ r, m ≤ r → p r = false) → pick n p = pick m p := by
  intro n hn hp
  induction hn with
  | refl => rfl
  | step h ih => rw [pick_snoc, hp _ h, if_neg (by simp)]; exact ih
theorem rowU_nil : rowU [] = [] := by simp [rowU, uniq, sortI, Lib.compact, Lib.compactUpTo]

/-- all rows are laid: the graph but its depths -/
theorem NS.done {w : World} {B g : Nat} {X : GX} {n : Nat} {f : Nat → List Nat} {ls : List (List Int)} {wr : World} (h : NS w B g X n f ls.length ls.length 0 wr) (hf : ∀ a, f a = rowU (ls.getD a [])) (hl : ls.length ≤ n) (hn : n ≤ 1024) :
    GAt w.heap.size wr.heap.size wr g X (nsL n ls) (told (nsL n ls)) (List.replicate (nsL n ls).length 0) ∧ X.P ∉ X.fix g ∧ w.heap.size ≤ X.P ∧ X.P < wr.heap.size ∧ B ≠ X.P := by
  have hns := nsL_length n ls
  have hlt := h.lt
  have hge := h.ge
  have hnd := h.nd
  simp only [List.nodup_cons, List.mem_cons, List.not_mem_nil, or_false, not_or, not_false_eq_true, and_true, List.nodup_nil] at hnd
  obtain ⟨⟨n1, n2, n3, n4⟩, ⟨n5, n6, n7⟩, ⟨n8, n9⟩, n10⟩ := hnd
  refine ⟨⟨by rw [hns]; exact h.hd, by simp [told], by simp, by rw [hns]; exact h.sn, by rw [hns]; exact h.sm, by rw [hns]; exact h.dp, by rw [hns]; exact h.snl, by rw [hns]; exact h.sml, fun i h1 h2 => ?_, fun i h1 h2 => ?_, ⟨hge g (by simp), hlt g (by simp), hge X.N (by simp), hlt X.N (by simp), hge X.M (by simp), hlt X.M (by simp), hge X.P (by simp), hlt X.P (by simp)⟩,
    fun s hs b hb => ⟨(h.bn s hs b hb).1, h.bl s hs b hb⟩, fun s hs b hb => ⟨(h.bm s hs b hb).1, ?_⟩, by rw [hns]; omega⟩, ?_, hge _ (by simp), hlt _ (by simp), n4⟩
  · have h3 := h.rn i h1
    have e : (nsL n ls)[i] = if i < ls.length then f i else [] := by
      simp only [nsL, List.getElem_map, List.getElem_range]
      split
      · rw [hf]
      · rw [List.getD_eq_getElem?_getD, List.getElem?_eq_none (by omega)]; exact rowU_nil
    rw [e]; exact h3
  · have h3 := h.rm i h1
    have e : (told (nsL n ls))[i] = ndW f ls.length 0 i := by
      simp only [told, List.getElem_map, List.getElem_range]
      rw [ndW_zero]
      unfold ndOf
      have e1 : (fun r => decide (i ∈ nsOf (nsL n ls) r)) = fun r => decide (i ∈ f r) := by
        funext r; rw [nsOf_nsL n ls hl, hf]
      rw [e1, hns]
      refine pick_more _ _ _ hl (fun r hr => ?_)
      rw [hf, List.getD_eq_getElem?_getD, List.getElem?_eq_none hr]
      simp [rowU_nil]
    rw [e]
    refine ⟨by rw [h3.1]; simp, by rw [h3.1]; exact h3.2.le, ?_, rdI_of_ownN h3.2⟩
    rcases h3.2.head with ⟨q, _⟩ | q
    · exact .inl q
    · exact .inr q
  · obtain ⟨a, ha, rfl⟩ := List.getElem_of_mem hs
    exact (h.rm a ha).2.lt b hb
  · unfold GX.fix
    simp only [List.mem_cons, List.mem_append, List.mem_flatMap, not_or, not_exists, not_and]
    exact ⟨fun e => n7 e.symm, fun e => n9 e.symm, fun e => n10 e.symm, fun s hs hm => (h.bn s hs _ hm).2 (by simp), fun s hs hm => (h.bm s hs _ hm).2.1 (by simp)⟩
end Go.Proofs.Ytmehdlflhllhdaa
