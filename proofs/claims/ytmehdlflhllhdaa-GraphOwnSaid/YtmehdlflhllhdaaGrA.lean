/- A graph that New has made; Above, Below; bywashlaw16.awake. -/
import Derived.Test.YtmehdlflhllhdaaGrO
import Derived.Test.YtmehdlflhllhdaaGrW2
namespace Go.Proofs.Ytmehdlflhllhdaa
open Go.RowKit

/-- a graph as New leaves it -/
structure Gph (lo up : Nat) (w : World) (g : Nat) (X : GX) (ns : List (List Nat)) (ds : List Nat) : Prop where
  gr : GAt lo up w g X ns (told ns) ds
  lt : ∀ k, ∀ x ∈ nsOf ns k, x < ns.length
  nd : ∀ k, (nsOf ns k).Nodup
  dp : Deep ns fun k => ds.getD k 0
  up : up ≤ w.heap.size
theorem Gph.touch {lo up : Nat} {w w' : World} {g : Nat} {X : GX} {ns : List (List Nat)} {ds : List Nat} {fp : List Nat} (h : Gph lo up w g X ns ds) (ht : Touch fp w w') (hf : ∀ b ∈ fp, b < lo ∨ up ≤ b) : Gph lo up w' g X ns ds := ⟨h.gr.touch ht hf, h.lt, h.nd, h.dp, Nat.le_trans h.up ht.size⟩
theorem Gph.touch0 {lo up : Nat} {w w' : World} {g : Nat} {X : GX} {ns : List (List Nat)} {ds : List Nat} (h : Gph lo up w g X ns ds) (ht : Touch [] w w') : Gph lo up w' g X ns ds := h.touch ht (by simp)
theorem Gph.short {lo up : Nat} {w : World} {g : Nat} {X : GX} {ns : List (List Nat)} {ds : List Nat} (h : Gph lo up w g X ns ds) : (∀ r ∈ ns, r.length ≤ 2000) ∧ ∀ r ∈ told ns, r.length ≤ 2000 := by
  have hl := h.gr.lt
  constructor
  · intro r hr
    obtain ⟨i, hi, rfl⟩ := List.getElem_of_mem hr
    have := pigeon ns.length (nsOf ns i) (h.nd i) (h.lt i)
    simp [nsOf, hi] at this
    omega
  · intro r hr
    unfold told at hr
    obtain ⟨a, _, rfl⟩ := List.mem_map.1 hr
    have := ndOf_le ns a
    omega
theorem nsOf_told (ns : List (List Nat)) (a : Nat) (ha : a < ns.length) : nsOf (told ns) a = ndOf ns a := by
  unfold nsOf told; simp [ha]

/-- who lies above: what is needed -/
noncomputable def upN (ns : List (List Nat)) (l : List Int) : List Nat := reachN (edge ns) ns.length l
/-- who lies below -/
noncomputable def dnN (ns : List (List Nat)) (l : List Int) : List Nat := reachN (fun a b => edge ns b a) ns.length l

set_option maxHeartbeats 800000 in
theorem above_any (lo up g : Nat) (X : GX) (ns : List (List Nat)) (ds : List Nat) (A : Option Addr) (c m : Nat) (l : List Int) (hm : l.length = m) (hml : m ≤ 1000000) (w : World) (h : Gph lo up w g X ns ds) (hl : RdI w A l) :
    Calls Try.prog 23 #[gP g, .slice A m c] w fun e w' => OutI (iN (upN ns l)) w e w' := by
  have hr := reach_needs lo up g X ns (told ns) ds A c m l hm hml w h.gr h.up hl (edge ns) h.short.1 (fun a b he => h.lt a b (of_decide_eq_true he)) (fun a b _ => by unfold edge; simp)
  change Calls _ _ _ _ (fun e w' => OutI (iN (upN ns l)) w e w') at hr
  obtain ⟨L, hL⟩ : ∃ L, L = iN (upN ns l) := ⟨_, rfl⟩
  rw [← hL] at hr ⊢
  have Hr := Lib.hid hr
  clear hr hL
  go_enter Try.func23, Try.ntmps23
  go_wp2_with fail
  refine Hr.out.mono ?_
  rintro e w1 ⟨A1, c1, rfl, ho, ht, hf⟩
  go_wp2_with fail
  go_ret
  exact ⟨A1, c1, rfl, ho, ht, hf⟩

set_option maxHeartbeats 800000 in
theorem below_any (lo up g : Nat) (X : GX) (ns : List (List Nat)) (ds : List Nat) (A : Option Addr) (c m : Nat) (l : List Int) (hm : l.length = m) (hml : m ≤ 1000000) (w : World) (h : Gph lo up w g X ns ds) (hl : RdI w A l) :
    Calls Try.prog 24 #[gP g, .slice A m c] w fun e w' => OutI (iN (dnN ns l)) w e w' := by
  have hr := reach_needed lo up g X ns (told ns) ds A c m l hm hml w h.gr h.up hl (fun a b => edge ns b a) h.short.2 (fun a b he => by
    have h1 : a ∈ nsOf ns b := of_decide_eq_true he
    exact ndOf_lt (mem_ndOf.2 h1)) (fun a b ha => by rw [nsOf_told ns a ha, mem_ndOf]; unfold edge; simp)
  change Calls _ _ _ _ (fun e w' => OutI (iN (dnN ns l)) w e w') at hr
  obtain ⟨L, hL⟩ : ∃ L, L = iN (dnN ns l) := ⟨_, rfl⟩
  rw [← hL] at hr ⊢
  have Hr := Lib.hid hr
  clear hr hL
  go_enter Try.func24, Try.ntmps24
  go_wp2_with fail
  refine Hr.out.mono ?_
  rintro e w1 ⟨A1, c1, rfl, ho, ht, hf⟩
  go_wp2_with fail
  go_ret
  exact ⟨A1, c1, rfl, ho, ht, hf⟩

/-- a way goes down where each edge does -/
theorem Way.lower {t : Nat → Nat → Bool} {D : Nat → Nat} (h : ∀ a b, t a b = true → D b < D a) {a b : Nat} (w : Way t a b) : D b < D a := by
  induction w with
  | one e => exact h _ _ e
  | more e _ ih => have := h _ _ e; omega

theorem NewPost.ok {n : Nat} {ls : List (List Int)} {w : World} {e : Ending} {w' : World} (h : NewPost n ls w e w') (hl : ls.length ≤ n) (ha : ∀ l ∈ ls, allN n l = true) (hr : ¬ Ring (nsL n ls)) :
    Touch [] w w' ∧ ∃ g X ds up, e = .returned (.tuple #[gP g, .int .i64 0]) ∧ Gph w.heap.size up w' g X (nsL n ls) ds := by
  obtain ⟨t, ⟨⟨l, hl2, hf⟩, _⟩ | ⟨_, hr2, _⟩ | ⟨_, _, g, X, ds, up, he, hg, hu, hd⟩⟩ := h
  · rw [ha l hl2] at hf; cases hf
  · exact absurd hr2 hr
  · exact ⟨t, g, X, ds, up, he, hg, nsL_lt hl ha, nsL_nodup hl ha, hd, hu⟩

open Classical in
theorem reachN_eq {t : Nat → Nat → Bool} {n : Nat} {l : List Int} {q : Nat → Bool} (h : ∀ a, a < n → (Reach t n l a ↔ q a = true)) : reachN t n l = pick n q := by
  unfold reachN
  refine pick_congr fun a ha => ?_
  rw [Bool.eq_iff_iff, decide_eq_true_iff]
  exact h a ha
/-- awake's graph -/
def awL : List (List Int) := [[], [0], [0, 1]]
theorem awL_all : ∀ l ∈ awL, allN 3 l = true := by decide
theorem aw_edge (a b : Nat) : b ∈ nsOf (nsL 3 awL) a ↔ (a = 1 ∧ b = 0) ∨ (a = 2 ∧ (b = 0 ∨ b = 1)) := by
  rw [nsOf_nsL 3 awL (by decide), mem_rowU (allN_getD awL_all a)]
  rcases a with _ | _ | _ | a
  · simp [awL]
  · simp [awL]
  · simp [awL]; omega
  · simp [awL]
theorem aw_deep : Deep (nsL 3 awL) (fun k => if k < 3 then k else 0) where
  up := fun k x hx => by
    rcases (aw_edge k x).1 hx with ⟨rfl, rfl⟩ | ⟨rfl, rfl | rfl⟩ <;> decide
  most := fun k => by
    rcases k with _ | _ | _ | k
    · left; rfl
    · right; exact ⟨0, (aw_edge 1 0).2 (by omega), rfl⟩
    · right; exact ⟨1, (aw_edge 2 1).2 (by omega), rfl⟩
    · left; rw [if_neg (by omega)]
theorem aw_ring : ¬ Ring (nsL 3 awL) := fun ⟨_a, _, w⟩ => Nat.lt_irrefl _ (Way.lower (D := fun k => if k < 3 then k else 0) (fun a b e => aw_deep.up a b (of_decide_eq_true e)) w)
theorem aw_dn : dnN (nsL 3 awL) [1] = [1, 2] := by
  unfold dnN
  rw [nsL_length, reachN_eq (q := fun a => decide (a ≠ 0))]
  · decide
  · intro a ha
    have hE : ∀ x y, edge (nsL 3 awL) x y = true ↔ (x = 1 ∧ y = 0) ∨ (x = 2 ∧ (y = 0 ∨ y = 1)) := fun x y => by unfold edge; rw [decide_eq_true_iff]; exact aw_edge x y
    rw [decide_eq_true_iff]
    constructor
    · rintro (h | ⟨b, hb, _, w⟩) e0
      · subst e0; simp at h
      · subst e0
        obtain rfl : b = 1 := by simp at hb; omega
        have w2 := Way.turn (s := edge (nsL 3 awL)) (fun _ _ => rfl) w
        have := Way.lower (D := fun k => if k < 3 then k else 0) (fun a b e => aw_deep.up a b (of_decide_eq_true e)) w2
        simp at this
    · intro h0
      rcases a with _ | _ | _ | a
      · exact absurd rfl h0
      · left; simp
      · right; exact ⟨1, by simp, by omega, .one ((hE 2 1).2 (by omega))⟩
      · omega

theorem rd_blk {w : World} {b : Nat} {cs : Array Value} {t : TypeId} (h : w.heap[b]? = some (.cells cs t (0, 0))) (xs : List Value) (hx : cs.toList = xs) : Rd w (some ⟨b, 0, none⟩) xs := fun _ =>
  ⟨_, rfl, fun j u hu => by
    rw [add_blk]
    exact cell_blk h (by rw [← hx] at hu; simpa using hu)⟩

set_option maxRecDepth 20000 in
set_option maxHeartbeats 3200000 in
theorem awake_any (w : World) : Calls Try.prog 10 #[] w fun e w' => e = .returned (.bool true) ∧ Touch [] w w' := by
  obtain ⟨W1, hW1⟩ : ∃ W1, W1 = (((w.alloc (.cells #[.int .i64 0] 3)).alloc (.cells #[.int .i64 0, .int .i64 1] 3)).alloc (.cells #[.slice none 0 0, .slice (some ⟨w.heap.size, 0, none⟩) 1 1, .slice (some ⟨w.heap.size + 1, 0, none⟩) 2 2] 31)) := ⟨_, rfl⟩
  have hR : InR W1 (some ⟨w.heap.size + 1 + 1, 0, none⟩) awL ∧ Touch [] w W1 := by
    have b := fun (W : World) (o : Obj) => (Touch.refl [] W).alloc o
    have a0 := heap_alloc_new w (.cells #[.int .i64 0] 3)
    have a1 := heap_alloc_new (w.alloc (.cells #[.int .i64 0] 3)) (.cells #[.int .i64 0, .int .i64 1] 3)
    have a2 := heap_alloc_new ((w.alloc (.cells #[.int .i64 0] 3)).alloc (.cells #[.int .i64 0, .int .i64 1] 3)) (.cells #[.slice none 0 0, .slice (some ⟨w.heap.size, 0, none⟩) 1 1, .slice (some ⟨w.heap.size + 1, 0, none⟩) 2 2] 31)
    simp only [World.size_alloc] at a1 a2
    have c0 := ((b _ (.cells #[.int .i64 0, .int .i64 1] 3)).trans0 (b _ (.cells #[.slice none 0 0, .slice (some ⟨w.heap.size, 0, none⟩) 1 1, .slice (some ⟨w.heap.size + 1, 0, none⟩) 2 2] 31))).blk a0 (by simp)
    have c1 := (b _ (.cells #[.slice none 0 0, .slice (some ⟨w.heap.size, 0, none⟩) 1 1, .slice (some ⟨w.heap.size + 1, 0, none⟩) 2 2] 31)).blk a1 (by simp)
    rw [← hW1] at a2 c0 c1
    refine ⟨⟨[⟨none, 0, 0⟩, ⟨some ⟨w.heap.size, 0, none⟩, 1, 1⟩, ⟨some ⟨w.heap.size + 1, 0, none⟩, 2, 2⟩], ⟨rfl, ?_⟩, rd_blk a2 _ rfl⟩, by rw [hW1]; exact ((b w _).trans0 (b _ _)).trans0 (b _ _)⟩
    intro i h1 h2
    rcases i with _ | _ | _ | i
    · exact ⟨rfl, Nat.le_refl _, Rd.nil _ _⟩
    · exact ⟨rfl, Nat.le_refl _, rd_blk c0 _ rfl⟩
    · exact ⟨rfl, Nat.le_refl _, rd_blk c1 _ rfl⟩
    · simp only [List.length_cons, List.length_nil] at h1; omega
  have HN := Lib.hid (new_any 3 (by omega) (some ⟨w.heap.size + 1 + 1, 0, none⟩) 3 3 awL rfl (by omega) W1 hR.1 (by decide))
  have HT := Lib.hid hR.2
  have HW := Lib.hid hW1
  clear hR hW1
  go_enter Try.func10, Try.ntmps10
  go_wp2_with fail
  rw [← HW.out]
  refine HN.out.mono ?_
  rintro e w2 hp
  obtain ⟨t2, g, X, ds, up, rfl, hG⟩ := hp.ok (by decide) awL_all aw_ring
  clear hp HN HW
  have hlen : (nsL 3 awL).length = 3 := nsL_length _ _
  have hdl := hG.gr.dl
  have hD := depth_any g X ds (nsL 3 awL).length hdl 2 w2 hG.gr.hd hG.gr.dp
  have h2 : ds.getD 2 0 = 2 := hG.dp.one aw_deep _ 2 rfl
  have hv : (if 0 ≤ (2 : Int) ∧ (2 : Int) < (nsL 3 awL).length then ((ds.getD (2 : Int).toNat 0 : Nat) : Int) else -1) = 2 := by
    rw [hlen, if_pos (by decide)]
    show ((ds.getD 2 0 : Nat) : Int) = 2
    rw [h2]; rfl
  rw [hv] at hD
  have tb := (Touch.refl [] w2).alloc (.cells #[.int .i64 1] 3)
  have HB := Lib.hid (below_any _ up g X (nsL 3 awL) ds (some ⟨w2.heap.size, 0, none⟩) 1 1 [1] rfl (by omega) _ (hG.touch0 tb) (rd_blk (heap_alloc_new w2 (.cells #[.int .i64 1] 3)) _ rfl))
  have HD := Lib.hid hD
  have HG := Lib.hid hG
  have HT2 := Lib.hid (HT.out.trans0 t2)
  have Htb := Lib.hid tb
  have Hlen := Lib.hid hlen
  clear hD hG hv h2 hlen hdl t2 HT tb
  go_wp2_with fail
  refine HD.out.mono ?_
  rintro e w3 ⟨rfl, hw3⟩
  have Hw3 := Lib.hid hw3
  subst hw3
  clear Hw3
  go_wp2_with fail
  refine HB.out.mono ?_
  rintro e w4 ⟨A4, c4, rfl, _, t4, _⟩
  rw [aw_dn]
  have HO := Lib.hid (order_few _ up g X (nsL 3 awL) _ ds w4 ((HG.out.gr.touch0 Htb.out).touch0 t4) 3 Hlen.out.symm (by omega) (by omega))
  have H4 := Lib.hid ((HT2.out.trans0 Htb.out).trans0 t4)
  clear t4
  go_wp2_with fail
  refine HO.out.mono ?_
  rintro e w5 ⟨⟨A5, c5, rfl⟩, t5⟩
  have H5 := Lib.hid (H4.out.trans0 t5)
  clear t5
  go_wp2
  go_ret
  exact ⟨rfl, H5.out⟩
end Go.Proofs.Ytmehdlflhllhdaa
