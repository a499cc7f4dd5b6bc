/- cron.Parse: the walk. For every text of at most some thousand bytes. -/
import Derived.Test.YtoabloeechphkaaDoorCronMarks
import Derived.Test.YtoabloeechphkaaDoorRound
import Derived.Test.YtoabloeechphkaaDoorCronPV
import Derived.Test.YtoabloeechphkaaDoorCronNext
namespace Go.Proofs.YtoabloeechphkaaDoor
open Go.RowKit Go.Shelf

attribute [local go_sem] Oper.semAt_some

theorem splitF_length (sep : List UInt8) : ∀ (f : Nat) (r : List UInt8), (splitF sep f r).length ≤ f + 1 ∧ ∀ p ∈ splitF sep f r, p.length ≤ r.length
  | 0, r => by simp [splitF]
  | f + 1, r => by
    unfold splitF
    split
    · simp
    · have ih := splitF_length sep f (r.drop ((Lib.index r sep).toNat + sep.length))
      refine ⟨by rw [List.length_cons]; omega, fun p hp => ?_⟩
      rcases List.mem_cons.1 hp with rfl | hp
      · rw [List.length_take]; omega
      · have := ih.2 p hp
        rw [List.length_drop] at this; omega
theorem nextP_facts {s sep : List UInt8} {pre : List (List UInt8)} {x : List UInt8} (h : NextP (splitV s sep) pre x) : pre.length ≤ s.length ∧ x.length ≤ s.length := by
  obtain ⟨rest, h⟩ := h
  have h1 := splitF_length sep s.length s
  have h2 : (splitV s sep).length = pre.length + (rest.length + 1) := by rw [h]; simp
  have h3 : x ∈ splitV s sep := by rw [h]; simp
  unfold splitV at h2 h3
  exact ⟨by have := h1.1; omega, h1.2 x h3⟩
theorem ne_length (l : List (List UInt8)) : (ne l).length ≤ l.length := List.length_filter_le _ _
theorem ne_mem {l : List (List UInt8)} {p : List UInt8} (h : p ∈ ne l) : p ∈ l := (List.mem_filter.1 h).1

theorem OwnK.cells {α : Type} {t k : Nat} {enc : α → List Value} {w : World} {A : Option Addr} {c : Nat} {xs : List α} (h : OwnK t k enc w A c xs) : ∀ b ∈ fpo A, ∃ cur, w.heap[b]? = some (.cells cur t (0, 0)) := by
  intro b hb
  rcases h.2 with ⟨hv, _⟩ | ⟨g, cap, cur, hv, _, hg, _⟩
  · injection hv with hA _ _; subst hA; cases hb
  · have hA : A = some ⟨g, 0, none⟩ := by injection hv
    subst hA
    obtain rfl : b = g := by simpa [fpo] using hb
    exact ⟨_, hg⟩
theorem OwnK.same {α : Type} {t k : Nat} {enc : α → List Value} {w w' : World} {A : Option Addr} {c : Nat} {xs : List α} (h : OwnK t k enc w A c xs) (hb : ∀ b ∈ fpo A, w'.heap[b]? = w.heap[b]?) : OwnK t k enc w' A c xs := by
  refine ⟨h.1, ?_⟩
  rcases h.2 with hv | ⟨g, cap, cur, hv, hb1, hg, rest⟩
  · exact .inl hv
  · have hA : A = some ⟨g, 0, none⟩ := by injection hv
    subst hA
    exact .inr ⟨g, cap, cur, hv, hb1, (hb g (by simp [fpo])).trans hg, rest⟩

set_option maxHeartbeats 400000 in
theorem splitSeq_any (s sep : List UInt8) (w : World) :
    Calls Tryd.prog 21 #[.string (S s), .string (S sep)] w fun e w' =>
      e = .returned (.func (.func 58) #[] #[.pointer (some ⟨w.heap.size + 1, 0, none⟩), .pointer (some ⟨w.heap.size, 0, none⟩), .pointer (some ⟨w.heap.size + 2, 0, none⟩)]) ∧
      w' = ((w.alloc (.cells #[.string (S s)] 9)).alloc (.cells #[.string (S sep)] 9)).alloc (.cells #[.int .i64 0] 3) := by
  have h : Calls Tryd.prog 40 #[.string (S s), .string (S sep), .int .i64 0] w fun e w' =>
      e = .returned (.func (.func 58) #[] #[.pointer (some ⟨w.heap.size + 1, 0, none⟩), .pointer (some ⟨w.heap.size, 0, none⟩), .pointer (some ⟨w.heap.size + 2, 0, none⟩)]) ∧
      w' = ((w.alloc (.cells #[.string (S s)] 9)).alloc (.cells #[.string (S sep)] 9)).alloc (.cells #[.int .i64 0] 3) := by
    go_enter Tryd.func40, Tryd.ntmps40
    go_wp2
    go_ret
    exact ⟨rfl, rfl⟩
  have H := Lib.hid h; clear h
  go_enter Tryd.func21, Tryd.ntmps21
  go_wp2_with fail
  refine H.out.mono ?_
  rintro e w' ⟨rfl, rfl⟩
  go_wp2
  go_ret
  exact ⟨rfl, rfl⟩

/-- what the iterator reads and writes -/
structure SplitAt (w : World) (s sep : List UInt8) (B : Nat) : Prop where
  p : w.cell? ⟨B + 1, 0, none⟩ = some (.string (S sep))
  s : w.cell? ⟨B, 0, none⟩ = some (.string (S s))
  sf : w.frozen? ⟨B, 0, none⟩ = false
  z : w.cell? ⟨B + 2, 0, none⟩ = some (.int .i64 0)
theorem splitAt_new (w : World) (s sep : List UInt8) : SplitAt (((w.alloc (.cells #[.string (S s)] 9)).alloc (.cells #[.string (S sep)] 9)).alloc (.cells #[.int .i64 0] 3)) s sep w.heap.size := by
  have t1 := (Touch.refl [] (w.alloc (.cells #[.string (S s)] 9))).alloc (.cells #[.string (S sep)] 9)
  have t2 := t1.alloc (.cells #[.int .i64 0] 3)
  have t3 := (Touch.refl [] ((w.alloc (.cells #[.string (S s)] 9)).alloc (.cells #[.string (S sep)] 9))).alloc (.cells #[.int .i64 0] 3)
  have b0 := heap_alloc_new w (.cells #[.string (S s)] 9)
  have b1 := heap_alloc_new (w.alloc (.cells #[.string (S s)] 9)) (.cells #[.string (S sep)] 9)
  have b2 := heap_alloc_new ((w.alloc (.cells #[.string (S s)] 9)).alloc (.cells #[.string (S sep)] 9)) (.cells #[.int .i64 0] 3)
  rw [World.size_alloc] at b1
  rw [World.size_alloc, World.size_alloc] at b2
  have b0' := t2.blk b0 (by simp)
  have b1' := t3.blk b1 (by simp)
  exact ⟨cell_blk b1' (i := 0) rfl, cell_blk b0' (i := 0) rfl, by simp only [World.frozen?, b0']; rfl, cell_blk b2 (i := 0) rfl⟩

theorem split_seq (s sep : List UInt8) (hs0 : 0 < sep.length) (hs1 : sep.length ≤ 1000) (hsl : s.length ≤ 1000000) (B : Nat) (hB : (5 : Nat) < B) (n : Nat) (hn : 1 ≤ n) (w : World) (h : SplitAt w s sep B) (hm : ∃ m, w.cell? ⟨5, 0, none⟩ = some (.int .i64 m)) :
    SeqB Fence.wide n Tryd.prog 58 #[.pointer (some ⟨B + 1, 0, none⟩), .pointer (some ⟨B, 0, none⟩), .pointer (some ⟨B + 2, 0, none⟩)] (fun x => #[.string (S x)]) [B + 1, B, B + 2, 5] (StepS B) (NextP (splitV s sep)) (fun ys => ys = splitV s sep) (fun _ => True) w := by
  intro l J Jx W hkp hJR hY h0
  obtain ⟨m, hm⟩ := hm
  exact split1_in sep hs0 hs1 (B + 1) B (B + 2) (by omega) (by omega) (by omega) s hsl n hn l J Jx w W hkp hJR h.p h.s h.sf h.z m hm hY h0
theorem step_notCells {B : Nat} {A A' : World} (h : StepS B A A') (k : Nat) (o : Obj) (ho : A.heap[k]? = some o) (hn : o.isCells = false) : A'.heap[k]? = some o := by
  obtain ⟨v, rfl⟩ := h
  unfold World.setCell
  rw [Array.getElem?_modify]
  split
  · rename_i e
    rw [ho]
    cases o <;> simp_all [Obj.isCells]
  · exact ho

theorem info27 : (Tryd.prog.info? 27).map (·.size) = some 10 := by kernel_rfl
theorem results_spec {fn : Func} {p q : Tmp} (h : fn.results = #[.cell p 27, .cell q 28]) (tmps : Array Value) (w : World) (g k : Nat) (c : SD) (v : Int) (t t2 : TypeId)
    (hp : tmps.getD p undef = .pointer (some ⟨g, 0, none⟩)) (hq : tmps.getD q undef = .pointer (some ⟨k, 0, none⟩)) (hg : w.heap[g]? = some (.cells c.row t (0, 0))) (hk : w.heap[k]? = some (.cells #[.int .i64 v] t2 (0, 0))) :
    (results fn tmps).run Tryd.prog w = .ok (.tuple #[c.val, .int .i64 v]) w := by
  have hp' : tmps[p]?.getD undef = .pointer (some ⟨g, 0, none⟩) := by simpa using hp
  have hq' : tmps[q]?.getD undef = .pointer (some ⟨k, 0, none⟩) := by simpa using hq
  have h1 := run_loadVar_row (P := Tryd.prog) (ty := 27) w g t c.row (0, 0) _ hg Tryd.underlying27 rfl info27
  have hc := cell_blk hk (i := 0) rfl
  have h2 : (loadVar 28 ⟨k, 0, none⟩).run Tryd.prog w = .ok (.int .i64 v) w := by
    go_simp
  obtain ⟨s0, s1, s2, s3, s4, a0, a1, a2, a3, a4⟩ := specAt_blk hg
  simp only [results, h]
  go_simp
  rfl

theorem frozen_blk {w : World} {g : Nat} {cs : Array Value} {t : TypeId} (h : w.heap[g]? = some (.cells cs t (0, 0))) (i : Nat) : w.frozen? ⟨g, i, none⟩ = false := by simp [World.frozen?, h]
/-- a spec stored cell by cell -/
def put10 (W : World) (N : Nat) (c : SD) : World := ((((((((((W.setCell ⟨N, 0, none⟩ (.int .u64 (c.set 0 : Nat))).setCell ⟨N, 1, none⟩ (.int .u64 (c.set 1 : Nat))).setCell ⟨N, 2, none⟩ (.int .u64 (c.set 2 : Nat))).setCell ⟨N, 3, none⟩ (.int .u64 (c.set 3 : Nat))).setCell ⟨N, 4, none⟩ (.int .u64 (c.set 4 : Nat))).setCell ⟨N, 5, none⟩ (.bool (c.any 0))).setCell ⟨N, 6, none⟩ (.bool (c.any 1))).setCell ⟨N, 7, none⟩ (.bool (c.any 2))).setCell ⟨N, 8, none⟩ (.bool (c.any 3))).setCell ⟨N, 9, none⟩ (.bool (c.any 4)))
theorem put10_touch (W : World) (N : Nat) (c : SD) : Touch [N] W (put10 W N c) := by
  unfold put10
  exact (((((((((((Touch.refl [N] W).setCell (p := ⟨N, 0, none⟩) (.inl (by simp)) _).setCell (p := ⟨N, 1, none⟩) (.inl (by simp)) _).setCell (p := ⟨N, 2, none⟩) (.inl (by simp)) _).setCell (p := ⟨N, 3, none⟩) (.inl (by simp)) _).setCell (p := ⟨N, 4, none⟩) (.inl (by simp)) _).setCell (p := ⟨N, 5, none⟩) (.inl (by simp)) _).setCell (p := ⟨N, 6, none⟩) (.inl (by simp)) _).setCell (p := ⟨N, 7, none⟩) (.inl (by simp)) _).setCell (p := ⟨N, 8, none⟩) (.inl (by simp)) _).setCell (p := ⟨N, 9, none⟩) (.inl (by simp)) _)
theorem put10_blk {W : World} {N : Nat} {d : SD} {t : TypeId} (h : W.heap[N]? = some (.cells d.row t (0, 0))) (c : SD) : (put10 W N c).heap[N]? = some (.cells c.row t (0, 0)) := by
  unfold put10
  have h0 := set_blk h 0 (.int .u64 (c.set 0 : Nat))
  have h1 := set_blk h0 1 (.int .u64 (c.set 1 : Nat))
  have h2 := set_blk h1 2 (.int .u64 (c.set 2 : Nat))
  have h3 := set_blk h2 3 (.int .u64 (c.set 3 : Nat))
  have h4 := set_blk h3 4 (.int .u64 (c.set 4 : Nat))
  have h5 := set_blk h4 5 (.bool (c.any 0))
  have h6 := set_blk h5 6 (.bool (c.any 1))
  have h7 := set_blk h6 7 (.bool (c.any 2))
  have h8 := set_blk h7 8 (.bool (c.any 3))
  rw [set_blk h8]
  simp [SD.row]
/-- a number stored behind -/
theorem put11_blk {W : World} {N K : Nat} {d : SD} {t t2 : TypeId} {v0 : Value} (hNK : N ≠ K) (h : W.heap[N]? = some (.cells d.row t (0, 0))) (hk : W.heap[K]? = some (.cells #[v0] t2 (0, 0))) (c : SD) (v : Value) :
    ((put10 W N c).setCell ⟨K, 0, none⟩ v).heap[N]? = some (.cells c.row t (0, 0)) ∧ ((put10 W N c).setCell ⟨K, 0, none⟩ v).heap[K]? = some (.cells #[v] t2 (0, 0)) ∧ Touch [N, K] W ((put10 W N c).setCell ⟨K, 0, none⟩ v) := by
  have hT := put10_touch W N c
  refine ⟨(Below.heap_setCell _ ⟨K, 0, none⟩ _ N (fun e => hNK (by simpa using e))).trans (put10_blk h c), ?_, (hT.mono (fp2 := [N, K]) (fun b hb => .inl (by simp at hb; simp [hb]))).setCell (p := ⟨K, 0, none⟩) (.inl (by simp)) _⟩
  rw [set_blk (hT.blk hk (by simp; omega))]
  simp

/-- between two rounds of the first range: the parts so far -/
structure I1 (w : World) (pre : List (List UInt8)) (W : World) : Prop where
  ex : ∃ A c, W.heap[w.heap.size + 2]? = some (.cells #[.slice A (ne pre).length c] 55 (0, 0)) ∧ OwnK 9 1 encT W A c (ne pre) ∧ ∀ b ∈ fpo A, w.heap.size + 6 ≤ b
  r0 : W.heap[w.heap.size]? = some (.cells zeroC.row 27 (0, 0))
  r1 : W.heap[w.heap.size + 1]? = some (.cells #[.int .i64 0] 28 (0, 0))
  t : Touch [] w W
  sz : w.heap.size + 6 ≤ W.heap.size
theorem I1.put {w : World} {pre : List (List UInt8)} {W : World} (h : I1 w pre W) {k : Nat} {o o' : Obj} (hk : w.heap.size + 6 ≤ k) (hl : W.heap[k]? = some o) (ho : o.isCells = false) : I1 w pre (W.putObj k o') := by
  obtain ⟨⟨A, c, h1, h2, h3⟩, hr0, hr1, ht, hz⟩ := h
  have hoth : ∀ j, j ≠ k → (W.putObj k o').heap[j]? = W.heap[j]? := fun j hj => World.putObj_heap_other (by omega)
  refine ⟨⟨A, c, (hoth _ (by omega)).trans h1, h2.same (fun b hb => hoth b (fun e => ?_)), h3⟩, (hoth _ (by omega)).trans hr0, (hoth _ (by omega)).trans hr1, ⟨ht.os, ht.tape, ht.output, by have := ht.size; simpa [World.putObj] using this, fun j hj hm => (hoth j (by omega)).trans (ht.block j hj hm)⟩, by simpa [World.putObj] using hz⟩
  obtain ⟨cur, hc⟩ := h2.cells b hb
  rw [e, hl] at hc
  cases hc
  cases ho
theorem I1.step {w : World} {pre : List (List UInt8)} {W W' : World} (h : I1 w pre W) (hs : StepS (w.heap.size + 3) W W') : I1 w pre W' := by
  obtain ⟨⟨A, c, h1, h2, h3⟩, hr0, hr1, ht, hz⟩ := h
  obtain ⟨v, rfl⟩ := hs
  have hoth : ∀ j, j ≠ w.heap.size + 3 → (W.setCell ⟨w.heap.size + 3, 0, none⟩ v).heap[j]? = W.heap[j]? := fun j hj => Below.heap_setCell W _ v j hj
  exact ⟨⟨A, c, (hoth _ (by omega)).trans h1, h2.same (fun b hb => hoth b (by have := h3 b hb; omega)), h3⟩, (hoth _ (by omega)).trans hr0, (hoth _ (by omega)).trans hr1, ht.setCell (p := ⟨w.heap.size + 3, 0, none⟩) (.inr (Nat.le_add_right _ _)) v, by simpa [World.setCell] using hz⟩
theorem I1.alloc {w : World} {pre : List (List UInt8)} {W : World} (h : I1 w pre W) (o : Obj) : I1 w pre (W.alloc o) := by
  obtain ⟨⟨A, c, h1, h2, h3⟩, hr0, hr1, ht, hz⟩ := h
  have tt := (Touch.refl [] W).alloc o
  exact ⟨⟨A, c, tt.blk h1 (by simp), h2.touch0 tt, h3⟩, tt.blk hr0 (by simp), tt.blk hr1 (by simp), ht.trans0 tt, by rw [World.size_alloc]; omega⟩

def ParsePost (s : List UInt8) (w : World) (e : Ending) (w' : World) : Prop := e = .returned (.tuple #[(parseC s).2.val, .int .i64 (parseC s).1]) ∧ Touch [] w w'

/-- the function is left: the result's cells hold the spec and the error -/
theorem leave_spec {fn : Func} (hres : fn.results = #[.cell 2 27, .cell 3 28]) (s : List UInt8) (w W : World) (Ds : List Nat) (c : SD) (v : Int) (tmps : Array Value) (t t2 : TypeId)
    (hp : tmps.getD 2 undef = .pointer (some ⟨w.heap.size, 0, none⟩)) (hq : tmps.getD 3 undef = .pointer (some ⟨w.heap.size + 1, 0, none⟩)) (hD : ∀ D ∈ Ds, W.heap[D]? = some (.deferred (some [])) ∧ w.heap.size ≤ D) (hn : Ds.Nodup)
    (h0 : W.heap[w.heap.size]? = some (.cells c.row t (0, 0))) (h1 : W.heap[w.heap.size + 1]? = some (.cells #[.int .i64 v] t2 (0, 0))) (ht : Touch [] w W) (hpar : parseC s = (v, c)) :
    LeavesInM Fence.wide 3 Tryd.prog fn tmps (ParsePost s w) (marks Ds) .returning W := by
  refine leaves_marks Ds W (fun D h => (hD D h).1) hn (fun W' tW => ⟨_, results_spec hres _ _ w.heap.size (w.heap.size + 1) c v t t2 hp hq (tW.blk h0 (fun hm => ?_)) (tW.blk h1 (fun hm => ?_)), ?_, ?_⟩)
  · have := (hD _ hm).1; rw [h0] at this; cases this
  · have := (hD _ hm).1; rw [h1] at this; cases this
  · rw [hpar]
  · exact ht.trans tW (fun b hb => .inr (hD b hb).2)

theorem itemsV_err (f : Nat) (rest : List (List UInt8)) : ∀ (pre : List (List UInt8)) (s : Nat), (itemsV f pre s).1 ≠ 0 → itemsV f (pre ++ rest) s = itemsV f pre s
  | [], _, h => absurd rfl h
  | x :: r, s, h => by
    show itemsV f (x :: (r ++ rest)) s = _
    unfold itemsV at h ⊢
    by_cases h0 : (itemV f x).2 = 0
    · rw [if_pos h0] at h ⊢
      rw [if_pos h0]
      exact itemsV_err f rest r _ h
    · rw [if_neg h0, if_neg h0]
theorem itemsV_snoc (f : Nat) (x : List UInt8) : ∀ (pre : List (List UInt8)) (s : Nat), (itemsV f pre s).1 = 0 →
    itemsV f (pre ++ [x]) s = if (itemV f x).2 = 0 then (0, (itemsV f pre s).2 ||| (itemV f x).1) else ((itemV f x).2, (itemsV f pre s).2)
  | [], _, _ => by
    show itemsV f [x] _ = _
    unfold itemsV
    rfl
  | y :: r, s, h => by
    show itemsV f (y :: (r ++ [x])) s = _
    unfold itemsV at h ⊢
    by_cases h0 : (itemV f y).2 = 0
    · rw [if_pos h0] at h ⊢
      rw [if_pos h0]
      exact itemsV_snoc f x r _ h
    · rw [if_neg h0] at h
      exact absurd h h0
theorem fieldsV_cons (k : Nat) (p : List UInt8) (r : List (List UInt8)) (c : SD) : fieldsV k (p :: r) c = if (fieldV k p c).1 = 0 then fieldsV (k + 1) r (fieldV k p c).2 else fieldV k p c := by rw [fieldsV]
theorem fieldV_star (k : Nat) (c : SD) : fieldV k [42] c = (0, c.put k (fullV k) true) := by rw [fieldV, if_pos rfl]
theorem fieldV_items (k : Nat) (p : List UInt8) (c : SD) (h : ¬ p = [42]) (xs : List (List UInt8)) (hx : xs = splitV p [44]) : fieldV k p c = ((itemsV k xs (c.set k)).1, c.put k (itemsV k xs (c.set k)).2 (c.any k)) := by rw [fieldV, if_neg h, hx]
theorem fields_go {k : Nat} {p : List UInt8} {r ps : List (List UInt8)} {c c' z : SD} {X : Int × SD} (hx : X = fieldsV k ps c) (hd : ps = p :: r) (h : fieldV k p c = (0, c')) : X = fieldsV (k + 1) r c' := by
  rw [hx, hd, fieldsV_cons, h, if_pos rfl]
theorem fields_err {k : Nat} {p : List UInt8} {r ps : List (List UInt8)} {c c' : SD} {X : Int × SD} {v : Int} (hx : X = fieldsV k ps c) (hd : ps = p :: r) (h : fieldV k p c = (v, c')) (hv : v ≠ 0) : X = (v, c') := by
  rw [hx, hd, fieldsV_cons, h, if_neg hv]
theorem put_row (c : SD) (k : Nat) (hk : k < 5) (s : Nat) (a : Bool) : (c.put k s a).row = (c.row.setIfInBounds k (.int .u64 (s : Nat))).setIfInBounds (5 + k) (.bool a) := by
  have : k = 0 ∨ k = 1 ∨ k = 2 ∨ k = 3 ∨ k = 4 := by omega
  rcases this with rfl | rfl | rfl | rfl | rfl <;> simp [SD.row, SD.put]
theorem put_row2 (c : SD) (k : Nat) (hk : k < 5) (s0 s : Nat) : (c.put k s (c.any k)).row = (c.put k s0 (c.any k)).row.setIfInBounds k (.int .u64 (s : Nat)) := by
  have : k = 0 ∨ k = 1 ∨ k = 2 ∨ k = 3 ∨ k = 4 := by omega
  rcases this with rfl | rfl | rfl | rfl | rfl <;> simp [SD.row, SD.put]
theorem put_same (c : SD) (k : Nat) : c.put k (c.set k) (c.any k) = c := by
  unfold SD.put
  have h1 : (fun i => if i = k then c.set k else c.set i) = c.set := funext fun i => by split <;> simp_all
  have h2 : (fun i => if i = k then c.any k else c.any i) = c.any := funext fun i => by split <;> simp_all
  rw [h1, h2]
theorem row_get (c : SD) (k : Nat) (hk : k < 5) : c.row[k]? = some (.int .u64 (c.set k : Nat)) := by
  have : k = 0 ∨ k = 1 ∨ k = 2 ∨ k = 3 ∨ k = 4 := by omega
  rcases this with rfl | rfl | rfl | rfl | rfl <;> rfl
theorem row_getA (c : SD) (k : Nat) (hk : k < 5) : c.row[5 + k]? = some (.bool (c.any k)) := by
  have : k = 0 ∨ k = 1 ∨ k = 2 ∨ k = 3 ∨ k = 4 := by omega
  rcases this with rfl | rfl | rfl | rfl | rfl <;> rfl

/-- what stays while the fields are read: the result's cells, the parts, the marks -/
structure PB (w : World) (v : Int) (A : Option Addr) (c : Nat) (ps : List (List UInt8)) (Ds : List Nat) (W : World) : Prop where
  r0 : W.heap[w.heap.size]? = some (.cells zeroC.row 27 (0, 0))
  r1 : W.heap[w.heap.size + 1]? = some (.cells #[.int .i64 v] 28 (0, 0))
  own : OwnK 9 1 encT W A c ps
  mks : ∀ E ∈ Ds, W.heap[E]? = some (.deferred (some []))
  t : Touch [] w W
theorem PB.touch {w : World} {v : Int} {A : Option Addr} {c : Nat} {ps : List (List UInt8)} {Ds : List Nat} {W W' : World} {fp : List Nat} (h : PB w v A c ps Ds W) (t : Touch fp W W') (h0 : ∀ b ∈ fp, w.heap.size + 2 ≤ b) (hA : ∀ b ∈ fpo A, b ∉ fp) (hD : ∀ E ∈ Ds, E ∉ fp) : PB w v A c ps Ds W' :=
  ⟨t.blk h.r0 (fun hm => by have := h0 _ hm; omega), t.blk h.r1 (fun hm => by have := h0 _ hm; omega), h.own.touch t hA, fun E hE => t.blk (h.mks E hE) (hD E hE), h.t.trans t (fun b hb => .inr (by have := h0 b hb; omega))⟩
theorem PB.touch0 {w : World} {v : Int} {A : Option Addr} {c : Nat} {ps : List (List UInt8)} {Ds : List Nat} {W W' : World} (h : PB w v A c ps Ds W) (t : Touch [] W W') : PB w v A c ps Ds W' := h.touch t (by simp) (by simp) (by simp)
theorem PB.put {w : World} {v : Int} {A : Option Addr} {c : Nat} {ps : List (List UInt8)} {Ds : List Nat} {W : World} (h : PB w v A c ps Ds W) {k : Nat} {o o' : Obj} (hk : w.heap.size + 2 ≤ k) (hD : ∀ E ∈ Ds, E ≠ k) (hl : W.heap[k]? = some o) (ho : o.isCells = false) : PB w v A c ps Ds (W.putObj k o') := by
  have hoth : ∀ j, j ≠ k → (W.putObj k o').heap[j]? = W.heap[j]? := fun j hj => World.putObj_heap_other (by omega)
  refine ⟨(hoth _ (by omega)).trans h.r0, (hoth _ (by omega)).trans h.r1, h.own.same (fun b hb => hoth b (fun e => ?_)), fun E hE => (hoth E (hD E hE)).trans (h.mks E hE), ⟨h.t.os, h.t.tape, h.t.output, by have := h.t.size; simpa [World.putObj] using this, fun j hj hm => (hoth j (by omega)).trans (h.t.block j hj hm)⟩⟩
  obtain ⟨cur, hc⟩ := h.own.cells b hb
  rw [e, hl] at hc
  cases hc
  cases ho
theorem PB.leave {fn : Func} (hres : fn.results = #[.cell 2 27, .cell 3 28]) {s : List UInt8} {w W : World} {v : Int} {A : Option Addr} {c0 : Nat} {ps : List (List UInt8)} {Ds : List Nat} (h : PB w v A c0 ps Ds W) (tmps : Array Value)
    (hp : tmps.getD 2 undef = .pointer (some ⟨w.heap.size, 0, none⟩)) (hq : tmps.getD 3 undef = .pointer (some ⟨w.heap.size + 1, 0, none⟩)) (hn : Ds.Nodup) (hD : ∀ D ∈ Ds, w.heap.size ≤ D) (hpar : parseC s = (v, zeroC)) :
    LeavesInM Fence.wide 3 Tryd.prog fn tmps (ParsePost s w) (marks Ds) .returning W :=
  leave_spec hres s w W Ds zeroC v tmps _ _ hp hq (fun E hE => ⟨h.mks E hE, hD E hE⟩) hn h.r0 h.r1 h.t hpar
/-- between two rounds of an inner range -/
structure I2 (w : World) (A : Option Addr) (c : Nat) (ps : List (List UInt8)) (Ds : List Nat) (C T M : Nat) (cc : SD) (k : Nat) (pre : List (List UInt8)) (W : World) : Prop where
  pb : PB w 0 A c ps Ds W
  e0 : (itemsV k pre (cc.set k)).1 = 0
  cb : W.heap[C]? = some (.cells (cc.put k (itemsV k pre (cc.set k)).2 (cc.any k)).row 27 (0, 0))
  tb : W.heap[T]? = some (.cells #[.int .i64 (k : Nat)] 3 (0, 0))
  sz : M ≤ W.heap.size
theorem I2.alloc {w : World} {A : Option Addr} {c : Nat} {ps : List (List UInt8)} {Ds : List Nat} {C T M : Nat} {cc : SD} {k : Nat} {pre : List (List UInt8)} {W : World} (h : I2 w A c ps Ds C T M cc k pre W) (o : Obj) : I2 w A c ps Ds C T M cc k pre (W.alloc o) := by
  have tt := (Touch.refl [] W).alloc o
  exact ⟨h.pb.touch0 tt, h.e0, tt.blk h.cb (by simp), tt.blk h.tb (by simp), by rw [World.size_alloc]; have := h.sz; omega⟩
/-- a round has found an error -/
def X2 (w : World) (A : Option Addr) (c : Nat) (ps : List (List UInt8)) (Ds : List Nat) (cc : SD) (k : Nat) (p : List UInt8) (pre : List (List UInt8)) (W : World) : Prop :=
  ∃ e rest, splitV p [44] = pre ++ rest ∧ (itemsV k pre (cc.set k)).1 = e ∧ e ≠ 0 ∧ PB w e A c ps Ds W
/-- between two fields -/
structure FI (w : World) (A : Option Addr) (c : Nat) (ps : List (List UInt8)) (C : Nat) (k : Nat) (Ds : List Nat) (cc : SD) (W : World) : Prop where
  hk : k ≤ 5
  ok : cc.Ok
  eq : fieldsV 0 ps zeroC = fieldsV k (ps.drop k) cc
  cb : W.heap[C]? = some (.cells cc.row 27 (0, 0))
  pb : PB w 0 A c ps Ds W
  nd : Ds.Nodup
  ge : ∀ D ∈ Ds, w.heap.size + 2 ≤ D

set_option maxRecDepth 100000 in
set_option maxHeartbeats 6400000 in
theorem parse_any (s : List UInt8) (hsl : s.length ≤ 100000) (w : World) (hG : Gc w) :
    Calls Tryd.prog 10 #[.string (S s)] w (ParsePost s w) := by
  refine (callsIn_wide (n := 3)).1 ?_
  refine callsIn_of_wp_marks Tryd.func10 rfl trivial ?_ rfl
  simp only [Tryd.ntmps10, List.size_toArray, List.length_cons, List.length_nil, Nat.reduceAdd, Nat.reduceSub, Array.replicate_succ, Array.replicate_zero, List.push_toArray, List.append_toArray, List.nil_append, List.cons_append]
  gi_wp2_with fail
  refine ⟨trivial, ?_⟩
  refine (callsIn_wide.2 (splitSeq_any s [32] _)).mono ?_
  rintro e w1 ⟨rfl, rfl⟩
  have b0 := heap_alloc_new w (.cells zeroC.row 27)
  have b1 := heap_alloc_new (w.alloc (.cells zeroC.row 27)) (.cells #[.int .i64 0] 28)
  have b2 := heap_alloc_new ((w.alloc (.cells zeroC.row 27)).alloc (.cells #[.int .i64 0] 28)) (.cells #[.slice none 0 0] 55)
  rw [World.size_alloc] at b1
  rw [World.size_alloc, World.size_alloc] at b2
  have tB := (Touch.refl [] (w.alloc (.cells zeroC.row 27))).alloc (.cells #[.int .i64 0] 28)
  have tC := tB.alloc (.cells #[.slice none 0 0] 55)
  have tC2 := (Touch.refl [] ((w.alloc (.cells zeroC.row 27)).alloc (.cells #[.int .i64 0] 28))).alloc (.cells #[.slice none 0 0] 55)
  have tA := (Touch.refl [] w).alloc (.cells zeroC.row 27)
  have b0 := tC.blk b0 (by simp)
  have b1 := tC2.blk b1 (by simp)
  have tW := tA.trans0 tC
  obtain ⟨w0, hw0⟩ : ∃ w0, w0 = ((w.alloc (.cells zeroC.row 27)).alloc (.cells #[.int .i64 0] 28)).alloc (.cells #[.slice none 0 0] 55) := ⟨_, rfl⟩
  have hw0s : w0.heap.size = w.heap.size + 3 := by rw [hw0]; simp
  rw [← hw0] at b0 b1 b2 tW
  have hw0' : ((w.alloc (.cells #[.int .u64 0, .int .u64 0, .int .u64 0, .int .u64 0, .int .u64 0, .bool false, .bool false, .bool false, .bool false, .bool false] 27)).alloc (.cells #[.int .i64 0] 28)).alloc (.cells #[.slice none 0 0] 55) = w0 := hw0.symm
  rw [hw0']
  have hspl := splitAt_new w0 s [32]
  have tD := (((Touch.refl [] w0).alloc (.cells #[.string (S s)] 9)).alloc (.cells #[.string (S [32])] 9)).alloc (.cells #[.int .i64 0] 3)
  obtain ⟨w2, hw2⟩ : ∃ w2, w2 = ((w0.alloc (.cells #[.string (S s)] 9)).alloc (.cells #[.string (S [32])] 9)).alloc (.cells #[.int .i64 0] 3) := ⟨_, rfl⟩
  have hw2s : w2.heap.size = w.heap.size + 6 := by rw [hw2]; simp [hw0s]
  rw [← hw2] at hspl tD ⊢
  rw [hw0s] at hspl ⊢
  have hI0 : I1 w [] w2 := ⟨⟨none, 0, tD.blk b2 (by simp), OwnK.nil _ _ _ _, by simp [fpo]⟩, tD.blk b0 (by simp), tD.blk b1 (by simp), tW.trans0 tD, by omega⟩
  have hG2 := hG.touch0 hI0.t
  have hG0 := Lib.hid hG
  have hgl0 := Lib.hid (show (5 : Nat) < w.heap.size from by obtain ⟨m, hm⟩ := hG.len; exact World.block_lt_of_cell? w _ hm)
  have hgl : (5 : Nat) < w.heap.size := by obtain ⟨m, hm⟩ := hG.len; exact World.block_lt_of_cell? w _ hm
  have Hw2s := Lib.hid hw2s
  clear hw0 hw0' hw0s hw2 hw2s b0 b1 b2 tA tB tC tC2 tW tD
  gi_wp2_with fail
  refine range_box rfl (by omega) (gf := 58) rfl trivial (enters_of Tryd.func58 (by kernel_rfl) rfl)
    (split_seq s [32] (by simp) (by simp) (by omega) (w.heap.size + 3) (by omega) 2 (by omega) w2 hspl hG2.len) (fun A A' hR k o ho hn => step_notCells hR k o ho hn) ?hbs (KpB.refl _ _) (fun _ => rfl)
    (I1 w) (fun _ _ => False) ?hIp (fun _ _ _ _ _ h => h.elim) (fun _ _ _ hs h => h.step hs) (fun o1 o2 => (hI0.alloc o1).alloc o2) ?a1 ?assign ?body ?done (fun _ _ _ _ _ h => h.elim)
  case assign =>
    intro l x W K hK
    gi_wp2
    exact hK
  case hbs =>
    intro k hk
    rw [Hw2s.out]
    simp only [List.mem_cons, List.not_mem_nil, or_false] at hk
    rcases hk with rfl | rfl | rfl | rfl <;> omega
  case hIp =>
    intro s A k o o' h hk hl ho
    exact h.put (by rw [← Hw2s.out]; exact hk) hl ho
  case body =>
    rintro l pre x W hI hpf
    obtain ⟨hpl, hxl⟩ := nextP_facts hpf
    obtain ⟨⟨A, c, h1, h2, h3⟩, hr0, hr1, hT, hWz⟩ := hI
    have cW := cell_blk h1 (i := 0) rfl
    have hx := ne_snoc pre x
    have hnl := ne_length pre
    by_cases hx0 : x = []
    · rw [if_pos hx0, List.append_nil] at hx
      have Hx := Lib.hid hx
      clear hx
      subst hx0
      have q1 : (S []).toList = [] := by rw [S_list]
      gi_wp2
      exact ⟨fun k o hB ho hn => ho, KpB.refl _ _, ⟨A, c, by rw [Hx.out]; exact h1, by rw [Hx.out]; exact h2, h3⟩, hr0, hr1, hT, hWz⟩
    · rw [if_neg hx0] at hx
      have hq : ((S x).toList == []) = false := by rw [S_list, beq_eq_false_iff_ne]; exact hx0
      have hq1 : ((S x).toList = []) = False := eq_false (by rw [S_list]; exact hx0)
      have hq2 : ((S x).toList != []) = true := by rw [bne, hq]; rfl
      have hnA : w.heap.size + 2 ∉ fpo A := fun hm => by have := h3 _ hm; omega
      have hcl := h2.cells
      have Hx := Lib.hid hx
      clear hx
      have ta := (Touch.refl [] W).alloc (.cells #[.string (S x)] 9)
      have hownV := h2.touch0 ta
      have hrdV := RdK.one (enc := encT) W 9 x #[.string (S x)] rfl
      have bV2 := ta.blk h1 (by simp)
      have h63 : (ne pre).length + 1 ≤ 1000000000 := by omega
      have Hown := Lib.hid hownV; have Hrd := Lib.hid hrdV
      gi_wp2_with (gi_at_builtin; refine wpListIn_appK rfl (.tmp 17) (.tmp 19) 55 rfl 9 (.string ByteArray.empty) 1 16 info_strT Tryd.underlying55 rfl (by omega) encT_len encT_one A (ne pre).length c (ne pre) rfl rfl Hown.out (some ⟨W.heap.size, 0, none⟩) 1 1 [x] rfl rfl Hrd.out h63 (by omega) ?_; refine stop ?_)
      refine go ?_
      intro A3 c3 w3 hown3 ht3 hf3
      have hTs := hT.size
      have b03 := ht3.blk bV2 hnA
      have c03 := cell_blk b03 (i := 0) rfl
      have z03 : w3.frozen? ⟨w.heap.size + 2, 0, none⟩ = false := by simp [World.frozen?, b03]
      have hf3' : ∀ b ∈ fpo A3, w.heap.size + 6 ≤ b := fun b hb => by
        rcases hf3 b hb with e | e
        · exact h3 b e
        · omega
      have hTT : Touch ((w.heap.size + 2) :: fpo A) W (w3.setCell ⟨w.heap.size + 2, 0, none⟩ (.slice A3 ((ne pre).length + 1) c3)) :=
        (((ta).mono (fp2 := (w.heap.size + 2) :: fpo A) (fun b hb => by simp at hb)).trans ht3 (fun b hb => .inl (by simp [hb]))).setCell (p := ⟨w.heap.size + 2, 0, none⟩) (.inl (by simp)) _
      have hR : KeepN w2.heap.size W (w3.setCell ⟨w.heap.size + 2, 0, none⟩ (.slice A3 ((ne pre).length + 1) c3)) ∧ KpB [w.heap.size + 3 + 1, w.heap.size + 3, w.heap.size + 3 + 2, 5] W (w3.setCell ⟨w.heap.size + 2, 0, none⟩ (.slice A3 ((ne pre).length + 1) c3)) ∧ I1 w (pre ++ [x]) (w3.setCell ⟨w.heap.size + 2, 0, none⟩ (.slice A3 ((ne pre).length + 1) c3)) := by
        refine ⟨KeepN.of_touch hTT (fun k hk => ?_), fun k hk => ?_, ⟨⟨A3, c3, ?_, ?_, hf3'⟩, ?_, ?_, ?_, by have := hTT.size; omega⟩⟩
        · rcases List.mem_cons.1 hk with rfl | hk
          · left; rw [Hw2s.out]; omega
          · right
            intro o ho
            obtain ⟨cur, hc⟩ := hcl k hk
            rw [ho] at hc
            cases hc
            rfl
        · refine hTT.block k ?_ ?_
          · simp only [List.mem_cons, List.not_mem_nil, or_false] at hk
            rcases hk with rfl | rfl | rfl | rfl <;> omega
          · intro hm
            simp only [List.mem_cons, List.not_mem_nil, or_false] at hk
            rcases List.mem_cons.1 hm with hm | hm
            · rcases hk with rfl | rfl | rfl | rfl <;> omega
            · have := h3 k hm
              rcases hk with rfl | rfl | rfl | rfl <;> omega
        · rw [set_blk b03, Hx.out]
          simp
        · rw [Hx.out]
          exact hown3.same (fun b hb => Below.heap_setCell w3 _ _ b (fun e => by have := hf3' b hb; simp only at e; omega))
        · exact hTT.blk hr0 (fun hm => by
            rcases List.mem_cons.1 hm with hm | hm
            · omega
            · have := h3 _ hm; omega)
        · exact hTT.blk hr1 (fun hm => by
            rcases List.mem_cons.1 hm with hm | hm
            · omega
            · have := h3 _ hm; omega)
        · exact hT.trans hTT (fun b hb => .inr (by
            rcases List.mem_cons.1 hb with rfl | hb
            · omega
            · have := h3 b hb; omega))
      have HR := Lib.hid hR
      clear hR hTT
      gi_wp2
      exact HR.out
  case done =>
    rintro D xs W hD rfl hI hK
    obtain ⟨⟨A, c, h1, h2, h3⟩, hr0, hr1, hT, hWz⟩ := hI
    have hDz : w.heap.size + 6 ≤ D := by rw [← Hw2s.out]; exact hD
    have hpl := splitF_length [32] s.length s
    have hpsl : ∀ p ∈ ne (splitV s [32]), p.length ≤ s.length := fun p hp => hpl.2 p (ne_mem hp)
    have hpc : (ne (splitV s [32])).length ≤ s.length + 1 := Nat.le_trans (ne_length _) hpl.1
    obtain ⟨ps, hps⟩ : ∃ ps, ps = ne (splitV s [32]) := ⟨_, rfl⟩
    rw [← hps] at h1 h2 hpsl hpc
    have cW := cell_blk h1 (i := 0) rfl
    have hbad : badF s = (!decide (ps.length = 5) || (Lib.hasPrefix s [32] || Lib.hasSuffix s [32])) := by rw [hps]; rfl
    have hpar : parseC s = if badF s = true then (20, zeroC) else if (fieldsV 0 ps zeroC).1 = 0 then fieldsV 0 ps zeroC else ((fieldsV 0 ps zeroC).1, zeroC) := by rw [hps]; rfl
    have hpre := fun w' => Tryd.strings_HasPrefix (S s) (S [32]) w'
    have hsuf := fun w' => Tryd.strings_HasSuffix (S s) (S [32]) w' (by rw [S_size]; omega)
    rw [S_toList, S_toList] at hpre hsuf
    obtain ⟨bp, hbp⟩ : ∃ b, b = Lib.hasPrefix s [32] := ⟨_, rfl⟩
    obtain ⟨bs, hbs⟩ : ∃ b, b = Lib.hasSuffix s [32] := ⟨_, rfl⟩
    rw [← hbp] at hpre hbad
    rw [← hbs] at hsuf hbad
    have Hpre := Lib.hid hpre; have Hsuf := Lib.hid hsuf; have Hbad := Lib.hid hbad; have Hpar := Lib.hid hpar; have Hpsl := Lib.hid hpsl
    clear hpre hsuf hbad hpar hps hbp hbs hpl hpsl hpc
    have hmk : ∀ fn, fn = Tryd.f10 → ∀ (tmps : Array Value), tmps.getD 2 undef = .pointer (some ⟨w.heap.size, 0, none⟩) → tmps.getD 3 undef = .pointer (some ⟨w.heap.size + 1, 0, none⟩) → badF s = true →
        LeavesInM Fence.wide 3 Tryd.prog fn tmps (ParsePost s w) [{ target := .collected D, args := #[] }] .returning ((put10 W w.heap.size zeroC).setCell ⟨w.heap.size + 1, 0, none⟩ (.int .i64 20)) := by
      rintro fn rfl tmps hp hq hb
      obtain ⟨g0, g1, tg⟩ := put11_blk (by omega) hr0 hr1 zeroC (.int .i64 20)
      exact leave_spec rfl s w _ [D] zeroC 20 tmps _ _ hp hq (fun E hE => by
        obtain rfl : E = D := by simpa using hE
        exact ⟨tg.blk hK (by simp; omega), by omega⟩) (by simp) g0 g1 (hT.trans tg (fun b hb => .inr (by simp at hb; omega))) (by rw [Hpar.out, if_pos hb])
    have Hmk := Lib.hid hmk
    clear hmk
    obtain ⟨s0, s1, s2, s3, s4, a0, a1, a2, a3, a4⟩ := specAt_blk hr0
    have f0 := frozen_blk hr0 0; have f1 := frozen_blk hr0 1; have f2 := frozen_blk hr0 2; have f3 := frozen_blk hr0 3; have f4 := frozen_blk hr0 4
    have f5 := frozen_blk hr0 5; have f6 := frozen_blk hr0 6; have f7 := frozen_blk hr0 7; have f8 := frozen_blk hr0 8; have f9 := frozen_blk hr0 9
    have c1 := cell_blk hr1 (i := 0) rfl
    have e1 := frozen_blk hr1 0
    by_cases h5 : ps.length = 5
    · have hn : ((ps.length : Int) != 5) = false := by rw [bne_eq_false_iff_eq]; omega
      rcases bp with _ | _
      · rcases bs with _ | _
        · have Hp : Hid (parseC s = if (fieldsV 0 ps zeroC).1 = 0 then fieldsV 0 ps zeroC else ((fieldsV 0 ps zeroC).1, zeroC)) := Lib.hid (by rw [Hpar.out, Hbad.out, decide_eq_true h5]; simp)
          clear Hpar Hbad Hmk
          have ta := (Touch.refl [] W).alloc (.cells zeroC.row 27)
          have cWa := ta.cell cW (by simp)
          have nW := heap_alloc_new W (.cells zeroC.row 27)
          have HG := Lib.hid (hG.touch0 (hT.trans0 ta))
          obtain ⟨WA, hWA⟩ : ∃ WA, WA = W.alloc (.cells zeroC.row 27) := ⟨_, rfl⟩
          have hWA' : W.alloc (.cells #[.int .u64 0, .int .u64 0, .int .u64 0, .int .u64 0, .int .u64 0, .bool false, .bool false, .bool false, .bool false, .bool false] 27) = WA := hWA.symm
          have hWAs : WA.heap.size = W.heap.size + 1 := by rw [hWA]; simp
          rw [← hWA] at cWa nW HG ta
          have Hh := Lib.hid (And.intro (ta.blk h1 (by simp)) (And.intro (ta.blk hr0 (by simp)) (And.intro (ta.blk hr1 (by simp)) (And.intro (ta.blk hK (by simp)) (And.intro (h2.touch0 ta) (hT.trans0 ta))))))
          have Hs := Lib.hid hWAs
          have HA := Lib.hid hWA'
          clear hWA hWA' hWAs h1 hr0 hr1 hK h2 hT ta
          gi_wp2_with fail
          refine ⟨trivial, ?_⟩
          refine (callsIn_wide.2 (Hpre.out _)).mono ?_
          rintro e W1 ⟨rfl, rfl⟩
          gi_wp2_with fail
          refine ⟨trivial, ?_⟩
          refine (callsIn_wide.2 (Hsuf.out _)).mono ?_
          rintro e W1 ⟨rfl, rfl⟩
          rw [h5] at cWa
          have H5 := Lib.hid h5
          clear h5 s0 s1 s2 s3 s4 a0 a1 a2 a3 a4 f0 f1 f2 f3 f4 f5 f6 f7 f8 f9 c1 e1 cW hn hG hgl hI0 hG2 hspl b0 b1
          gi_wp2_with (with_reducible rw [HA.out])
          obtain ⟨C, hC⟩ : ∃ C, C = W1.heap.size := ⟨_, rfl⟩
          rw [← hC]
          obtain ⟨hh1, hh2, hh3, hh4, hh5, hh6⟩ := Hh.out
          have hFI : FI w A c ps C 0 [D] zeroC WA := ⟨by omega, zero_ok, rfl, by rw [hC]; exact nW, ⟨hh2, hh3, hh5, fun E hE => by
            obtain rfl : E = D := by simpa using hE
            exact hh4, hh6⟩, by simp, fun E hE => by
            obtain rfl : E = D := by simpa using hE
            omega⟩
          have hCz : w.heap.size + 6 ≤ C := by omega
          have HF := Lib.hid hFI
          have HC := Lib.hid hC
          clear hC
          clear hh1 hh2 hh3 hh4 hh5 hh6 Hh hFI nW cWa
          refine wpIn_loop (fun a wr => ∃ (k : Nat) (Ds : List Nat) (cc : SD) (u7 u8 u36 u37 u38 u39 u40 u41 u42 u43 u44 u45 u46 u47 u48 u49 u50 u51 u71 : Value), a = { tmps := #[.string (S s), undef, .pointer (some ⟨w.heap.size, 0, none⟩), .pointer (some ⟨w.heap.size + 1, 0, none⟩), .pointer (some ⟨w.heap.size + 1 + 1, 0, none⟩), undef, .pointer (some ⟨C, 0, none⟩), u7, u8, undef, undef, undef, .string (S s), .func (.func 58) #[] #[.pointer (some ⟨w.heap.size + 3 + 1, 0, none⟩), .pointer (some ⟨w.heap.size + 3, 0, none⟩), .pointer (some ⟨w.heap.size + 3 + 2, 0, none⟩)], undef, undef, undef, undef, undef, undef, undef, .slice A 5 c, .int .i64 5, .bool false, .bool false, .string (S s), .bool false, .bool false, .bool false, .string (S s), .bool false, .bool false, undef, .slice A 5 c, .int .i64 5, .int .i64 (k : Nat), u36, u37, u38, u39, u40, u41, u42, u43, u44, u45, u46, u47, u48, u49, u50, u51, undef, undef, undef, undef, undef, undef, undef, undef, undef, undef, undef, undef, undef, undef, undef, undef, undef, undef, undef, u71, undef], defers := marks Ds } ∧ FI w A c ps C k Ds cc wr) (fun a _ => 6 - (intOf (a.tmps.getD 35 undef)).toNat) ⟨0, [D], zeroC, undef, undef, undef, undef, undef, undef, undef, undef, undef, undef, undef, undef, undef, undef, undef, undef, undef, undef, undef, rfl, HF.out⟩ ?_
          rintro _ wr ⟨k, Ds, cc, u7, u8, u36, u37, u38, u39, u40, u41, u42, u43, u44, u45, u46, u47, u48, u49, u50, u51, u71, rfl, hF⟩
          have hk5 := hF.hk
          by_cases hlt : k < 5
          · have hlp : k < ps.length := by rw [H5.out]; exact hlt
            obtain ⟨ad, bb, off, hA, had, -, hcell⟩ := hF.pb.own.rd.at_ 1 encT_len (by omega) k hlp
            obtain ⟨pt, hpt⟩ : ∃ pt, pt = ps[k] := ⟨_, rfl⟩
            have hptl : pt.length ≤ s.length := by rw [hpt]; exact Hpsl.out _ (List.getElem_mem hlp)
            have hdrop : ps.drop k = pt :: ps.drop (k + 1) := by rw [hpt]; exact List.drop_eq_getElem_cons hlp
            have hcell := hcell 0 (.string (S ps[k])) rfl
            rw [← hpt] at hcell
            rw [Nat.mul_one] at had
            rw [Nat.add_zero] at hcell
            subst hA
            have Hpt := Lib.hid hpt; have Hdrop := Lib.hid hdrop
            clear hpt hdrop
            have hk0 : (0 : Int) ≤ (k : Int) := by omega
            have hk5' : (k : Int) < 5 := by omega
            have HF2 := Lib.hid hF
            have hT7 := (Touch.refl [] wr).alloc (.cells #[.int .i64 (k : Nat)] 3)
            have n7 := heap_alloc_new wr (.cells #[.int .i64 (k : Nat)] 3)
            by_cases hst : pt = [42]
            · have Hst := Lib.hid hst
              subst hst
              have hq : (S [42]).toList = [42] := S_list _
              gi_wp2_with fail
              have Hfull := Lib.hid (full_any k hlt (wr.alloc (.cells #[.int .i64 (k : Nat)] 3)).drew (((hG0.out.touch0 hF.pb.t).touch0 hT7).touch0 ((Touch.refl [] _).drew)))
              refine wpIn_mono (Q := Q1 _) (wpIn_wide.2 ?_) (fun e a w h => by obtain ⟨rfl, h⟩ := h; exact h)
              refine wp_region_held_drew (S := fun w' => w'.cell? ⟨wr.heap.size, 0, none⟩ = some (.int .i64 (k : Nat))) (by kernel_rfl) (cell_blk n7 (i := 0) rfl) (fun hHeld => ?_)
              refine take_d (i := 0) (d := 42) (v := ?_) rfl rfl (by kernel_rfl) (by kernel_rfl) (by kernel_rfl) (fun _ _ _ h => q1_panic _ _ _ _ _ h) (Or.inl ⟨by rfl, ?_⟩) (by assumption) ?_
              rotate_left
              · intro w hSw; (try dsimp only at hSw); go_simp; (try with_reducible rfl)
              try simp only [Act.put, List.setIfInBounds_toArray, List.set_cons_zero, List.set_cons_succ]
              refine take_d (i := 1) (d := 43) (v := ?_) rfl rfl (by kernel_rfl) (by kernel_rfl) (by kernel_rfl) (fun _ _ _ h => q1_panic _ _ _ _ _ h) (Or.inl ⟨by rfl, ?_⟩) (by assumption) ?_
              rotate_left
              · intro w hSw; (try dsimp only at hSw); go_simp; (try with_reducible rfl)
              try simp only [Act.put, List.setIfInBounds_toArray, List.set_cons_zero, List.set_cons_succ]
              refine take_d (i := 2) (d := 44) (v := ?_) rfl rfl (by kernel_rfl) (by kernel_rfl) (by kernel_rfl) (fun _ _ _ h => q1_panic _ _ _ _ _ h) (Or.inl ⟨by rfl, ?_⟩) (by assumption) ?_
              rotate_left
              · intro w hSw; (try dsimp only at hSw); go_simp; (try with_reducible rfl)
              try simp only [Act.put, List.setIfInBounds_toArray, List.set_cons_zero, List.set_cons_succ]
              refine take_d (i := 4) (d := 46) (v := ?_) rfl rfl (by kernel_rfl) (by kernel_rfl) (by kernel_rfl) (fun _ _ _ h => q1_panic _ _ _ _ _ h) (Or.inl ⟨by rfl, ?_⟩) (by assumption) ?_
              rotate_left
              · intro w hSw; (try dsimp only at hSw); go_simp; (try with_reducible rfl)
              try simp only [Act.put, List.setIfInBounds_toArray, List.set_cons_zero, List.set_cons_succ]
              refine take_d (i := 7) (d := 48) (v := ?_) rfl rfl (by kernel_rfl) (by kernel_rfl) (by kernel_rfl) (fun _ _ _ h => q1_panic _ _ _ _ _ h) (Or.inl ⟨by rfl, ?_⟩) (by assumption) ?_
              rotate_left
              · intro w hSw; (try dsimp only at hSw); go_simp; (try with_reducible rfl)
              try simp only [Act.put, List.setIfInBounds_toArray, List.set_cons_zero, List.set_cons_succ]
              refine wpAnyH_ready (rs := [3]) (by kernel_rfl) (by simp) ?_
              refine AllReadyH.cons rfl (fun K hK => ?_) AllReadyH.nil
              go_simp
              go_at_call 24
              refine (Hfull.out).mono ?_
              rintro e w' ⟨rfl, nf, rfl⟩
              obtain ⟨V, hV⟩ : ∃ V, V = (wr.alloc (.cells #[.int .i64 (k : Nat)] 3)).drew.drewN nf := ⟨_, rfl⟩
              have tV0 : Touch [] (wr.alloc (.cells #[.int .i64 (k : Nat)] 3)) V := by rw [hV]; exact ((Touch.refl [] _).drew).drewN nf
              have tV := hT7.trans0 tV0
              rw [← hV]
              have bV := tV.blk HF2.out.cb (by simp)
              have hSV := cell_blk (tV0.blk n7 (by simp)) (i := 0) rfl
              have hCT : C ≠ wr.heap.size := by have := (Array.getElem?_eq_some_iff.1 HF2.out.cb).1; omega
              have hSV2 := ((Touch.refl [C] V).setCell (p := ⟨C, k, none⟩) (.inl (by simp)) (.int .u64 (fullV k : Nat))).cell hSV (by simp; omega)
              have hSV3 := ((Touch.refl [C] (V.setCell ⟨C, k, none⟩ (.int .u64 (fullV k : Nat)))).setCell (p := ⟨C, 5 + k, none⟩) (.inl (by simp)) (.bool true)).cell hSV2 (by simp; omega)
              have cV := cell_blk bV (row_get cc k hlt)
              have zV := frozen_blk bV k
              have bV2 := set_blk bV k (.int .u64 (fullV k : Nat))
              have cV2 := cell_blk bV2 (i := 5 + k) (v := .bool (cc.any k)) (by rw [Array.getElem?_setIfInBounds_ne (by omega)]; exact row_getA cc k hlt)
              have zV2 := frozen_blk bV2 (5 + k)
              have HV := Lib.hid (And.intro tV (And.intro bV hSV3))
              clear hV bV bV2 tV0 tV
              (try go_wp2_with fail)
              refine hK.out _ _ hSV (fun _ => ?_)
              clear hK K
              try simp only [Act.put, List.setIfInBounds_toArray, List.set_cons_zero, List.set_cons_succ]
              refine wpAnyH_ready (rs := [5]) (by kernel_rfl) (by simp) ?_
              refine AllReadyH.cons rfl (fun K hK => ?_) AllReadyH.nil
              go_simp
              (try go_wp2_with fail)
              refine hK.out _ _ hSV (fun _ => ?_)
              clear hK K
              try simp only [Act.put, List.setIfInBounds_toArray, List.set_cons_zero, List.set_cons_succ]
              refine wpAnyH_ready (rs := [6]) (by kernel_rfl) (by simp) ?_
              refine AllReadyH.cons rfl (fun K hK => ?_) AllReadyH.nil
              go_simp
              (try go_wp2_with fail)
              refine hK.out _ _ hSV2 (fun _ => ?_)
              clear hK K
              try simp only [Act.put, List.setIfInBounds_toArray, List.set_cons_zero, List.set_cons_succ]
              refine wpAnyH_ready (rs := [8]) (by kernel_rfl) (by simp) ?_
              refine AllReadyH.cons rfl (fun K hK => ?_) AllReadyH.nil
              go_simp
              (try go_wp2_with fail)
              refine hK.out _ _ hSV2 (fun _ => ?_)
              clear hK K
              try simp only [Act.put, List.setIfInBounds_toArray, List.set_cons_zero, List.set_cons_succ]
              refine wpAnyH_ready (rs := [9]) (by kernel_rfl) (by simp) ?_
              refine AllReadyH.cons rfl (fun K hK => ?_) AllReadyH.nil
              go_simp
              (try go_wp2_with fail)
              refine hK.out _ _ hSV3 (fun _ => ?_)
              clear hK K
              try simp only [Act.put, List.setIfInBounds_toArray, List.set_cons_zero, List.set_cons_succ]
              refine wpAnyH_done (by kernel_rfl) ?_ _
              refine ⟨rfl, ?_⟩
              gi_wp2_with fail
              obtain ⟨tV, bV, -⟩ := HV.out
              have bV2 := set_blk bV k (.int .u64 (fullV k : Nat))
              have bV3 := set_blk bV2 (5 + k) (.bool true)
              rw [← put_row cc k hlt] at bV3
              have tC : Touch [C] wr ((V.setCell ⟨C, k, none⟩ (.int .u64 (fullV k : Nat))).setCell ⟨C, 5 + k, none⟩ (.bool true)) :=
                ((tV.mono (fp2 := [C]) (fun b hb => by simp at hb)).setCell (p := ⟨C, k, none⟩) (.inl (by simp)) _).setCell (p := ⟨C, 5 + k, none⟩) (.inl (by simp)) _
              have hAC : ∀ b ∈ fpo (some ad), b ∉ [C] := fun b hb hm => by
                obtain rfl : b = C := by simpa using hm
                obtain ⟨cur, hc⟩ := HF2.out.pb.own.cells b hb
                rw [HF2.out.cb] at hc
                injection hc with hc
                cases hc
              have hDC : ∀ E ∈ Ds, E ∉ [C] := fun E hE hm => by
                obtain rfl : E = C := by simpa using hm
                have := HF2.out.pb.mks E hE
                rw [HF2.out.cb] at this
                cases this
              refine ⟨⟨k + 1, Ds, cc.put k (fullV k) true, _, _, _, _, _, _, _, _, _, _, _, _, _, _, _, _, _, _, _, rfl, ⟨by omega, put_ok HF2.out.ok _ _ _ (fullV_lt k), ?_, bV3, HF2.out.pb.touch tC (by simp; omega) hAC hDC, HF2.out.nd, HF2.out.ge⟩⟩, ?_⟩
              · exact fields_go (z := zeroC) HF2.out.eq Hdrop.out (fieldV_star k cc)
              · simp [intOf]; omega
            · have hq : ((S pt).toList == [42]) = false := by rw [S_list, beq_eq_false_iff_ne]; exact hst
              have hq2 : ((S pt).toList = [42]) = False := eq_false (by rw [S_list]; exact hst)
              have Hst := Lib.hid hst
              clear hst
              gi_wp2_with fail
              refine ⟨trivial, ?_⟩
              refine (callsIn_wide.2 (splitSeq_any pt [44] _)).mono ?_
              rintro e w1 ⟨rfl, rfl⟩
              obtain ⟨T, hT⟩ : ∃ T, T = wr.heap.size := ⟨_, rfl⟩
              obtain ⟨W7, hW7⟩ : ∃ W7, W7 = wr.alloc (.cells #[.int .i64 (k : Nat)] 3) := ⟨_, rfl⟩
              have hW7s : W7.heap.size = T + 1 := by rw [hW7, hT]; simp
              rw [← hW7] at hT7 n7 ⊢
              have hspl := splitAt_new W7 pt [44]
              have tD := (((Touch.refl [] W7).alloc (.cells #[.string (S pt)] 9)).alloc (.cells #[.string (S [44])] 9)).alloc (.cells #[.int .i64 0] 3)
              obtain ⟨w3, hw3⟩ : ∃ w3, w3 = ((W7.alloc (.cells #[.string (S pt)] 9)).alloc (.cells #[.string (S [44])] 9)).alloc (.cells #[.int .i64 0] 3) := ⟨_, rfl⟩
              have hw3s : w3.heap.size = T + 4 := by rw [hw3]; simp [hW7s]
              rw [← hw3] at hspl tD ⊢
              rw [hW7s] at hspl ⊢
              rw [← hT] at n7 ⊢
              have tV := hT7.trans0 tD
              have hCT : C < T := by rw [hT]; exact (Array.getElem?_eq_some_iff.1 hF.cb).1
              have hAlt : ∀ b ∈ fpo (some ad), b < T := fun b hb => by rw [hT]; exact hF.pb.own.lt b hb
              have hDT : ∀ E ∈ Ds, E < T := fun E hE => by rw [hT]; exact (Array.getElem?_eq_some_iff.1 (hF.pb.mks E hE)).1
              have hI0 : I2 w (some ad) c ps Ds C T (T + 4) cc k [] w3 := ⟨hF.pb.touch0 tV, rfl, by
                show w3.heap[C]? = some (.cells (cc.put k (cc.set k) (cc.any k)).row 27 (0, 0))
                rw [put_same]; exact tV.blk hF.cb (by simp), tD.blk n7 (by simp), by omega⟩
              have hG3 := hG0.out.touch0 hI0.pb.t
              have hwT : w.heap.size ≤ T := by rw [hT]; exact hF.pb.t.size
              have Hw3s := Lib.hid hw3s
              have HT := Lib.hid hT
              clear hw3 hw3s hW7 hW7s tD tV hT7 n7 hcell had hT
              gi_wp2_with fail
              have hsp := fieldV_items k pt cc Hst.out
              have hfl : ∀ c', fieldV k pt cc = (0, c') → fieldsV 0 ps zeroC = fieldsV (k + 1) (ps.drop (k + 1)) c' := fun c' e => fields_go (z := zeroC) HF2.out.eq Hdrop.out e
              have hfe : ∀ v c', fieldV k pt cc = (v, c') → v ≠ 0 → parseC s = (v, zeroC) := fun v c' e hv => by
                have h1 := fields_err HF2.out.eq Hdrop.out e hv
                rw [Hp.out, h1, if_neg hv]
              have Hsp := Lib.hid hsp; have Hfl := Lib.hid hfl; have Hfe := Lib.hid hfe
              clear hsp hfl hfe
              have hq1 := split_seq pt [44] (by simp) (by simp) (by omega) (T + 1) (by have := hgl0.out; omega) 2 (by omega) w3 hspl hG3.len
              have hq2 := fun o1 o2 => (hI0.alloc o1).alloc o2
              refine range_box (F := Fence.wide) (n := 3) (P := Tryd.prog) rfl (by omega) (gf := 58) (lb := #[.pointer (some ⟨T + 1 + 1, 0, none⟩), .pointer (some ⟨T + 1, 0, none⟩), .pointer (some ⟨T + 1 + 2, 0, none⟩)]) ?g1 ?g2 ?g3 hq1 ?g4 ?hbs2 ?g5 ?g6
                (I2 w (some ad) c ps Ds C T (T + 4) cc k) (X2 w (some ad) c ps Ds cc k pt) ?hIp2 ?hXp2 ?hIR2 ?g7 ?a12 ?assign2 ?body2 ?done2 ?stop2
              case g1 => rfl
              case g2 => trivial
              case g3 => exact enters_of Tryd.func58 (by kernel_rfl) rfl
              case g4 => exact fun A A' hR k o ho hn => step_notCells hR k o ho hn
              case g5 => exact KpB.refl _ _
              case g6 => exact fun _ => rfl
              case g7 => exact hq2
              case assign2 =>
                intro l x W K hK
                gi_wp2
                exact hK
              case hbs2 =>
                intro k hk
                rw [Hw3s.out]
                simp only [List.mem_cons, List.not_mem_nil, or_false] at hk
                have := hgl0.out
                rcases hk with rfl | rfl | rfl | rfl <;> omega
              case hIp2 =>
                rintro pre W j o o' h hj hl ho
                rw [Hw3s.out] at hj
                have hoth : ∀ i, i ≠ j → (W.putObj j o').heap[i]? = W.heap[i]? := fun i hi => World.putObj_heap_other (by omega)
                exact ⟨h.pb.put (by omega) (fun E hE e => by have := hDT E hE; omega) hl ho, h.e0, (hoth _ (by omega)).trans h.cb, (hoth _ (by omega)).trans h.tb, by have := h.sz; simpa [World.putObj] using this⟩
              case hXp2 =>
                rintro pre W j o o' ⟨e, rest, h1, h2, h3, h4⟩ hj hl ho
                rw [Hw3s.out] at hj
                exact ⟨e, rest, h1, h2, h3, h4.put (by omega) (fun E hE e => by have := hDT E hE; omega) hl ho⟩
              case hIR2 =>
                rintro pre A1 A2 ⟨v, rfl⟩ h
                have hoth : ∀ i, i ≠ T + 1 → (A1.setCell ⟨T + 1, 0, none⟩ v).heap[i]? = A1.heap[i]? := fun i hi => Below.heap_setCell A1 _ v i hi
                have hAT : ∀ b ∈ fpo (some ad), b ∉ [T + 1] := fun b hb hm => by
                  have e : b = T + 1 := by simpa using hm
                  have := hAlt b hb; omega
                exact ⟨h.pb.touch ((Touch.refl [T + 1] A1).setCell (p := ⟨T + 1, 0, none⟩) (.inl (by simp)) v) (by simp; omega) hAT (fun E hE hm => by have := hDT E hE; simp at hm; omega), h.e0, (hoth _ (by omega)).trans h.cb, (hoth _ (by omega)).trans h.tb, by have := h.sz; simpa [World.setCell] using this⟩
              case body2 =>
                rintro l pre x W hI hpf
                obtain ⟨hpl, hxl⟩ := nextP_facts hpf
                have hx := itemsV_snoc k x pre (cc.set k) hI.e0
                have hit := item_any k hlt x (by omega) W (hG0.out.touch0 hI.pb.t)
                have hc3 := itemV_lt k x
                have hs0 : (itemsV k pre (cc.set k)).2 < 18446744073709551616 := itemsV_lt k pre _ (HF2.out.ok k hlt)
                obtain ⟨s0, hs0e⟩ : ∃ s0, s0 = (itemsV k pre (cc.set k)).2 := ⟨_, rfl⟩
                have hcb := hI.cb
                rw [← hs0e] at hx hs0 hcb
                obtain ⟨⟨iv, ie⟩, hie⟩ : ∃ q, q = itemV k x := ⟨_, rfl⟩
                rw [← hie] at hx hit hc3
                simp only at hx hit hc3
                have hor := u64_or_nat s0 iv hs0 hc3
                have cT := cell_blk hI.tb (i := 0) rfl
                have Hit := Lib.hid hit; have Hx := Lib.hid hx; have Hor := Lib.hid hor; have HI := Lib.hid hI; have Hcb := Lib.hid hcb; have Hpf := Lib.hid hpf
                clear hit hx hor hI hcb hpf hie hs0e hpl hs0 hc3
                by_cases h0 : ie = 0
                · subst h0
                  gi_wp2_with fail
                  refine ⟨trivial, ?_⟩
                  refine (callsIn_of Hit.out).mono ?_
                  rintro e w4 ⟨rfl, t4⟩
                  have cT4 := t4.cell cT (by simp)
                  have bC4 := t4.blk Hcb.out (by simp)
                  have cC4 := cell_blk bC4 (i := k) (v := .int .u64 (s0 : Nat)) (by rw [row_get _ k hlt]; simp [SD.put])
                  have zC4 := frozen_blk bC4 k
                  have ho := Hor.out
                  gi_wp2_with fail
                  have hTT : Touch [C] W (w4.setCell ⟨C, k, none⟩ (.int .u64 ((s0 ||| iv : Nat) : Int))) := (t4.mono (fp2 := [C]) (fun b hb => by simp at hb)).setCell (p := ⟨C, k, none⟩) (.inl (by simp)) _
                  have Hx : Hid (itemsV k (pre ++ [x]) (cc.set k) = (0, s0 ||| iv)) := Lib.hid (by rw [Hx.out]; simp)
                  have hAC : ∀ b ∈ fpo (some ad), b ∉ [C] := fun b hb hm => by
                    obtain rfl : b = C := by simpa using hm
                    obtain ⟨cur, hc⟩ := HI.out.pb.own.cells b hb
                    rw [Hcb.out] at hc
                    injection hc with hc
                    cases hc
                  have hDC : ∀ E ∈ Ds, E ∉ [C] := fun E hE hm => by
                    have e : E = C := by simpa using hm
                    have := HI.out.pb.mks E hE
                    rw [e, Hcb.out] at this
                    cases this
                  refine ⟨KeepN.of_touch hTT (fun k hk => ?_), fun k hk => ?_, ⟨HI.out.pb.touch hTT (by simp; omega) hAC hDC, ?_, ?_, hTT.blk HI.out.tb (by simp; omega), by have := hTT.size; have := HI.out.sz; omega⟩⟩
                  · right
                    intro o ho
                    have e : k = C := by simpa using hk
                    rw [e, Hcb.out] at ho
                    cases ho
                    rfl
                  · have := hgl0.out
                    have := HI.out.sz
                    refine hTT.block k ?_ ?_
                    · simp only [List.mem_cons, List.not_mem_nil, or_false] at hk
                      rcases hk with rfl | rfl | rfl | rfl <;> omega
                    · intro hm
                      have e : k = C := by simpa using hm
                      simp only [List.mem_cons, List.not_mem_nil, or_false] at hk
                      rcases hk with rfl | rfl | rfl | rfl <;> omega
                  · rw [Hx.out]
                  · rw [Hx.out]
                    rw [set_blk bC4]
                    rw [← put_row2 cc k hlt s0 (s0 ||| iv)]
                · have h0b : (ie != 0) = true := by rw [bne_iff_ne]; exact h0
                  gi_wp2_with fail
                  refine ⟨trivial, ?_⟩
                  refine (callsIn_of Hit.out).mono ?_
                  rintro e w4 ⟨rfl, t4⟩
                  obtain ⟨q0, q1⟩ := And.intro (t4.blk HI.out.pb.r0 (by simp)) (t4.blk HI.out.pb.r1 (by simp))
                  have s0 := specAt_blk q0
                  obtain ⟨s0, s1, s2, s3, s4, a0, a1, a2, a3, a4⟩ := s0
                  have f0 := frozen_blk q0 0; have f1 := frozen_blk q0 1; have f2 := frozen_blk q0 2; have f3 := frozen_blk q0 3; have f4 := frozen_blk q0 4
                  have f5 := frozen_blk q0 5; have f6 := frozen_blk q0 6; have f7 := frozen_blk q0 7; have f8 := frozen_blk q0 8; have f9 := frozen_blk q0 9
                  have c1 := cell_blk q1 (i := 0) rfl
                  have e1 := frozen_blk q1 0
                  have Hq := Lib.hid (And.intro q0 q1)
                  clear q0 q1
                  gi_wp2_with fail
                  obtain ⟨g0, g1, tg⟩ := put11_blk (by omega) Hq.out.1 Hq.out.2 zeroC (.int .i64 ie)
                  have hTT : Touch [w.heap.size, w.heap.size + 1] W ((put10 w4 w.heap.size zeroC).setCell ⟨w.heap.size + 1, 0, none⟩ (.int .i64 ie)) := (t4.mono (fp2 := [w.heap.size, w.heap.size + 1]) (fun b hb => by simp at hb)).trans tg (fun b hb => .inl hb)
                  have hX : KeepN w3.heap.size W ((put10 w4 w.heap.size zeroC).setCell ⟨w.heap.size + 1, 0, none⟩ (.int .i64 ie)) ∧ X2 w (some ad) c ps Ds cc k pt (pre ++ [x]) ((put10 w4 w.heap.size zeroC).setCell ⟨w.heap.size + 1, 0, none⟩ (.int .i64 ie)) := by
                    rw [if_neg h0] at Hx
                    refine ⟨KeepN.of_touch hTT (fun k hk => ?_), ?_⟩
                    · left
                      rw [Hw3s.out]
                      simp at hk
                      omega
                    · obtain ⟨rest, hrest⟩ := Hpf.out
                      have hnA : ∀ b ∈ fpo (some ad), b ∉ [w.heap.size, w.heap.size + 1] := fun b hb hm => by
                        obtain ⟨cur, hc⟩ := HI.out.pb.own.cells b hb
                        simp at hm
                        rcases hm with e | e
                        · rw [e, HI.out.pb.r0] at hc
                          injection hc with hc
                          cases hc
                        · rw [e, HI.out.pb.r1] at hc
                          injection hc with hc
                          cases hc
                      exact ⟨ie, rest, by rw [hrest]; simp, by rw [Hx.out], h0, ⟨g0, g1, HI.out.pb.own.touch hTT hnA, fun E hE => hTT.blk (HI.out.pb.mks E hE) (fun hm => by have := HF2.out.ge E hE; simp at hm; omega), HI.out.pb.t.trans hTT (fun b hb => .inr (by simp at hb; omega))⟩⟩
                  exact hX
              case done2 =>
                rintro D2 xs W hD2 hxs hI hK2
                rw [Hw3s.out] at hD2
                have hfi := Hsp.out xs hxs
                rw [hI.e0] at hfi
                have hfl := Hfl.out _ hfi
                have hFI2 : FI w (some ad) c ps C (k + 1) (D2 :: Ds) (cc.put k (itemsV k xs (cc.set k)).2 (cc.any k)) W :=
                  ⟨by omega, put_ok HF2.out.ok _ _ _ (itemsV_lt k _ _ (HF2.out.ok k hlt)), hfl, hI.cb, ⟨hI.pb.r0, hI.pb.r1, hI.pb.own, fun E hE => by
                    rcases List.mem_cons.1 hE with rfl | hE
                    · exact hK2
                    · exact hI.pb.mks E hE, hI.pb.t⟩, List.nodup_cons.2 ⟨fun hm => by have := hDT _ hm; omega, HF2.out.nd⟩, fun E hE => by
                    rcases List.mem_cons.1 hE with rfl | hE
                    · omega
                    · exact HF2.out.ge E hE⟩
                have HFI2 := Lib.hid hFI2
                clear hFI2 hfl hfi
                gi_wp2_with fail
                refine ⟨⟨k + 1, D2 :: Ds, _, _, _, _, _, _, _, _, _, _, _, _, _, _, _, _, _, _, _, _, rfl, HFI2.out⟩, ?_⟩
                simp [intOf]; omega
              case stop2 =>
                rintro D2 pre W hD2 _ ⟨e, rest, hsplit, hie, hne, hpb⟩ hK2
                rw [Hw3s.out] at hD2
                have hfi := Hsp.out _ rfl
                rw [hsplit, itemsV_err k rest pre (cc.set k) (by rw [hie]; exact hne), hie] at hfi
                have hpar := Hfe.out _ _ hfi hne
                have hlv : ∀ fn, fn = Tryd.f10 → ∀ (tmps : Array Value), tmps.getD 2 undef = .pointer (some ⟨w.heap.size, 0, none⟩) → tmps.getD 3 undef = .pointer (some ⟨w.heap.size + 1, 0, none⟩) →
                    LeavesInM Fence.wide 3 Tryd.prog fn tmps (ParsePost s w) (marks (D2 :: Ds)) .returning W := by
                  rintro fn rfl tmps hp hq
                  exact PB.leave rfl (Ds := D2 :: Ds) ⟨hpb.r0, hpb.r1, hpb.own, fun E hE => by
                    rcases List.mem_cons.1 hE with rfl | hE
                    · exact hK2
                    · exact hpb.mks E hE, hpb.t⟩ tmps hp hq (List.nodup_cons.2 ⟨fun hm => by have := hDT _ hm; omega, HF2.out.nd⟩) (fun E hE => by
                    rcases List.mem_cons.1 hE with rfl | hE
                    · omega
                    · have := HF2.out.ge E hE; omega) hpar
                have Hlv := Lib.hid hlv
                clear hlv hpar hfi
                gi_wp2_with fail
                exact Hlv.out _ rfl _ rfl rfl
          · obtain rfl : k = 5 := by omega
            have hz : fieldsV 0 ps zeroC = (0, cc) := by rw [hF.eq, List.drop_eq_nil_of_le (by rw [H5.out]; omega)]; rfl
            have hpc : parseC s = (0, cc) := by rw [Hp.out, hz]; rfl
            have r0 := hF.pb.r0
            have r1 := hF.pb.r1
            obtain ⟨g0, g1, tg⟩ := put11_blk (by omega) r0 r1 cc (.int .i64 0)
            have hlv : ∀ fn, fn = Tryd.f10 → ∀ (tmps : Array Value), tmps.getD 2 undef = .pointer (some ⟨w.heap.size, 0, none⟩) → tmps.getD 3 undef = .pointer (some ⟨w.heap.size + 1, 0, none⟩) →
                LeavesInM Fence.wide 3 Tryd.prog fn tmps (ParsePost s w) (marks Ds) .returning ((put10 wr w.heap.size cc).setCell ⟨w.heap.size + 1, 0, none⟩ (.int .i64 0)) := by
              rintro fn rfl tmps hp hq
              exact leave_spec rfl s w _ Ds cc 0 tmps _ _ hp hq (fun E hE => ⟨tg.blk (hF.pb.mks E hE) (by have := hF.ge E hE; simp; omega), by have := hF.ge E hE; omega⟩) hF.nd g0 g1 (hF.pb.t.trans tg (fun b hb => .inr (by simp at hb; omega))) hpc
            have Hlv := Lib.hid hlv
            obtain ⟨s0, s1, s2, s3, s4, a0, a1, a2, a3, a4⟩ := specAt_blk r0
            have f0 := frozen_blk r0 0; have f1 := frozen_blk r0 1; have f2 := frozen_blk r0 2; have f3 := frozen_blk r0 3; have f4 := frozen_blk r0 4
            have f5 := frozen_blk r0 5; have f6 := frozen_blk r0 6; have f7 := frozen_blk r0 7; have f8 := frozen_blk r0 8; have f9 := frozen_blk r0 9
            have c1 := cell_blk r1 (i := 0) rfl
            have e1 := frozen_blk r1 0
            obtain ⟨x0, x1, x2, x3, x4, y0, y1, y2, y3, y4⟩ := specAt_blk hF.cb
            clear hlv g0 g1 tg r0 r1 hz hpc
            gi_wp2_with fail
            exact Hlv.out _ rfl _ rfl rfl
        · have Hb : Hid (badF s = true) := Lib.hid (by rw [Hbad.out]; simp)
          gi_wp2_with fail
          refine ⟨trivial, ?_⟩
          refine (callsIn_wide.2 (Hpre.out _)).mono ?_
          rintro e W1 ⟨rfl, rfl⟩
          gi_wp2_with fail
          refine ⟨trivial, ?_⟩
          refine (callsIn_wide.2 (Hsuf.out _)).mono ?_
          rintro e W1 ⟨rfl, rfl⟩
          gi_wp2_with fail
          exact Hmk.out _ rfl _ rfl rfl Hb.out
      · have Hb : Hid (badF s = true) := Lib.hid (by rw [Hbad.out]; simp)
        gi_wp2_with fail
        refine ⟨trivial, ?_⟩
        refine (callsIn_wide.2 (Hpre.out _)).mono ?_
        rintro e W1 ⟨rfl, rfl⟩
        gi_wp2_with fail
        refine ⟨trivial, ?_⟩
        gi_wp2_with fail
        exact Hmk.out _ rfl _ rfl rfl Hb.out
    · have hn : ((ps.length : Int) != 5) = true := by rw [bne_iff_ne]; omega
      have Hb : Hid (badF s = true) := Lib.hid (by rw [Hbad.out, decide_eq_false h5]; rfl)
      gi_wp2_with fail
      refine ⟨trivial, ?_⟩
      gi_wp2_with fail
      refine ⟨trivial, ?_⟩
      gi_wp2_with fail
      exact Hmk.out _ rfl _ rfl rfl Hb.out
end Go.Proofs.YtoabloeechphkaaDoor
