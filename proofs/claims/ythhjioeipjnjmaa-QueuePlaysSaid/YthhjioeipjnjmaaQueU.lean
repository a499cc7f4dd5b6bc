/- The queue's Drop where there is none, Drop whole, Len, First, Take: the walks. For every queue. -/
import Derived.Test.YthhjioeipjnjmaaQueT
namespace Go.Proofs.Ythhjioeipjnjmaa
open Go.RowKit

theorem QMem.miss {w : World} {g mb : Nat} {A : Option Addr} {c : Nat} {es : ES} {kvs : List (Value × Value)} {L : List QE} {p : Nat} (h : QMem w g mb A c es kvs L p) {a : ByteArray} {i : Int} (hm : ∀ e ∈ L, ¬ e.is a i) : ∀ x ∈ kvs, x.1 ≠ partV a i := by
  intro x hx e
  obtain ⟨y, hy, rfl⟩ := List.mem_map.1 (h.km.mem_iff.1 hx)
  obtain ⟨h1, h2⟩ := partV_inj e
  exact hm y.2 (h.perm.mem_iff.1 (List.mem_map.2 ⟨y, hy, rfl⟩)) ⟨h1, h2⟩

set_option maxRecDepth 20000 in
set_option maxHeartbeats 3200000 in
theorem drop_miss (g : Nat) (fp : List Nat) (L : List QE) (p : Nat) (a : ByteArray) (i : Int) (ha : a.size ≤ maxLen) (hi1 : -9223372036854775808 ≤ i) (hi2 : i ≤ 9223372036854775807) (hno : ∀ e ∈ L, ¬ e.is a i) (w : World) (h : QIs w g fp L p) :
    Calls Try.prog 20 #[.pointer (some ⟨g, 0, none⟩), partV a i] w fun e w' => e = .returned (.bool false) ∧ QStep g fp L p w w' := by
  have Hq := Lib.hid h
  obtain ⟨mb, A, c, es, kvs, rfl, h⟩ := h
  obtain ⟨kl, hkey⟩ := part_key a i ha hi1 hi2
  have hlook := fun W (hW : MapAt Try.prog 26 W mb kvs) => hW.miss part_law Try.underlying49 hkey (h.miss hno) (.pointer none) (Try.zeroValue57 W) true
  have t0 := (Touch.refl [] w).alloc (.cells #[.string a, .int .i64 i] 26)
  have hbl := lt_of_block h.hp.blk
  have Hh := Lib.hid h
  have Hlook := Lib.hid hlook
  clear h hlook hkey
  unfold partV at *
  go_enter Try.func20, Try.ntmps20
  go_wp2_with fail
  obtain ⟨W, hW⟩ : ∃ W, W = w.alloc (.cells #[.string a, .int .i64 i] 26) := ⟨_, rfl⟩
  rw [← hW] at t0 ⊢
  have hh2 := Hh.out.hp.touch0 t0
  have c1 : W.cell? ⟨g, 1, none⟩ = some (.map (some mb)) := cell_blk hh2.blk rfl
  have e0 : W.cell? ⟨w.heap.size, 0, none⟩ = some (.string a) := by rw [hW]; exact cell_blk (heap_alloc_new w _) rfl
  have e1 : W.cell? ⟨w.heap.size, 1, none⟩ = some (.int .i64 i) := by rw [hW]; exact cell_blk (heap_alloc_new w _) rfl
  have hl2 := fun n => Hlook.out (W.drewN n) (Hh.out.mp.touch (t0.drewN n) (by simp))
  have HT := Lib.hid t0
  clear hW t0 hh2
  go_quiet (fail)
  go_wp2_with fail
  go_ret
  exact ⟨rfl, _, Hq.out.touch0 (HT.out.drewN nq), (HT.out.drewN nq).mono (by simp), fun b hb => .inl hb⟩

def hasQ (L : List QE) (a : ByteArray) (i : Int) : Bool := L.any fun e => decide (e.is a i)
theorem drop_any (g : Nat) (fp : List Nat) (L : List QE) (p : Nat) (a : ByteArray) (i : Int) (ha : a.size ≤ maxLen) (hi1 : -9223372036854775808 ≤ i) (hi2 : i ≤ 9223372036854775807) (w : World) (h : QIs w g fp L p) :
    Calls Try.prog 20 #[.pointer (some ⟨g, 0, none⟩), partV a i] w fun e w' => e = .returned (.bool (hasQ L a i)) ∧ QStep g fp (dropQ L a i) p w w' := by
  by_cases hm : ∃ e ∈ L, e.is a i
  · have hq : hasQ L a i = true := by simpa [hasQ] using hm
    obtain ⟨mb, A, c, es, kvs, rfl, hh⟩ := h
    obtain ⟨k, hk, hki⟩ := hh.find hm
    rw [hq]
    exact drop_hit g mb A c es kvs L p a i k hk hki w hh
  · have hno : ∀ e ∈ L, ¬ e.is a i := fun e he k => hm ⟨e, he, k⟩
    have hq : hasQ L a i = false := by
      unfold hasQ
      rw [List.any_eq_false]
      intro e he; simp [hno e he]
    rw [hq, dropQ_miss hno]
    exact drop_miss g fp L p a i ha hi1 hi2 hno w h

theorem free_blk {w : World} {g : Nat} {cs : Array Value} {t : TypeId} (h : w.heap[g]? = some (.cells cs t (0, 0))) (i : Nat) : w.frozen? ⟨g, i, none⟩ = false := by
  simp [World.frozen?, h]
theorem results_cell_two {P : Program} {fn : Func} {p u : Tmp} {ty : TypeId} (h : fn.results = #[.cell p ty, .tmp u]) (tmps : Array Value) (w : World) (g : Nat) (t : TypeId) (cs : Array Value) (fr : Nat × Nat) (d : TypeDesc)
    (hp : tmps.getD p undef = .pointer (some ⟨g, 0, none⟩)) (hg : w.heap[g]? = some (.cells cs t fr))
    (hu : P.underlying ty = some d) (hd : (match d with | .struct _ | .array _ _ => true | _ => false) = true) (hi : (P.info? ty).map (·.size) = some cs.size) :
    (results fn tmps).run P w = .ok (.tuple #[.agg cs, tmps.getD u undef]) w := by
  have hp' : tmps[p]?.getD undef = .pointer (some ⟨g, 0, none⟩) := by simpa using hp
  simp [results, h, hp', asAddr, run_loadVar_row w g t ty cs fr d hg hu hd hi]
/-- four cells of a block are set, and another block is made -/
theorem set4 {w : World} {g : Nat} {cs : Array Value} {t : TypeId} (h : w.heap[g]? = some (.cells cs t (0, 0))) (hs : cs.size = 4) (a b c d : Value) :
    ((((w.setCell ⟨g, 0, none⟩ a).setCell ⟨g, 1, none⟩ b).setCell ⟨g, 2, none⟩ c).setCell ⟨g, 3, none⟩ d).heap[g]? = some (.cells #[a, b, c, d] t (0, 0)) := by
  rw [set_blk (set_blk (set_blk (set_blk h 0 a) 1 b) 2 c) 3 d]
  obtain ⟨l⟩ := cs
  match l, hs with
  | [x0, x1, x2, x3], _ => rfl
/-- an item, as the program hands it about -/
def itE (e : QE) : List Value := [.string e.asset, .int .i64 e.index, .int .i64 e.due, .int .i64 e.rank]
theorem itE_length (e : QE) : (itE e).length = 4 := rfl
def itV (e : QE) : Value := .agg #[.string e.asset, .int .i64 e.index, .int .i64 e.due, .int .i64 e.rank]
def noIt : Value := .agg #[.string ⟨#[]⟩, .int .i64 0, .int .i64 0, .int .i64 0]

set_option maxRecDepth 20000 in
set_option maxHeartbeats 1600000 in
theorem qlen_any (g : Nat) (fp : List Nat) (L : List QE) (p : Nat) (w : World) (h : QIs w g fp L p) :
    Calls Try.prog 9 #[.pointer (some ⟨g, 0, none⟩)] w fun e w' => e = .returned (.int .i64 L.length) ∧ w' = w := by
  obtain ⟨mb, A, c, es, kvs, rfl, h⟩ := h
  have c0 := h.hp.cell0
  rw [h.elen] at c0
  clear h
  go_enter Try.func9, Try.ntmps9
  go_wp2
  go_ret
  exact ⟨rfl, rfl⟩

/-- what First tells -/
def firstV (L : List QE) : Value := match L with | [] => .tuple #[noIt, .bool false] | e :: _ => .tuple #[itV e, .bool true]
set_option maxRecDepth 20000 in
set_option maxHeartbeats 1600000 in
theorem first_any (g : Nat) (fp : List Nat) (L : List QE) (p : Nat) (w : World) (h : QIs w g fp L p) :
    Calls Try.prog 19 #[.pointer (some ⟨g, 0, none⟩)] w fun e w' => e = .returned (firstV L) ∧ Touch [] w w' := by
  obtain ⟨mb, A, c, es, kvs, rfl, h⟩ := h
  have c0 := h.hp.cell0
  have hl := h.elen
  have hgl := lt_of_block h.hp.blk
  rcases L with _ | ⟨y, L⟩
  · rw [hl] at c0
    have t0 := (Touch.refl [] w).alloc (.cells #[.string ⟨#[]⟩, .int .i64 0, .int .i64 0, .int .i64 0] 28)
    clear h hl
    go_enter Try.func19, Try.ntmps19
    go_wp2_with fail
    go_returns
    exact ⟨rfl, t0⟩
  · obtain ⟨L', hL'⟩ := heap_head h.perm h.ord.sorted (heap_map h.heap) (by rw [List.length_map, hl]; simp)
    obtain ⟨n, hn⟩ : ∃ n, es.length = n + 1 := ⟨L.length, by rw [hl]; simp⟩
    have h0 : 0 < es.length := by omega
    rw [getE _ _ (by rw [List.length_map]; exact h0), List.getElem_map] at hL'
    injection hL' with hy _
    obtain ⟨G, rfl, g0, _⟩ := h.hp.es_.at_ 0 h0
    have k0 : w.cell? ⟨es[0].1, 0, none⟩ = some (.string es[0].2.asset) := h.hp.es_.cell 0 h0 0 _ rfl
    have k1 : w.cell? ⟨es[0].1, 1, none⟩ = some (.int .i64 es[0].2.index) := h.hp.es_.cell 0 h0 1 _ rfl
    have k2 : w.cell? ⟨es[0].1, 2, none⟩ = some (.int .i64 es[0].2.due) := h.hp.es_.cell 0 h0 2 _ rfl
    have k3 : w.cell? ⟨es[0].1, 3, none⟩ = some (.int .i64 es[0].2.rank) := h.hp.es_.cell 0 h0 3 _ rfl
    have hv : firstV (y :: L) = .tuple #[itV y, .bool true] := rfl
    rw [hv]
    unfold itV
    obtain ⟨b, hb⟩ : ∃ b, b = es[0].1 := ⟨_, rfl⟩
    rw [← hb] at k0 k1 k2 k3 g0
    have hbl := World.block_lt_of_cell? w _ k0
    have hGl := World.block_lt_of_cell? w _ g0
    rw [← hy] at k0 k1 k2 k3
    rw [hn] at c0
    clear h hl hy hb hn hv
    unfold ptrV at g0
    go_enter Try.func19, Try.ntmps19
    go_wp2_with fail
    go_returns
    exact ⟨rfl, (Touch.refl [] w).alloc _⟩

set_option maxRecDepth 20000 in
set_option maxHeartbeats 1600000 in
theorem take_any (g : Nat) (fp : List Nat) (L : List QE) (p : Nat) (w : World) (h : QIs w g fp L p) :
    Calls Try.prog 10 #[.pointer (some ⟨g, 0, none⟩)] w fun e w' => e = .returned (firstV L) ∧ QStep g fp L.tail p w w' := by
  have t0 := (Touch.refl [] w).alloc (.cells #[.string ⟨#[]⟩, .int .i64 0, .int .i64 0, .int .i64 0] 28)
  have h0 := h.touch0 t0
  have Hf := Lib.hid (first_any g fp L p _ h0)
  rcases L with _ | ⟨y, L⟩
  · have hv : firstV ([] : List QE) = .tuple #[noIt, .bool false] := rfl
    rw [hv] at Hf ⊢
    unfold noIt at *
    have Hq := Lib.hid h
    clear h
    go_enter Try.func10, Try.ntmps10
    go_wp2_with fail
    refine Hf.out.mono ?_
    rintro e w1 ⟨rfl, t1⟩
    have T1 := t0.trans0 t1
    have hb := t1.blk (heap_alloc_new w (.cells #[.string ⟨#[]⟩, .int .i64 0, .int .i64 0, .int .i64 0] 28)) (by simp)
    have z0 : w1.cell? ⟨w.heap.size, 0, none⟩ = some (.string ⟨#[]⟩) := cell_blk hb rfl
    have z1 : w1.cell? ⟨w.heap.size, 1, none⟩ = some (.int .i64 0) := cell_blk hb rfl
    have z2 : w1.cell? ⟨w.heap.size, 2, none⟩ = some (.int .i64 0) := cell_blk hb rfl
    have z3 : w1.cell? ⟨w.heap.size, 3, none⟩ = some (.int .i64 0) := cell_blk hb rfl
    have y0 : w1.frozen? ⟨w.heap.size, 0, none⟩ = false := free_blk hb 0
    have y1 : w1.frozen? ⟨w.heap.size, 1, none⟩ = false := free_blk hb 1
    have y2 : w1.frozen? ⟨w.heap.size, 2, none⟩ = false := free_blk hb 2
    have y3 : w1.frozen? ⟨w.heap.size, 3, none⟩ = false := free_blk hb 3
    have hwl := lt_of_block hb
    have HT := Lib.hid (And.intro T1 hb)
    clear hb T1 t1 t0
    go_wp2_with fail
    obtain ⟨T1, hb⟩ := HT.out
    have q1 := ((Touch.refl [] _).alloc (.cells #[.string ⟨#[]⟩, .int .i64 0, .int .i64 0, .int .i64 0] 28)).blk (set4 hb rfl (.string ⟨#[]⟩) (.int .i64 0) (.int .i64 0) (.int .i64 0)) (by simp)
    have q2 := (((((Touch.refl [w.heap.size] w1).setCell (p := ⟨w.heap.size, 0, none⟩) (.inl (by simp)) (.string ⟨#[]⟩)).setCell (p := ⟨w.heap.size, 1, none⟩) (.inl (by simp)) (.int .i64 0)).setCell (p := ⟨w.heap.size, 2, none⟩) (.inl (by simp)) (.int .i64 0)).setCell (p := ⟨w.heap.size, 3, none⟩) (.inl (by simp)) (.int .i64 0)).alloc (.cells #[.string ⟨#[]⟩, .int .i64 0, .int .i64 0, .int .i64 0] 28)
    refine bodyPost_ret (results_cell_two rfl _ _ w.heap.size _ _ _ _ rfl q1 Try.underlying28 rfl rfl) rfl ⟨rfl, ?_⟩
    have T2 := T1.trans q2 (fp := []) (fun b hb => .inr (by simp at hb; omega))
    exact ⟨fp, Hq.out.touch0 T2, T2.mono (by simp), fun b hb => .inl hb⟩
  · have hv : firstV (y :: L) = .tuple #[itV y, .bool true] := rfl
    rw [hv] at Hf ⊢
    unfold itV at *
    have hlt := h.lt
    have hok : y.Ok ∧ dropQ (y :: L) y.asset y.index = L := by
      obtain ⟨mb, A, c, es, kvs, rfl, hh⟩ := h
      exact ⟨hh.ok y (by simp), dropQ_head hh.ord.parts⟩
    obtain ⟨hok, hdq⟩ := hok
    have hhas : hasQ (y :: L) y.asset y.index = true := by simp [hasQ, QE.is]
    have Hd := Lib.hid (fun W (hW : QIs W g fp (y :: L) p) => drop_any g fp (y :: L) p y.asset y.index hok.t hok.i.1 hok.i.2 W hW)
    rw [hhas, hdq] at Hd
    have Hq := Lib.hid h
    have Hlt := Lib.hid hlt
    clear h h0 hok hdq hhas hlt
    unfold partV at Hd
    go_enter Try.func10, Try.ntmps10
    go_wp2_with fail
    refine Hf.out.mono ?_
    rintro e w1 ⟨rfl, t1⟩
    have T1 := t0.trans0 t1
    have hb := t1.blk (heap_alloc_new w (.cells #[.string ⟨#[]⟩, .int .i64 0, .int .i64 0, .int .i64 0] 28)) (by simp)
    have hwl := lt_of_block hb
    have HT := Lib.hid (And.intro T1 hb)
    clear hb T1 t1 t0
    go_wp2_with fail
    have ta := (Touch.refl [] w1).alloc (.cells #[.string y.asset, .int .i64 y.index, .int .i64 y.due, .int .i64 y.rank] 28)
    refine (Hd.out _ (Hq.out.touch0 (HT.out.1.trans0 ta))).mono ?_
    rintro e w2 ⟨rfl, fp', hq2, t2, hf2⟩
    have hbx := ta.blk HT.out.2 (by simp)
    have hr2 := t2.blk hbx (fun hm => by have := Hlt.out _ hm; omega)
    have hx2 := t2.blk (heap_alloc_new w1 (.cells #[.string y.asset, .int .i64 y.index, .int .i64 y.due, .int .i64 y.rank] 28)) (fun hm => by have := Hlt.out _ hm; omega)
    have z0 : w2.cell? ⟨w.heap.size, 0, none⟩ = some (.string ⟨#[]⟩) := cell_blk hr2 rfl
    have z1 : w2.cell? ⟨w.heap.size, 1, none⟩ = some (.int .i64 0) := cell_blk hr2 rfl
    have z2 : w2.cell? ⟨w.heap.size, 2, none⟩ = some (.int .i64 0) := cell_blk hr2 rfl
    have z3 : w2.cell? ⟨w.heap.size, 3, none⟩ = some (.int .i64 0) := cell_blk hr2 rfl
    have y0 : w2.frozen? ⟨w.heap.size, 0, none⟩ = false := free_blk hr2 0
    have y1 : w2.frozen? ⟨w.heap.size, 1, none⟩ = false := free_blk hr2 1
    have y2 : w2.frozen? ⟨w.heap.size, 2, none⟩ = false := free_blk hr2 2
    have y3 : w2.frozen? ⟨w.heap.size, 3, none⟩ = false := free_blk hr2 3
    have x0 : w2.cell? ⟨w1.heap.size, 0, none⟩ = some (.string y.asset) := cell_blk hx2 rfl
    have x1 : w2.cell? ⟨w1.heap.size, 1, none⟩ = some (.int .i64 y.index) := cell_blk hx2 rfl
    have x2 : w2.cell? ⟨w1.heap.size, 2, none⟩ = some (.int .i64 y.due) := cell_blk hx2 rfl
    have x3 : w2.cell? ⟨w1.heap.size, 3, none⟩ = some (.int .i64 y.rank) := cell_blk hx2 rfl
    have T2 : Touch fp w w2 := ((HT.out.1.trans0 ta).mono (by simp)).trans t2 (fun b hb => .inl hb)
    have hsz : w.heap.size ≤ (w1.alloc (.cells #[.string y.asset, .int .i64 y.index, .int .i64 y.due, .int .i64 y.rank] 28)).heap.size := by rw [World.size_alloc]; omega
    have HT2 := Lib.hid (And.intro T2 (And.intro hq2 (And.intro hf2 (And.intro hr2 hsz))))
    clear hbx hr2 hx2 T2 t2 hq2 hf2 ta hsz
    go_wp2_with fail
    obtain ⟨T2, hq2, hf2, hr2, hsz⟩ := HT2.out
    have q1 := set4 hr2 rfl (.string y.asset) (.int .i64 y.index) (.int .i64 y.due) (.int .i64 y.rank)
    have q2 := ((((Touch.refl [w.heap.size] w2).setCell (p := ⟨w.heap.size, 0, none⟩) (.inl (by simp)) (.string y.asset)).setCell (p := ⟨w.heap.size, 1, none⟩) (.inl (by simp)) (.int .i64 y.index)).setCell (p := ⟨w.heap.size, 2, none⟩) (.inl (by simp)) (.int .i64 y.due)).setCell (p := ⟨w.heap.size, 3, none⟩) (.inl (by simp)) (.int .i64 y.rank)
    refine bodyPost_ret (results_cell_two rfl _ _ w.heap.size _ _ _ _ rfl q1 Try.underlying28 rfl rfl) rfl ⟨rfl, fp', ?_, T2.trans q2 (fun b hb => .inr (by simp at hb; omega)), fun b hb => ?_⟩
    · refine hq2.touch q2 (fun b hb hm => ?_)
      have hbe : b = w.heap.size := by simpa using hm
      subst hbe
      rcases hf2 _ hb with h1 | h1
      · have := Hlt.out _ h1; omega
      · rw [World.size_alloc] at h1; omega
    · rcases hf2 b hb with h1 | h1
      · exact .inl h1
      · right; omega
end Go.Proofs.Ythhjioeipjnjmaa
