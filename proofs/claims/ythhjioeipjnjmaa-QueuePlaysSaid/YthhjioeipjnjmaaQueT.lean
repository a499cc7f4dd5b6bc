/- The queue: what its memory holds; Drop: the walk. For every queue. -/
import Derived.Test.YthhjioeipjnjmaaQueQ
namespace Go.Proofs.Ythhjioeipjnjmaa
open Go.RowKit

/-- numbers within bounds, the text one that a map bears -/
structure QE.Ok (e : QE) : Prop where
  t : e.asset.size ≤ maxLen
  i : -9223372036854775808 ≤ e.index ∧ e.index ≤ 9223372036854775807
  d : -9223372036854775808 ≤ e.due ∧ e.due ≤ 9223372036854775807
  r : -9223372036854775808 ≤ e.rank ∧ e.rank ≤ 9223372036854775807

def kvE (e : Nat × QE) : Value × Value := (partV e.2.asset e.2.index, ptrV e.1)
/-- a queue's parts: block, map, row, entries; the list in order -/
structure QMem (w : World) (g mb : Nat) (A : Option Addr) (c : Nat) (es : ES) (kvs : List (Value × Value)) (L : List QE) (p : Nat) : Prop where
  hp : HpAt w g A c es (.map (some mb)) (.int .i64 p)
  mp : MapAt Try.prog 26 w mb kvs
  km : kvs.Perm (es.map kvE)
  mg : mb ≠ g
  me : mb ∉ efp A es
  heap : Heap ltE es es.length
  perm : (es.map (·.2)).Perm L
  ord : InOrd L p
  ok : ∀ e ∈ L, e.Ok
  len : L.length ≤ 100000
def qfp (g mb : Nat) (A : Option Addr) (es : ES) : List Nat := g :: mb :: efp A es
def QIs (w : World) (g : Nat) (fp : List Nat) (L : List QE) (p : Nat) : Prop := ∃ mb A c es kvs, fp = qfp g mb A es ∧ QMem w g mb A c es kvs L p
def QStep (g : Nat) (fp : List Nat) (L : List QE) (p : Nat) (w w' : World) : Prop := ∃ fp', QIs w' g fp' L p ∧ Touch fp w w' ∧ ∀ b ∈ fp', b ∈ fp ∨ w.heap.size ≤ b

theorem QMem.elen {w : World} {g mb : Nat} {A : Option Addr} {c : Nat} {es : ES} {kvs : List (Value × Value)} {L : List QE} {p : Nat} (h : QMem w g mb A c es kvs L p) : es.length = L.length := by
  have := h.perm.length_eq
  rwa [List.length_map] at this
theorem QIs.lt {w : World} {g : Nat} {fp : List Nat} {L : List QE} {p : Nat} (h : QIs w g fp L p) : ∀ b ∈ fp, b < w.heap.size := by
  obtain ⟨mb, A, c, es, kvs, rfl, q⟩ := h
  intro b hb
  rcases List.mem_cons.1 hb with rfl | hb
  · exact lt_of_block q.hp.blk
  · rcases List.mem_cons.1 hb with rfl | hb
    · exact q.mp.lt
    · exact q.hp.es_.lt b hb
theorem QIs.touch0 {w w' : World} {g : Nat} {fp : List Nat} {L : List QE} {p : Nat} (h : QIs w g fp L p) (ht : Touch [] w w') : QIs w' g fp L p := by
  obtain ⟨mb, A, c, es, kvs, rfl, q⟩ := h
  exact ⟨mb, A, c, es, kvs, rfl, ⟨q.hp.touch0 ht, q.mp.touch ht (by simp), q.km, q.mg, q.me, q.heap, q.perm, q.ord, q.ok, q.len⟩⟩
theorem QIs.touch {w w' : World} {g : Nat} {fp fp2 : List Nat} {L : List QE} {p : Nat} (h : QIs w g fp L p) (ht : Touch fp2 w w') (hd : ∀ b ∈ fp, b ∉ fp2) : QIs w' g fp L p := by
  obtain ⟨mb, A, c, es, kvs, rfl, q⟩ := h
  exact ⟨mb, A, c, es, kvs, rfl, ⟨q.hp.touch ht (hd g (by simp [qfp])) (fun b hb => hd b (by simp [qfp, hb])), q.mp.touch ht (hd mb (by simp [qfp])), q.km, q.mg, q.me, q.heap, q.perm, q.ord, q.ok, q.len⟩⟩
theorem QIs.blk {w : World} {g : Nat} {fp : List Nat} {L : List QE} {p : Nat} (h : QIs w g fp L p) : g < w.heap.size := by
  obtain ⟨mb, A, c, es, kvs, rfl, q⟩ := h
  exact lt_of_block q.hp.blk
theorem partV_inj {a b : ByteArray} {i j : Int} (h : partV a i = partV b j) : a = b ∧ i = j := by
  unfold partV at h
  injection h with h
  have := congrArg Array.toList h
  simp at this
  exact this
theorem heap_map {es : ES} (h : Heap ltE es es.length) : Heap ltQ (es.map (·.2)) (es.map (·.2)).length := by
  intro k h0 hk
  rw [List.length_map] at hk
  have := h k h0 hk
  unfold okAt ltE at this
  unfold okAt
  have hp := par_lt h0
  rw [getE _ _ (by simpa using hk), getE _ _ (show par k < (es.map (·.2)).length by rw [List.length_map]; omega), List.getElem_map, List.getElem_map]
  rw [getE _ _ hk, getE _ _ (by omega)] at this
  exact this
/-- the entry of a part -/
theorem QMem.find {w : World} {g mb : Nat} {A : Option Addr} {c : Nat} {es : ES} {kvs : List (Value × Value)} {L : List QE} {p : Nat} (h : QMem w g mb A c es kvs L p) {a : ByteArray} {i : Int} (hm : ∃ e ∈ L, e.is a i) :
    ∃ k, ∃ hk : k < es.length, es[k].2.is a i := by
  obtain ⟨e, he, h1⟩ := hm
  obtain ⟨x, hx, rfl⟩ := List.mem_map.1 (h.perm.mem_iff.2 he)
  obtain ⟨k, hk, rfl⟩ := List.getElem_of_mem hx
  exact ⟨k, hk, h1⟩
/-- one entry taken out of the heap -/
theorem QMem.out {w : World} {g mb : Nat} {A : Option Addr} {c : Nat} {es : ES} {kvs : List (Value × Value)} {L : List QE} {p : Nat} (h : QMem w g mb A c es kvs L p) (k : Nat) (hk : k < es.length) :
    ∃ es', (remL ltE es k).dropLast = es' ∧ es.Perm (es[k] :: es') ∧ Heap ltE es' es'.length ∧ (es'.map (·.2)).Perm (dropQ L es[k].2.asset es[k].2.index) := by
  obtain ⟨h1, h2, h3⟩ := remL_spec ordE es k hk h.heap
  have hl := remL_length ltE es k
  have hlast : remL ltE es k = (remL ltE es k).dropLast ++ [es[k]] := by
    have hne : remL ltE es k ≠ [] := by intro e; rw [e] at hl; simp at hl; omega
    conv => lhs; rw [← List.dropLast_concat_getLast hne]
    congr 2
    rw [List.getLast_eq_getElem]
    rw [getE _ _ (by omega), getE _ _ hk] at h2
    rw [← h2]
    congr 1; omega
  have hp1 : es.Perm (es[k] :: (remL ltE es k).dropLast) := by
    refine h3.symm.trans ?_
    conv => lhs; rw [hlast]
    exact List.perm_append_singleton _ _
  have hdl : (remL ltE es k).dropLast.length = es.length - 1 := by rw [List.length_dropLast, hl]
  refine ⟨_, rfl, hp1, fun j h0 hj => ?_, drop_perm h.perm h.ord.parts (e := es[k].2) ?_⟩
  · rw [hdl] at hj
    have hpj := par_lt h0
    have := h1 j h0 hj
    unfold okAt at this ⊢
    have hg : ∀ x, x < es.length - 1 → (remL ltE es k).dropLast[x]! = (remL ltE es k)[x]! := fun x hx => by
      rw [getE _ _ (by omega), getE _ _ (by omega), List.getElem_dropLast]
    rw [hg j hj, hg (par j) (by omega)]
    exact this
  · exact hp1.map (·.2)
theorem kvE_mem {es : ES} {k : Nat} (hk : k < es.length) : kvE es[k] ∈ es.map kvE := List.mem_map.2 ⟨_, List.getElem_mem hk, rfl⟩

set_option maxRecDepth 20000 in
set_option maxHeartbeats 3200000 in
theorem drop_hit (g mb : Nat) (A : Option Addr) (c : Nat) (es : ES) (kvs : List (Value × Value)) (L : List QE) (p : Nat) (a : ByteArray) (i : Int) (k : Nat) (hk : k < es.length) (hki : es[k].2.is a i) (w : World) (h : QMem w g mb A c es kvs L p) :
    Calls Try.prog 20 #[.pointer (some ⟨g, 0, none⟩), partV a i] w fun e w' => e = .returned (.bool true) ∧ QStep g (qfp g mb A es) (dropQ L a i) p w w' := by
  obtain ⟨es', hes', hpe, hheap, hpl⟩ := h.out k hk
  obtain ⟨ha, hi⟩ := hki
  rw [ha, hi] at hpl
  have hok : es[k].2.Ok := h.ok _ (h.perm.mem_iff.1 (List.mem_map.2 ⟨_, List.getElem_mem hk, rfl⟩))
  obtain ⟨kl, hkey⟩ := part_key a i (by rw [← ha]; exact hok.t) (by rw [← hi]; exact hok.i.1) (by rw [← hi]; exact hok.i.2)
  have hmem : (partV a i, ptrV es[k].1) ∈ kvs := by
    have := h.km.mem_iff.2 (kvE_mem hk)
    unfold kvE at this
    rw [ha, hi] at this
    exact this
  obtain ⟨l1, l2, hkv⟩ := List.append_of_mem hmem
  have hmp := h.mp
  have hlook := fun W (hW : MapAt Try.prog 26 W mb kvs) => hW.hit part_law Try.underlying49 hkey hmem true
  have a5 := h.hp.es_.cell k hk 5 _ rfl
  obtain ⟨n, hn⟩ : ∃ n, es.length = n + 1 := ⟨es.length - 1, by omega⟩
  have hbl := lt_of_block h.hp.blk
  have t0 := (Touch.refl [] w).alloc (.cells #[.string a, .int .i64 i] 26)
  have Hh := Lib.hid h
  have Hlook := Lib.hid hlook
  have Hes := Lib.hid (And.intro hes' (And.intro hpe (And.intro hheap hpl)))
  have Hkv := Lib.hid (And.intro hkv hkey)
  have Hn := Lib.hid hn
  obtain ⟨b0, hb0⟩ : ∃ b0, b0 = es[k].1 := ⟨_, rfl⟩
  rw [← hb0] at Hlook a5
  have Hb0 := Lib.hid hb0
  have Hki := Lib.hid (And.intro ha hi)
  clear h hlook hes' hpe hheap hpl hkv hkey hn hb0 hmem hok hmp ha hi
  unfold partV at *
  go_enter Try.func20, Try.ntmps20
  go_wp2_with fail
  obtain ⟨W, hW⟩ : ∃ W, W = w.alloc (.cells #[.string a, .int .i64 i] 26) := ⟨_, rfl⟩
  rw [← hW] at t0 ⊢
  have hh2 := Hh.out.hp.touch0 t0
  have c1 : W.cell? ⟨g, 1, none⟩ = some (.map (some mb)) := cell_blk hh2.blk rfl
  have e0 : W.cell? ⟨w.heap.size, 0, none⟩ = some (.string a) := by rw [hW]; exact cell_blk (heap_alloc_new w _) rfl
  have e1 : W.cell? ⟨w.heap.size, 1, none⟩ = some (.int .i64 i) := by rw [hW]; exact cell_blk (heap_alloc_new w _) rfl
  have hl2 := fun n => Hlook.out (W.drewN n) (Hh.out.mp.touch (t0.drewN n) (by simp))
  have HT := Lib.hid t0
  have HW := Lib.hid hW
  clear hW t0 hh2
  go_quiet (fail)
  unfold ptrV at *
  go_wp2_with fail
  have t1 := HT.out.drewN nq
  obtain ⟨W1, hW1⟩ : ∃ W1, W1 = W.drewN nq := ⟨_, rfl⟩
  have e10 : W1.cell? ⟨w.heap.size, 0, none⟩ = some (.string a) := by rw [hW1]; exact e0
  have e11 : W1.cell? ⟨w.heap.size, 1, none⟩ = some (.int .i64 i) := by rw [hW1]; exact e1
  rw [← hW1] at t1 ⊢
  have HT1 := Lib.hid t1
  clear hW1 hl2 c1 e0 e1
  refine wp_still_tail' 8 (by kernel_rfl) (by kernel_rfl) ?_
  intro w2 hw2
  have t2 := t1.drew
  rw [← hw2] at t2
  have b5 := t2.cell a5 (by simp)
  have e20 : w2.cell? ⟨w.heap.size, 0, none⟩ = some (.string a) := by rw [hw2]; exact e10
  have e21 : w2.cell? ⟨w.heap.size, 1, none⟩ = some (.int .i64 i) := by rw [hw2]; exact e11
  have hr := remove_any g A c es (.map (some mb)) (.int .i64 p) k n Hn.out (by have := Hn.out; omega) (by have h1 := Hn.out; have h2 := Hh.out.elen; have h3 := Hh.out.len; omega) w2 (Hh.out.hp.touch0 t2)
  unfold ifV at hr
  have Hr := Lib.hid hr
  have HT2 := Lib.hid t2
  clear hw2 t2 t1 hr e10 e11 HT1
  simp only [List.take_succ_cons, List.take_zero, List.drop_succ_cons, List.drop_zero]
  repeat still_step
  refine wpStill_nil ?_
  go_wp2_with fail
  refine Hr.out.mono ?_
  rintro e w3 ⟨⟨v3, rfl⟩, hh3, t3⟩
  go_wp2_with fail
  have hbn : w.heap.size ∉ g :: efp A es := by
    intro hm
    rcases List.mem_cons.1 hm with h1 | h1
    · have := lt_of_block Hh.out.hp.blk; omega
    · have := Hh.out.hp.es_.lt _ h1; omega
  have hbm : mb ∉ g :: efp A es := by
    intro hm
    rcases List.mem_cons.1 hm with h1 | h1
    · exact Hh.out.mg h1
    · exact Hh.out.me h1
  refine wp_still_tail' 5 (by kernel_rfl) (by kernel_rfl) ?_
  intro w4 hw4
  have t4 := (Touch.refl [] w3).drew
  rw [← hw4] at t4
  have hh4 := hh3.touch0 t4
  have c1 : w4.cell? ⟨g, 1, none⟩ = some (.map (some mb)) := cell_blk hh4.blk rfl
  have f0 : w4.cell? ⟨w.heap.size, 0, none⟩ = some (.string a) := t4.cell (t3.cell e20 hbn) (by simp)
  have f1 : w4.cell? ⟨w.heap.size, 1, none⟩ = some (.int .i64 i) := t4.cell (t3.cell e21 hbn) (by simp)
  have T4 : Touch (g :: efp A es) w w4 := ((HT2.out.mono (by simp)).trans t3 (fun b hb => .inl hb)).trans0 t4
  have hm4 : MapAt Try.prog 26 w4 mb kvs := Hh.out.mp.touch T4 hbm
  rw [Hkv.out.1] at hm4
  obtain ⟨w5, hdel, hm5, t5⟩ := hm4.del part_law Try.underlying49 Hkv.out.2 0
  have Hm5 := Lib.hid (And.intro hm5 t5)
  have HT4 := Lib.hid (And.intro T4 hh4)
  clear hm5 t5 T4 hh4 hm4 hw4 t4 t3 hh3 e20 e21
  simp only [List.take_succ_cons, List.take_zero, List.drop_succ_cons, List.drop_zero]
  repeat still_step
  refine wpStill_nil ?_
  go_wp2_with fail
  go_ret
  obtain ⟨hes', hpe, hheap, hpl⟩ := Hes.out
  obtain ⟨hm5, t5⟩ := Hm5.out
  obtain ⟨T4, hh4⟩ := HT4.out
  rw [hes'] at hh4
  have hsub : ∀ b, b ∈ efp A es' → b ∈ efp A es := fun b hb => by
    rcases mem_efp.1 hb with h1 | ⟨e, he, h1⟩
    · exact mem_efp.2 (.inl h1)
    · exact mem_efp.2 (.inr ⟨e, hpe.mem_iff.2 (List.mem_cons_of_mem _ he), h1⟩)
  have hh5 : HpAt w5 g A c es' (.map (some mb)) (.int .i64 p) := hh4.touch t5 (by simp; exact fun e => Hh.out.mg e.symm) (fun b hb hm => Hh.out.me ((by simpa using hm : b = mb) ▸ hsub b hb))
  have hkm : (l1 ++ l2).Perm (es'.map kvE) := by
    have h1 := Hh.out.km
    rw [Hkv.out.1] at h1
    have h2 := (List.perm_middle.symm.trans h1).trans (hpe.map kvE)
    have h3 : kvE es[k] = (partV a i, ptrV es[k].1) := by
      unfold kvE
      rw [Hki.out.1, Hki.out.2]
    rw [List.map_cons, h3] at h2
    exact (List.perm_cons (partV a i, ptrV es[k].1)).1 h2
  refine ⟨rfl, qfp g mb A es', ⟨mb, A, c, es', l1 ++ l2, rfl, ⟨hh5, hm5, hkm, Hh.out.mg, fun hm => Hh.out.me (hsub _ hm), hheap, hpl, Hh.out.ord.drop a i, fun e he => Hh.out.ok e (mem_dropQ.1 he).1, ?_⟩⟩, ?_, fun b hb => .inl ?_⟩
  · exact Nat.le_trans (List.length_filter_le _ _) Hh.out.len
  · refine (T4.mono (fun b hb => .inl ?_)).trans t5 (fun b hb => .inl ?_)
    · rcases List.mem_cons.1 hb with h1 | h1
      · simp [qfp, h1]
      · simp [qfp, h1]
    · simp at hb; simp [qfp, hb]
  · simp only [qfp, List.mem_cons] at hb ⊢
    rcases hb with h1 | h1 | h1
    · exact .inl h1
    · exact .inr (.inl h1)
    · exact .inr (.inr (hsub b h1))
end Go.Proofs.Ythhjioeipjnjmaa
