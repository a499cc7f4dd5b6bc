/- The queue's Has; the document's items: ref, Drop, Put, same: the walks. For every lists. -/
import Derived.Test.YthhjioeipjnjmaaQueZ
namespace Go.Proofs.Ythhjioeipjnjmaa
open Go.RowKit

theorem refItem_lits (d : Nat) (x : QE) (hx : x.Ok) : Try.prog.keyLits (d + 3) 65 [.string x.asset, .int .i64 x.index, .int .i64 x.due, .int .i64 x.rank] = some [.string x.asset.data.toList, .int .i64 x.index, .int .i64 x.due, .int .i64 x.rank] := by
  have h0 := wf_i64 hx.i.1 hx.i.2
  have h1 := wf_i64 hx.d.1 hx.d.2
  have h2 := wf_i64 hx.r.1 hx.r.2
  have h3 := hx.t
  have hc : Try.prog.cellsOf 65 = 4 := by kernel_rfl
  simp [Program.keyLits, Try.underlying65, Try.underlying9, Try.underlying3, hc, str_cells, int_cells, h0, h1, h2, h3]
theorem refItem_at : Try.prog.keyTypeAt 5 65 = true := by kernel_rfl
set_option maxRecDepth 20000 in
theorem refItem_formed (x : QE) : (itV x).formed Try.prog 65 = true := by
  kernel_rfl
set_option maxRecDepth 20000 in
theorem eq_refItem (x : QE) (hx : x.Ok) (w : World) : (Op.equalIn 9999 65 (itV x) (itV x)).run Try.prog w = .ok true w := by
  have hlx := refItem_lits 2 x hx
  obtain ⟨r, hr, hiff⟩ := run_equalIn_deep (P := Try.prog) 9994 5 65 refItem_at w 5 5 (itV x) (itV x) _ _ (refItem_formed x) (refItem_formed x) hlx hlx
  rw [hr, hiff.2 rfl]

set_option maxRecDepth 20000 in
theorem refOf_any (x : QE) (w : World) : Calls Try.prog 25 #[itV x] w fun e w' => e = .returned (itV x) ∧ Touch [] w w' := by
  unfold itV
  go_enter Try.func25, Try.ntmps25
  go_wp2
  go_returns
  exact ⟨rfl, ((Touch.refl [] w).alloc _).alloc _⟩

/-- what Has tells -/
def hasV (L : List QE) (a : ByteArray) (i : Int) : Value := match L.find? (fun e => decide (e.is a i)) with | some e => .tuple #[itV e, .bool true] | none => .tuple #[noIt, .bool false]

set_option maxRecDepth 20000 in
set_option maxHeartbeats 3200000 in
theorem has_any (g : Nat) (fp : List Nat) (L : List QE) (p : Nat) (a : ByteArray) (i : Int) (ha : a.size ≤ maxLen) (hi1 : -9223372036854775808 ≤ i) (hi2 : i ≤ 9223372036854775807) (w : World) (h : QIs w g fp L p) :
    Calls Try.prog 27 #[.pointer (some ⟨g, 0, none⟩), partV a i] w fun e w' => e = .returned (hasV L a i) ∧ Touch [] w w' := by
  obtain ⟨mb, A, c, es, kvs, rfl, h⟩ := h
  obtain ⟨kl, hkey⟩ := part_key a i ha hi1 hi2
  have hbl := lt_of_block h.hp.blk
  have t0 := ((Touch.refl [] w).alloc (.cells #[.string a, .int .i64 i] 26)).alloc (.cells #[.string ⟨#[]⟩, .int .i64 0, .int .i64 0, .int .i64 0] 28)
  have hp0 := ((Touch.refl [] (w.alloc (.cells #[.string a, .int .i64 i] 26))).alloc (.cells #[.string ⟨#[]⟩, .int .i64 0, .int .i64 0, .int .i64 0] 28)).blk (heap_alloc_new w (.cells #[.string a, .int .i64 i] 26)) (by simp)
  have hr0 := heap_alloc_new (w.alloc (.cells #[.string a, .int .i64 i] 26)) (.cells #[.string ⟨#[]⟩, .int .i64 0, .int .i64 0, .int .i64 0] 28)
  rw [World.size_alloc] at hr0
  obtain ⟨W, hW⟩ : ∃ W, W = (w.alloc (.cells #[.string a, .int .i64 i] 26)).alloc (.cells #[.string ⟨#[]⟩, .int .i64 0, .int .i64 0, .int .i64 0] 28) := ⟨_, rfl⟩
  rw [← hW] at t0 hp0 hr0
  have hh2 := h.hp.touch0 t0
  have c1 : W.cell? ⟨g, 1, none⟩ = some (.map (some mb)) := cell_blk hh2.blk rfl
  have e0 : W.cell? ⟨w.heap.size, 0, none⟩ = some (.string a) := cell_blk hp0 rfl
  have e1 : W.cell? ⟨w.heap.size, 1, none⟩ = some (.int .i64 i) := cell_blk hp0 rfl
  have HW := Lib.hid hW
  have HT := Lib.hid (And.intro t0 hr0)
  by_cases hm : ∃ e ∈ L, e.is a i
  · obtain ⟨k, hk, hki⟩ := h.find hm
    have hmem : (partV a i, ptrV es[k].1) ∈ kvs := by
      have := h.km.mem_iff.2 (kvE_mem hk)
      unfold kvE at this
      rw [hki.1, hki.2] at this
      exact this
    have hv : hasV L a i = .tuple #[itV es[k].2, .bool true] := by
      have hin : es[k].2 ∈ L := h.perm.mem_iff.1 (List.mem_map.2 ⟨_, List.getElem_mem hk, rfl⟩)
      have huniq : ∀ e ∈ L, e.is a i → e = es[k].2 := fun e he hei => by
        have hpp := h.ord.parts
        obtain ⟨x, hx, hxe⟩ := List.getElem_of_mem he
        obtain ⟨y, hy, hye⟩ := List.getElem_of_mem hin
        have hpw := List.pairwise_iff_getElem.1 hpp
        rcases Nat.lt_trichotomy x y with h1 | h1 | h1
        · exact absurd ⟨by rw [hxe, hye, hei.1, hki.1], by rw [hxe, hye, hei.2, hki.2]⟩ (hpw x y hx hy h1)
        · subst h1; rw [← hxe, hye]
        · exact absurd ⟨by rw [hxe, hye, hei.1, hki.1], by rw [hxe, hye, hei.2, hki.2]⟩ (hpw y x hy hx h1)
      unfold hasV
      rcases hf : L.find? (fun e => decide (e.is a i)) with _ | e
      · rw [List.find?_eq_none] at hf
        exact absurd (by simpa using hki) (by simpa using hf _ hin)
      · have h1 := List.find?_some hf
        have h2 := List.mem_of_find?_eq_some hf
        rw [hf]
        dsimp only
        rw [huniq e h2 (by simpa using h1)]
    rw [hv]
    have hes := h.hp.es_.touch0 t0
    obtain ⟨b, hb⟩ : ∃ b, b = es[k].1 := ⟨_, rfl⟩
    obtain ⟨q, hq⟩ : ∃ q, q = es[k].2 := ⟨_, rfl⟩
    have k0 : W.cell? ⟨b, 0, none⟩ = some (.string q.asset) := by rw [hb, hq]; exact hes.cell k hk 0 _ rfl
    have k1 : W.cell? ⟨b, 1, none⟩ = some (.int .i64 q.index) := by rw [hb, hq]; exact hes.cell k hk 1 _ rfl
    have k2 : W.cell? ⟨b, 2, none⟩ = some (.int .i64 q.due) := by rw [hb, hq]; exact hes.cell k hk 2 _ rfl
    have k3 : W.cell? ⟨b, 3, none⟩ = some (.int .i64 q.rank) := by rw [hb, hq]; exact hes.cell k hk 3 _ rfl
    have hbw : b < w.heap.size := by rw [hb]; exact h.hp.es_.lt _ (mem_efp.2 (.inr ⟨_, List.getElem_mem hk, rfl⟩))
    have hl2 : ∀ n, (Instr.lookup 49 (.map (some mb)) (partV a i) true).run Try.prog (W.drewN n) = .ok (.tuple #[ptrV b, .bool true]) (W.drewN n) := fun n => by
      rw [hb]
      exact (h.mp.touch (t0.drewN n) (by simp)).hit part_law Try.underlying49 hkey hmem true
    rw [← hq]
    have z0 : W.cell? ⟨w.heap.size + 1, 0, none⟩ = some (.string ⟨#[]⟩) := cell_blk hr0 rfl
    have z1 : W.cell? ⟨w.heap.size + 1, 1, none⟩ = some (.int .i64 0) := cell_blk hr0 rfl
    have z2 : W.cell? ⟨w.heap.size + 1, 2, none⟩ = some (.int .i64 0) := cell_blk hr0 rfl
    have z3 : W.cell? ⟨w.heap.size + 1, 3, none⟩ = some (.int .i64 0) := cell_blk hr0 rfl
    have y0 : W.frozen? ⟨w.heap.size + 1, 0, none⟩ = false := free_blk hr0 0
    have y1 : W.frozen? ⟨w.heap.size + 1, 1, none⟩ = false := free_blk hr0 1
    have y2 : W.frozen? ⟨w.heap.size + 1, 2, none⟩ = false := free_blk hr0 2
    have y3 : W.frozen? ⟨w.heap.size + 1, 3, none⟩ = false := free_blk hr0 3
    have hbr : b ≠ w.heap.size + 1 := by omega
    clear hW h hh2 hes hb hq hmem hkey hv hm hki hk t0 hp0 hr0
    unfold partV ptrV itV at *
    go_enter Try.func27, Try.ntmps27
    go_wp2_with fail
    rw [← HW.out]
    go_quiet (fail)
    go_wp2_with fail
    have q1 := set4 (((Touch.refl [] W).drewN nq).blk HT.out.2 (by simp)) rfl (.string q.asset) (.int .i64 q.index) (.int .i64 q.due) (.int .i64 q.rank)
    have q2 := ((((Touch.refl [w.heap.size + 1] (W.drewN nq)).setCell (p := ⟨w.heap.size + 1, 0, none⟩) (.inl (by simp)) (.string q.asset)).setCell (p := ⟨w.heap.size + 1, 1, none⟩) (.inl (by simp)) (.int .i64 q.index)).setCell (p := ⟨w.heap.size + 1, 2, none⟩) (.inl (by simp)) (.int .i64 q.due)).setCell (p := ⟨w.heap.size + 1, 3, none⟩) (.inl (by simp)) (.int .i64 q.rank)
    refine bodyPost_ret (results_cell_two rfl _ _ (w.heap.size + 1) _ _ _ _ rfl q1 Try.underlying28 rfl rfl) rfl ⟨rfl, (HT.out.1.drewN nq).trans q2 (fun b hb => .inr (by simp at hb; omega))⟩
  · have hno : ∀ e ∈ L, ¬ e.is a i := fun e he k => hm ⟨e, he, k⟩
    have hv : hasV L a i = .tuple #[noIt, .bool false] := by
      unfold hasV
      rw [List.find?_eq_none.2 (fun e he => by simpa using hno e he)]
    rw [hv]
    have hl2 : ∀ n, (Instr.lookup 49 (.map (some mb)) (partV a i) true).run Try.prog (W.drewN n) = .ok (.tuple #[.pointer none, .bool false]) (W.drewN n) := fun n =>
      (h.mp.touch (t0.drewN n) (by simp)).miss part_law Try.underlying49 hkey (h.miss hno) (.pointer none) (Try.zeroValue57 (W.drewN n)) true
    have z0 : W.cell? ⟨w.heap.size + 1, 0, none⟩ = some (.string ⟨#[]⟩) := cell_blk hr0 rfl
    have z1 : W.cell? ⟨w.heap.size + 1, 1, none⟩ = some (.int .i64 0) := cell_blk hr0 rfl
    have z2 : W.cell? ⟨w.heap.size + 1, 2, none⟩ = some (.int .i64 0) := cell_blk hr0 rfl
    have z3 : W.cell? ⟨w.heap.size + 1, 3, none⟩ = some (.int .i64 0) := cell_blk hr0 rfl
    have y0 : W.frozen? ⟨w.heap.size + 1, 0, none⟩ = false := free_blk hr0 0
    have y1 : W.frozen? ⟨w.heap.size + 1, 1, none⟩ = false := free_blk hr0 1
    have y2 : W.frozen? ⟨w.heap.size + 1, 2, none⟩ = false := free_blk hr0 2
    have y3 : W.frozen? ⟨w.heap.size + 1, 3, none⟩ = false := free_blk hr0 3
    clear hW h hh2 hkey hv hm hno t0 hp0 hr0
    unfold partV noIt at *
    go_enter Try.func27, Try.ntmps27
    go_wp2_with fail
    rw [← HW.out]
    go_quiet (fail)
    go_wp2_with fail
    have q1 := set4 (((Touch.refl [] W).drewN nq).blk HT.out.2 (by simp)) rfl (.string ⟨#[]⟩) (.int .i64 0) (.int .i64 0) (.int .i64 0)
    have q2 := ((((Touch.refl [w.heap.size + 1] (W.drewN nq)).setCell (p := ⟨w.heap.size + 1, 0, none⟩) (.inl (by simp)) (.string ⟨#[]⟩)).setCell (p := ⟨w.heap.size + 1, 1, none⟩) (.inl (by simp)) (.int .i64 0)).setCell (p := ⟨w.heap.size + 1, 2, none⟩) (.inl (by simp)) (.int .i64 0)).setCell (p := ⟨w.heap.size + 1, 3, none⟩) (.inl (by simp)) (.int .i64 0)
    refine bodyPost_ret (results_cell_two rfl _ _ (w.heap.size + 1) _ _ _ _ rfl q1 Try.underlying28 rfl rfl) rfl ⟨rfl, (HT.out.1.drewN nq).trans q2 (fun b hb => .inr (by simp at hb; omega))⟩
end Go.Proofs.Ythhjioeipjnjmaa
