/- bywashlaw24.step at First and at Take: the walks. For every queue. -/
import Derived.Test.YthhjioeipjnjmaaPlayE
namespace Go.Proofs.Ythhjioeipjnjmaa
open Go.RowKit

def zeQ : QE := ⟨⟨#[]⟩, 0, 0, 0, 0⟩
theorem zeQ_ok : zeQ.Ok := ⟨by show (0 : Nat) ≤ maxLen; omega, ⟨by decide, by decide⟩, ⟨by decide, by decide⟩, ⟨by decide, by decide⟩⟩
theorem eq_zero (W : World) : (Op.equalIn 9999 28 (.agg #[.string ⟨#[]⟩, .int .i64 0, .int .i64 0, .int .i64 0]) (.agg #[.string ⟨#[]⟩, .int .i64 0, .int .i64 0, .int .i64 0])).run Try.prog W = .ok true W := by
  have := eq_item zeQ zeQ zeQ_ok zeQ_ok W
  rw [sameI_same] at this
  exact this

set_option maxRecDepth 20000 in
set_option maxHeartbeats 3200000 in
theorem step_first_nil (g : Nat) (fp : List Nat) (p : Nat) (A : Option Addr) (c : Nat) (o : QOp) (hk : o.kind = 3) (w : World) (h : StepPre g fp ([] : List QE) p A c w) :
    Calls Try.prog 15 #[.pointer (some ⟨g, 0, none⟩), .slice A ([] : List QE).length c, opV o] w (StepPost g fp ([] : List QE) p w) := by
  obtain ⟨kd, nw, ms, x⟩ := o
  simp only at hk
  subst hk
  have ta := ((Touch.refl [] w).alloc (.cells #[.int .i64 3, .int .i64 nw, .int .i64 ms, .string x.asset, .int .i64 x.index, .int .i64 x.due, .int .i64 x.rank] 43)).alloc (.cells #[.string x.asset, .int .i64 x.index] 26)
  have hbx := ((Touch.refl [] (w.alloc (.cells #[.int .i64 3, .int .i64 nw, .int .i64 ms, .string x.asset, .int .i64 x.index, .int .i64 x.due, .int .i64 x.rank] 43))).alloc (.cells #[.string x.asset, .int .i64 x.index] 26)).blk (heap_alloc_new w (.cells #[.int .i64 3, .int .i64 nw, .int .i64 ms, .string x.asset, .int .i64 x.index, .int .i64 x.due, .int .i64 x.rank] 43)) (by simp)
  have hfirst := first_any g fp ([] : List QE) p _ (h.hq.touch0 ta)
  have hfv : firstV ([] : List QE) = .tuple #[.agg #[.string ⟨#[]⟩, .int .i64 0, .int .i64 0, .int .i64 0], .bool false] := rfl
  rw [hfv] at hfirst
  have Hf := Lib.hid hfirst
  have H := Lib.hid (And.intro h (And.intro ta hbx))
  have hlt := h.hq.lt
  have Hlt := Lib.hid hlt
  clear h ta hbx hlt hfirst hfv
  unfold opV
  go_enter Try.func15, Try.ntmps15
  go_wp2_with fail
  refine Hf.out.mono ?_
  rintro e w3 ⟨rfl, t3⟩
  have hb3 := t3.blk H.out.2.2 (by simp)
  have tb := (Touch.refl [] w3).alloc (.cells #[.string ⟨#[]⟩, .int .i64 0, .int .i64 0, .int .i64 0] 28)
  have hbi := heap_alloc_new w3 (.cells #[.string ⟨#[]⟩, .int .i64 0, .int .i64 0, .int .i64 0] 28)
  obtain ⟨W, hW⟩ : ∃ W, W = w3.alloc (.cells #[.string ⟨#[]⟩, .int .i64 0, .int .i64 0, .int .i64 0] 28) := ⟨_, rfl⟩
  have HW := Lib.hid hW
  rw [← hW] at tb hbi
  have k0 : w3.cell? ⟨w.heap.size, 0, none⟩ = some (.int .i64 3) := cell_blk hb3 rfl
  have H3 := Lib.hid (And.intro t3 (And.intro tb (And.intro hbi (tb.blk hb3 (by simp)))))
  have hws := t3.size
  have hwA := H.out.2.1.size
  rw [World.size_alloc, World.size_alloc] at hws
  have hwl : w.heap.size < w3.heap.size := by omega
  have Hws := Lib.hid hws
  clear t3 tb hbi hb3 hW hwA hws
  go_wp2_with fail
  try rw [← HW.out]
  obtain ⟨t3, tb, hbi, hbo⟩ := H3.out
  have hzi := hbi
  have hzo := hbo
  have b0 : W.cell? ⟨w.heap.size, 0, none⟩ = some (.int .i64 3) := cell_blk hzo rfl
  have i0 : W.cell? ⟨w3.heap.size, 0, none⟩ = some (.string ⟨#[]⟩) := cell_blk hzi rfl
  have i1 : W.cell? ⟨w3.heap.size, 1, none⟩ = some (.int .i64 0) := cell_blk hzi rfl
  have i2 : W.cell? ⟨w3.heap.size, 2, none⟩ = some (.int .i64 0) := cell_blk hzi rfl
  have i3 : W.cell? ⟨w3.heap.size, 3, none⟩ = some (.int .i64 0) := cell_blk hzi rfl
  clear hzi hzo t3 tb hbi hbo k0
  have heq := eq_zero
  go_quiet (fail)
  go_wp2_with fail
  go_ret2
  obtain ⟨h, ta, hbx⟩ := H.out
  obtain ⟨t3, tb, hbi, hbo⟩ := H3.out
  have T := (((ta.trans0 t3).trans0 tb).drewN nq)
  exact ⟨A, c, [], p, fp, rfl, h.hq.touch0 T, h.hr.touch0 T, h.hc, h.hm, fun b hb => ⟨(h.ha b hb).1, Nat.lt_of_lt_of_le (h.ha b hb).2 T.size⟩, T.mono (by simp), fun b hb => .inl hb, by omega, by simp⟩

set_option maxRecDepth 20000 in
set_option maxHeartbeats 3200000 in
theorem step_first_cons (g : Nat) (fp : List Nat) (y : QE) (L : List QE) (p : Nat) (A : Option Addr) (c : Nat) (o : QOp) (hk : o.kind = 3) (w : World) (h : StepPre g fp (y :: L) p A c w) :
    Calls Try.prog 15 #[.pointer (some ⟨g, 0, none⟩), .slice A (y :: L).length c, opV o] w (StepPost g fp (y :: L) p w) := by
  obtain ⟨kd, nw, ms, x⟩ := o
  simp only at hk
  subst hk
  have ta := ((Touch.refl [] w).alloc (.cells #[.int .i64 3, .int .i64 nw, .int .i64 ms, .string x.asset, .int .i64 x.index, .int .i64 x.due, .int .i64 x.rank] 43)).alloc (.cells #[.string x.asset, .int .i64 x.index] 26)
  have hbx := ((Touch.refl [] (w.alloc (.cells #[.int .i64 3, .int .i64 nw, .int .i64 ms, .string x.asset, .int .i64 x.index, .int .i64 x.due, .int .i64 x.rank] 43))).alloc (.cells #[.string x.asset, .int .i64 x.index] 26)).blk (heap_alloc_new w (.cells #[.int .i64 3, .int .i64 nw, .int .i64 ms, .string x.asset, .int .i64 x.index, .int .i64 x.due, .int .i64 x.rank] 43)) (by simp)
  have hfirst := first_any g fp (y :: L) p _ (h.hq.touch0 ta)
  have hfv : firstV (y :: L) = .tuple #[.agg #[.string y.asset, .int .i64 y.index, .int .i64 y.due, .int .i64 y.rank], .bool true] := rfl
  rw [hfv] at hfirst
  have Hf := Lib.hid hfirst
  have H := Lib.hid (And.intro h (And.intro ta hbx))
  have hlt := h.hq.lt
  have Hlt := Lib.hid hlt
  have hyok : y.Ok := h.hq.ord.2 y (by simp)
  have Hyok := Lib.hid hyok
  clear hyok
  clear h ta hbx hlt hfirst hfv
  unfold opV
  go_enter Try.func15, Try.ntmps15
  go_wp2_with fail
  refine Hf.out.mono ?_
  rintro e w3 ⟨rfl, t3⟩
  have hb3 := t3.blk H.out.2.2 (by simp)
  have tb := (Touch.refl [] w3).alloc (.cells #[.string y.asset, .int .i64 y.index, .int .i64 y.due, .int .i64 y.rank] 28)
  have hbi := heap_alloc_new w3 (.cells #[.string y.asset, .int .i64 y.index, .int .i64 y.due, .int .i64 y.rank] 28)
  obtain ⟨W, hW⟩ : ∃ W, W = w3.alloc (.cells #[.string y.asset, .int .i64 y.index, .int .i64 y.due, .int .i64 y.rank] 28) := ⟨_, rfl⟩
  have HW := Lib.hid hW
  rw [← hW] at tb hbi
  have k0 : w3.cell? ⟨w.heap.size, 0, none⟩ = some (.int .i64 3) := cell_blk hb3 rfl
  have H3 := Lib.hid (And.intro t3 (And.intro tb (And.intro hbi (tb.blk hb3 (by simp)))))
  have hws := t3.size
  have hwA := H.out.2.1.size
  rw [World.size_alloc, World.size_alloc] at hws
  have hwl : w.heap.size < w3.heap.size := by omega
  have Hws := Lib.hid hws
  clear t3 tb hbi hb3 hW hwA hws
  go_wp2_with fail
  try rw [← HW.out]
  obtain ⟨t3, tb, hbi, hbo⟩ := H3.out
  have hzi := hbi
  have hzo := hbo
  have b0 : W.cell? ⟨w.heap.size, 0, none⟩ = some (.int .i64 3) := cell_blk hzo rfl
  have i0 : W.cell? ⟨w3.heap.size, 0, none⟩ = some (.string y.asset) := cell_blk hzi rfl
  have i1 : W.cell? ⟨w3.heap.size, 1, none⟩ = some (.int .i64 y.index) := cell_blk hzi rfl
  have i2 : W.cell? ⟨w3.heap.size, 2, none⟩ = some (.int .i64 y.due) := cell_blk hzi rfl
  have i3 : W.cell? ⟨w3.heap.size, 3, none⟩ = some (.int .i64 y.rank) := cell_blk hzi rfl
  have heq : ∀ W : World, (Op.equalIn 9999 65 (.agg #[.string y.asset, .int .i64 y.index, .int .i64 y.due, .int .i64 y.rank]) (.agg #[.string y.asset, .int .i64 y.index, .int .i64 y.due, .int .i64 y.rank])).run Try.prog W = .ok true W := fun W => eq_refItem y Hyok.out W
  have Hof := Lib.hid (fun W => refOf_any y W)
  unfold itV at Hof
  obtain ⟨h, ta, hbx⟩ := H.out
  obtain ⟨ad, b, off, hAe, hadd, -, hcell⟩ := h.hr.at_ 4 itE_length (by omega) 0 (by simp)
  obtain rfl : ad = ⟨b, off, none⟩ := by
    have : ad.add (0 * 4) = ad := by simp [Addr.add]
    rw [← this]; exact hadd
  subst hAe
  have e0 := hcell 0 (.string y.asset) rfl
  have e1 := hcell 1 (.int .i64 y.index) rfl
  have e2 := hcell 2 (.int .i64 y.due) rfl
  have e3 := hcell 3 (.int .i64 y.rank) rfl
  rw [show off + 0 = off by omega] at e0
  have hbw := (h.ha b (by simp [fpo]))
  have TZ : Touch [] w W := (ta.trans0 t3).trans0 tb
  have hbn : b ∉ ([] : List Nat) := by simp
  have j0 := TW.cell (TZ.cell e0 hbn)
  have j1 := TW.cell (TZ.cell e1 hbn)
  have j2 := TW.cell (TZ.cell e2 hbn)
  have j3 := TW.cell (TZ.cell e3 hbn)
  have p0 := TW.cell i0
  have p1 := TW.cell i1
  have p2 := TW.cell i2
  have p3 := TW.cell i3
  have pb := TW.cell b0
  have HTZ := Lib.hid TZ
  have hcc : L.length + 1 ≤ c := h.hc
  have hcm := h.hm
  clear hzi hzo k0 i0 i1 i2 i3 b0 e0 e1 e2 e3 TZ hbn h ta hbx hcell hadd hbw t3 tb hbi hbo
  refine wp_region_tw W (Touch.refl _ _) (by kernel_rfl) (by kernel_rfl) ?_
  repeat (go_big_quiet_step (((go_at_call 25; exact Calls.tw _ (Hof.out _)))))
  refine wpQuiet_nil ?_
  rintro _ ⟨z, rfl⟩
  have qb := pb z
  have Hz := Lib.hid z.t
  obtain ⟨zw, hzw⟩ : ∃ zw, zw = z.w := ⟨_, rfl⟩
  rw [← hzw] at qb Hz ⊢
  clear hzw j0 j1 j2 j3 p0 p1 p2 p3 pb
  go_wp2_with fail
  go_ret2
  obtain ⟨h, ta, hbx⟩ := H.out
  have T := HTZ.out.trans0 Hz.out
  exact ⟨_, c, y :: L, p, fp, rfl, h.hq.touch0 T, h.hr.touch0 T, h.hc, h.hm, fun b hb => ⟨(h.ha b hb).1, Nat.lt_of_lt_of_le (h.ha b hb).2 T.size⟩, T.mono (by simp), fun b hb => .inl hb, by omega, by omega⟩

set_option maxRecDepth 20000 in
set_option maxHeartbeats 3200000 in
theorem step_take_nil (g : Nat) (fp : List Nat) (p : Nat) (A : Option Addr) (c : Nat) (o : QOp) (hk : o.kind = 2) (w : World) (h : StepPre g fp ([] : List QE) p A c w) :
    Calls Try.prog 15 #[.pointer (some ⟨g, 0, none⟩), .slice A ([] : List QE).length c, opV o] w (StepPost g fp ([] : List QE) p w) := by
  obtain ⟨kd, nw, ms, x⟩ := o
  simp only at hk
  subst hk
  have ta := ((Touch.refl [] w).alloc (.cells #[.int .i64 2, .int .i64 nw, .int .i64 ms, .string x.asset, .int .i64 x.index, .int .i64 x.due, .int .i64 x.rank] 43)).alloc (.cells #[.string x.asset, .int .i64 x.index] 26)
  have hbx := ((Touch.refl [] (w.alloc (.cells #[.int .i64 2, .int .i64 nw, .int .i64 ms, .string x.asset, .int .i64 x.index, .int .i64 x.due, .int .i64 x.rank] 43))).alloc (.cells #[.string x.asset, .int .i64 x.index] 26)).blk (heap_alloc_new w (.cells #[.int .i64 2, .int .i64 nw, .int .i64 ms, .string x.asset, .int .i64 x.index, .int .i64 x.due, .int .i64 x.rank] 43)) (by simp)
  have hfirst := first_any g fp ([] : List QE) p _ (h.hq.touch0 ta)
  have hfv : firstV ([] : List QE) = .tuple #[.agg #[.string ⟨#[]⟩, .int .i64 0, .int .i64 0, .int .i64 0], .bool false] := rfl
  rw [hfv] at hfirst
  have Hf := Lib.hid hfirst
  have H := Lib.hid (And.intro h (And.intro ta hbx))
  have hlt := h.hq.lt
  have Hlt := Lib.hid hlt
  clear h ta hbx hlt hfirst hfv
  unfold opV
  go_enter Try.func15, Try.ntmps15
  go_wp2_with fail
  refine Hf.out.mono ?_
  rintro e w3 ⟨rfl, t3⟩
  have hb3 := t3.blk H.out.2.2 (by simp)
  have tb := (Touch.refl [] w3).alloc (.cells #[.string ⟨#[]⟩, .int .i64 0, .int .i64 0, .int .i64 0] 28)
  have hbi := heap_alloc_new w3 (.cells #[.string ⟨#[]⟩, .int .i64 0, .int .i64 0, .int .i64 0] 28)
  obtain ⟨W, hW⟩ : ∃ W, W = w3.alloc (.cells #[.string ⟨#[]⟩, .int .i64 0, .int .i64 0, .int .i64 0] 28) := ⟨_, rfl⟩
  have HW := Lib.hid hW
  rw [← hW] at tb hbi
  have k0 : w3.cell? ⟨w.heap.size, 0, none⟩ = some (.int .i64 2) := cell_blk hb3 rfl
  have H3 := Lib.hid (And.intro t3 (And.intro tb (And.intro hbi (tb.blk hb3 (by simp)))))
  have hws := t3.size
  have hwA := H.out.2.1.size
  rw [World.size_alloc, World.size_alloc] at hws
  have hwl : w.heap.size < w3.heap.size := by omega
  have Hws := Lib.hid hws
  clear t3 tb hbi hb3 hW hwA hws
  go_wp2_with fail
  have htake := take_any g fp ([] : List QE) p W (((H.out.1.hq.touch0 H.out.2.1).touch0 H3.out.1).touch0 H3.out.2.1)
  have hfv2 : firstV ([] : List QE) = .tuple #[.agg #[.string ⟨#[]⟩, .int .i64 0, .int .i64 0, .int .i64 0], .bool false] := rfl
  rw [hfv2] at htake
  have Ht := Lib.hid htake
  clear htake hfv2
  try rw [← HW.out]
  refine Ht.out.mono ?_
  rintro e w5 ⟨rfl, fp5, hq5, t5, hf5⟩
  have hbi5 := t5.blk H3.out.2.2.1 (fun hm => by have := Hlt.out _ hm; omega)
  have hb5 := t5.blk H3.out.2.2.2 (fun hm => by have := Hlt.out _ hm; omega)
  have m0 : w5.cell? ⟨w3.heap.size, 0, none⟩ = some (.string ⟨#[]⟩) := cell_blk hbi5 rfl
  have m1 : w5.cell? ⟨w3.heap.size, 1, none⟩ = some (.int .i64 0) := cell_blk hbi5 rfl
  have m2 : w5.cell? ⟨w3.heap.size, 2, none⟩ = some (.int .i64 0) := cell_blk hbi5 rfl
  have m3 : w5.cell? ⟨w3.heap.size, 3, none⟩ = some (.int .i64 0) := cell_blk hbi5 rfl
  have n0 : w5.frozen? ⟨w3.heap.size, 0, none⟩ = false := free_blk hbi5 0
  have n1 : w5.frozen? ⟨w3.heap.size, 1, none⟩ = false := free_blk hbi5 1
  have n2 : w5.frozen? ⟨w3.heap.size, 2, none⟩ = false := free_blk hbi5 2
  have n3 : w5.frozen? ⟨w3.heap.size, 3, none⟩ = false := free_blk hbi5 3
  have k5 : w5.cell? ⟨w.heap.size, 0, none⟩ = some (.int .i64 2) := cell_blk hb5 rfl
  have hne : w.heap.size ≠ w3.heap.size := by omega
  have H5 := Lib.hid (And.intro hq5 (And.intro t5 (And.intro hf5 (And.intro hbi5 hb5))))
  clear hq5 t5 hf5 hbi5 hb5
  go_wp2_with fail
  obtain ⟨hq5, t5, hf5, hbi5, hb5⟩ := H5.out
  obtain ⟨Z, hZ⟩ : ∃ Z, Z = (((w5.setCell ⟨w3.heap.size, 0, none⟩ (.string ⟨#[]⟩)).setCell ⟨w3.heap.size, 1, none⟩ (.int .i64 0)).setCell ⟨w3.heap.size, 2, none⟩ (.int .i64 0)).setCell ⟨w3.heap.size, 3, none⟩ (.int .i64 0) := ⟨_, rfl⟩
  have hzi := set4 hbi5 rfl (.string ⟨#[]⟩) (.int .i64 0) (.int .i64 0) (.int .i64 0)
  have tq := ((((Touch.refl [w3.heap.size] w5).setCell (p := ⟨w3.heap.size, 0, none⟩) (.inl (by simp)) (.string ⟨#[]⟩)).setCell (p := ⟨w3.heap.size, 1, none⟩) (.inl (by simp)) (.int .i64 0)).setCell (p := ⟨w3.heap.size, 2, none⟩) (.inl (by simp)) (.int .i64 0)).setCell (p := ⟨w3.heap.size, 3, none⟩) (.inl (by simp)) (.int .i64 0)
  have hzo := tq.blk hb5 (by simp only [List.mem_singleton]; exact hne)
  rw [← hZ] at hzi hzo tq ⊢
  have HQ := Lib.hid tq
  have b0 : Z.cell? ⟨w.heap.size, 0, none⟩ = some (.int .i64 2) := cell_blk hzo rfl
  have i0 : Z.cell? ⟨w3.heap.size, 0, none⟩ = some (.string ⟨#[]⟩) := cell_blk hzi rfl
  have i1 : Z.cell? ⟨w3.heap.size, 1, none⟩ = some (.int .i64 0) := cell_blk hzi rfl
  have i2 : Z.cell? ⟨w3.heap.size, 2, none⟩ = some (.int .i64 0) := cell_blk hzi rfl
  have i3 : Z.cell? ⟨w3.heap.size, 3, none⟩ = some (.int .i64 0) := cell_blk hzi rfl
  clear hzi hzo hq5 t5 hf5 hbi5 hb5 hZ tq m0 m1 m2 m3 n0 n1 n2 n3 k5 k0
  have heq := eq_zero
  go_quiet (fail)
  go_wp2_with fail
  go_ret2
  obtain ⟨h, ta, hbx⟩ := H.out
  obtain ⟨t3, tb, hbi, hbo⟩ := H3.out
  obtain ⟨hq5, t5, hf5, hbi5, hb5⟩ := H5.out
  have T0 := (ta.trans0 t3).trans0 tb
  have T5 : Touch fp w w5 := (T0.mono (by simp)).trans t5 (fun b hb => .inl hb)
  have hnf : w3.heap.size ∉ fp5 := fun hm => by
    rcases hf5 _ hm with h1 | h1
    · have := Hlt.out _ h1; have := t3.size; have := ta.size; omega
    · rw [HW.out, World.size_alloc] at h1; omega
  have TQ := HQ.out.drewN nq
  have hs1 := t3.size
  have hs2 := ta.size
  have hs3 := tb.size
  have T : Touch fp w (Z.drewN nq) := T5.trans TQ (fun b hb => .inr (by simp at hb; omega))
  exact ⟨A, c, [], p, fp5, rfl, hq5.touch TQ (fun b hb hm => hnf ((by simpa using hm : b = w3.heap.size) ▸ hb)), RdK.nil _ _ _, h.hc, h.hm, fun b hb => ⟨fun hm => by
    rcases hf5 b hm with h1 | h1
    · exact (h.ha b hb).1 h1
    · have := (h.ha b hb).2; omega, Nat.lt_of_lt_of_le (h.ha b hb).2 T.size⟩, T, fun b hb => by
    rcases hf5 b hb with h1 | h1
    · exact .inl h1
    · right; omega, by omega, by simp⟩

set_option maxRecDepth 20000 in
set_option maxHeartbeats 3200000 in
theorem step_take_cons (g : Nat) (fp : List Nat) (y : QE) (L : List QE) (p : Nat) (A : Option Addr) (c : Nat) (o : QOp) (hk : o.kind = 2) (w : World) (h : StepPre g fp (y :: L) p A c w) :
    Calls Try.prog 15 #[.pointer (some ⟨g, 0, none⟩), .slice A (y :: L).length c, opV o] w (StepPost g fp (y :: L) p w) := by
  obtain ⟨kd, nw, ms, x⟩ := o
  simp only at hk
  subst hk
  have ta := ((Touch.refl [] w).alloc (.cells #[.int .i64 2, .int .i64 nw, .int .i64 ms, .string x.asset, .int .i64 x.index, .int .i64 x.due, .int .i64 x.rank] 43)).alloc (.cells #[.string x.asset, .int .i64 x.index] 26)
  have hbx := ((Touch.refl [] (w.alloc (.cells #[.int .i64 2, .int .i64 nw, .int .i64 ms, .string x.asset, .int .i64 x.index, .int .i64 x.due, .int .i64 x.rank] 43))).alloc (.cells #[.string x.asset, .int .i64 x.index] 26)).blk (heap_alloc_new w (.cells #[.int .i64 2, .int .i64 nw, .int .i64 ms, .string x.asset, .int .i64 x.index, .int .i64 x.due, .int .i64 x.rank] 43)) (by simp)
  have hfirst := first_any g fp (y :: L) p _ (h.hq.touch0 ta)
  have hfv : firstV (y :: L) = .tuple #[.agg #[.string y.asset, .int .i64 y.index, .int .i64 y.due, .int .i64 y.rank], .bool true] := rfl
  rw [hfv] at hfirst
  have Hf := Lib.hid hfirst
  have H := Lib.hid (And.intro h (And.intro ta hbx))
  have hlt := h.hq.lt
  have Hlt := Lib.hid hlt
  have hyok : y.Ok := h.hq.ord.2 y (by simp)
  have Hyok := Lib.hid hyok
  clear hyok
  clear h ta hbx hlt hfirst hfv
  unfold opV
  go_enter Try.func15, Try.ntmps15
  go_wp2_with fail
  refine Hf.out.mono ?_
  rintro e w3 ⟨rfl, t3⟩
  have hb3 := t3.blk H.out.2.2 (by simp)
  have tb := (Touch.refl [] w3).alloc (.cells #[.string y.asset, .int .i64 y.index, .int .i64 y.due, .int .i64 y.rank] 28)
  have hbi := heap_alloc_new w3 (.cells #[.string y.asset, .int .i64 y.index, .int .i64 y.due, .int .i64 y.rank] 28)
  obtain ⟨W, hW⟩ : ∃ W, W = w3.alloc (.cells #[.string y.asset, .int .i64 y.index, .int .i64 y.due, .int .i64 y.rank] 28) := ⟨_, rfl⟩
  have HW := Lib.hid hW
  rw [← hW] at tb hbi
  have k0 : w3.cell? ⟨w.heap.size, 0, none⟩ = some (.int .i64 2) := cell_blk hb3 rfl
  have H3 := Lib.hid (And.intro t3 (And.intro tb (And.intro hbi (tb.blk hb3 (by simp)))))
  have hws := t3.size
  have hwA := H.out.2.1.size
  rw [World.size_alloc, World.size_alloc] at hws
  have hwl : w.heap.size < w3.heap.size := by omega
  have Hws := Lib.hid hws
  clear t3 tb hbi hb3 hW hwA hws
  go_wp2_with fail
  have htake := take_any g fp (y :: L) p W (((H.out.1.hq.touch0 H.out.2.1).touch0 H3.out.1).touch0 H3.out.2.1)
  have hfv2 : firstV (y :: L) = .tuple #[.agg #[.string y.asset, .int .i64 y.index, .int .i64 y.due, .int .i64 y.rank], .bool true] := rfl
  rw [hfv2] at htake
  have Ht := Lib.hid htake
  clear htake hfv2
  try rw [← HW.out]
  refine Ht.out.mono ?_
  rintro e w5 ⟨rfl, fp5, hq5, t5, hf5⟩
  have hbi5 := t5.blk H3.out.2.2.1 (fun hm => by have := Hlt.out _ hm; omega)
  have hb5 := t5.blk H3.out.2.2.2 (fun hm => by have := Hlt.out _ hm; omega)
  have m0 : w5.cell? ⟨w3.heap.size, 0, none⟩ = some (.string y.asset) := cell_blk hbi5 rfl
  have m1 : w5.cell? ⟨w3.heap.size, 1, none⟩ = some (.int .i64 y.index) := cell_blk hbi5 rfl
  have m2 : w5.cell? ⟨w3.heap.size, 2, none⟩ = some (.int .i64 y.due) := cell_blk hbi5 rfl
  have m3 : w5.cell? ⟨w3.heap.size, 3, none⟩ = some (.int .i64 y.rank) := cell_blk hbi5 rfl
  have n0 : w5.frozen? ⟨w3.heap.size, 0, none⟩ = false := free_blk hbi5 0
  have n1 : w5.frozen? ⟨w3.heap.size, 1, none⟩ = false := free_blk hbi5 1
  have n2 : w5.frozen? ⟨w3.heap.size, 2, none⟩ = false := free_blk hbi5 2
  have n3 : w5.frozen? ⟨w3.heap.size, 3, none⟩ = false := free_blk hbi5 3
  have k5 : w5.cell? ⟨w.heap.size, 0, none⟩ = some (.int .i64 2) := cell_blk hb5 rfl
  have hne : w.heap.size ≠ w3.heap.size := by omega
  have H5 := Lib.hid (And.intro hq5 (And.intro t5 (And.intro hf5 (And.intro hbi5 hb5))))
  clear hq5 t5 hf5 hbi5 hb5
  go_wp2_with fail
  obtain ⟨hq5, t5, hf5, hbi5, hb5⟩ := H5.out
  obtain ⟨Z, hZ⟩ : ∃ Z, Z = (((w5.setCell ⟨w3.heap.size, 0, none⟩ (.string y.asset)).setCell ⟨w3.heap.size, 1, none⟩ (.int .i64 y.index)).setCell ⟨w3.heap.size, 2, none⟩ (.int .i64 y.due)).setCell ⟨w3.heap.size, 3, none⟩ (.int .i64 y.rank) := ⟨_, rfl⟩
  have hzi := set4 hbi5 rfl (.string y.asset) (.int .i64 y.index) (.int .i64 y.due) (.int .i64 y.rank)
  have tq := ((((Touch.refl [w3.heap.size] w5).setCell (p := ⟨w3.heap.size, 0, none⟩) (.inl (by simp)) (.string y.asset)).setCell (p := ⟨w3.heap.size, 1, none⟩) (.inl (by simp)) (.int .i64 y.index)).setCell (p := ⟨w3.heap.size, 2, none⟩) (.inl (by simp)) (.int .i64 y.due)).setCell (p := ⟨w3.heap.size, 3, none⟩) (.inl (by simp)) (.int .i64 y.rank)
  have hzo := tq.blk hb5 (by simp only [List.mem_singleton]; exact hne)
  rw [← hZ] at hzi hzo tq ⊢
  have HQ := Lib.hid tq
  have b0 : Z.cell? ⟨w.heap.size, 0, none⟩ = some (.int .i64 2) := cell_blk hzo rfl
  have i0 : Z.cell? ⟨w3.heap.size, 0, none⟩ = some (.string y.asset) := cell_blk hzi rfl
  have i1 : Z.cell? ⟨w3.heap.size, 1, none⟩ = some (.int .i64 y.index) := cell_blk hzi rfl
  have i2 : Z.cell? ⟨w3.heap.size, 2, none⟩ = some (.int .i64 y.due) := cell_blk hzi rfl
  have i3 : Z.cell? ⟨w3.heap.size, 3, none⟩ = some (.int .i64 y.rank) := cell_blk hzi rfl
  have heq : ∀ W : World, (Op.equalIn 9999 65 (.agg #[.string y.asset, .int .i64 y.index, .int .i64 y.due, .int .i64 y.rank]) (.agg #[.string y.asset, .int .i64 y.index, .int .i64 y.due, .int .i64 y.rank])).run Try.prog W = .ok true W := fun W => eq_refItem y Hyok.out W
  have Hof := Lib.hid (fun W => refOf_any y W)
  unfold itV at Hof
  obtain ⟨h, ta, hbx⟩ := H.out
  obtain ⟨ad, b, off, hAe, hadd, -, hcell⟩ := h.hr.at_ 4 itE_length (by omega) 0 (by simp)
  obtain rfl : ad = ⟨b, off, none⟩ := by
    have : ad.add (0 * 4) = ad := by simp [Addr.add]
    rw [← this]; exact hadd
  subst hAe
  have e0 := hcell 0 (.string y.asset) rfl
  have e1 := hcell 1 (.int .i64 y.index) rfl
  have e2 := hcell 2 (.int .i64 y.due) rfl
  have e3 := hcell 3 (.int .i64 y.rank) rfl
  rw [show off + 0 = off by omega] at e0
  have hbw := (h.ha b (by simp [fpo]))
  obtain ⟨t3, tb, hbi, hbo⟩ := H3.out
  have hs1 := t3.size
  have hs2 := ta.size
  have TZ : Touch (w3.heap.size :: fp) w Z := (((((ta.trans0 t3).trans0 tb).mono (fp2 := fp) (by simp)).trans t5 (fun b hb => .inl hb)).mono (fp2 := w3.heap.size :: fp) (fun b hb => .inl (by simp [hb]))).trans tq (fun b hb => .inl (by simp at hb; simp [hb]))
  have hbn : b ∉ w3.heap.size :: fp := by
    intro hm
    rcases List.mem_cons.1 hm with h1 | h1
    · omega
    · exact hbw.1 h1
  have j0 := TW.cell (TZ.cell e0 hbn)
  have j1 := TW.cell (TZ.cell e1 hbn)
  have j2 := TW.cell (TZ.cell e2 hbn)
  have j3 := TW.cell (TZ.cell e3 hbn)
  have p0 := TW.cell i0
  have p1 := TW.cell i1
  have p2 := TW.cell i2
  have p3 := TW.cell i3
  have pb := TW.cell b0
  have HTZ := Lib.hid TZ
  have hcc : L.length + 1 ≤ c := h.hc
  have hcm := h.hm
  clear hzi hzo hq5 t5 hf5 hbi5 hb5 hZ tq m0 m1 m2 m3 n0 n1 n2 n3 k5 k0 i0 i1 i2 i3 b0 e0 e1 e2 e3 TZ hbn h ta hbx hcell hadd hbw t3 tb hbi hbo hs1 hs2
  refine wp_region_tw Z (Touch.refl _ _) (by kernel_rfl) (by kernel_rfl) ?_
  repeat (go_big_quiet_step (((go_at_call 25; exact Calls.tw _ (Hof.out _)))))
  refine wpQuiet_nil ?_
  rintro _ ⟨z, rfl⟩
  have qb := pb z
  have Hz := Lib.hid z.t
  obtain ⟨zw, hzw⟩ : ∃ zw, zw = z.w := ⟨_, rfl⟩
  rw [← hzw] at qb Hz ⊢
  clear hzw j0 j1 j2 j3 p0 p1 p2 p3 pb
  go_wp2_with fail
  all_goals
    go_ret2
    obtain ⟨h, ta, hbx⟩ := H.out
    obtain ⟨hq5, t5, hf5, hbi5, hb5⟩ := H5.out
    obtain ⟨t3, tb, hbi, hbo⟩ := H3.out
    have hs1 := t3.size
    have hs2 := ta.size
    have hs3 := tb.size
    rw [HW.out, World.size_alloc] at hs3
    have hnf : w3.heap.size ∉ fp5 := fun hm => by
      rcases hf5 _ hm with h1 | h1
      · have := Hlt.out _ h1; omega
      · rw [HW.out, World.size_alloc] at h1; omega
    have T0 := HTZ.out.trans0 Hz.out
    have T : Touch fp w zw := T0.mono (fun b hb => by
      rcases List.mem_cons.1 hb with h1 | h1
      · right; omega
      · exact .inl h1)
    have hbA : b ∉ fp ∧ b < w.heap.size := h.ha b (by simp [fpo])
    have hbn : b ∉ w3.heap.size :: fp := by
      intro hm
      rcases List.mem_cons.1 hm with h1 | h1
      · omega
      · exact hbA.1 h1
    have hrz : RdK itE zw (some ⟨b, off, none⟩) (y :: L) := h.hr.touch T0 (fun x hx hm => by
      have hxb : x = b := by simpa [fpo] using hx
      subst hxb; exact hbn hm)
    refine ⟨_, _, L, p, fp5, rfl, (hq5.touch HQ.out (fun b hb hm => hnf ((by simpa using hm : b = w3.heap.size) ▸ hb))).touch0 Hz.out, ?_, by omega, by omega, fun x hx => ?_, T, fun b hb => ?_, by omega, by simp only [List.length_cons]; omega⟩
    · rcases Nat.eq_zero_or_pos L.length with h0 | h0
      · obtain rfl := List.eq_nil_of_length_eq_zero h0
        exact RdK.nil _ _ _
      · have hcut := Rd.cut (n := (L.flatMap itE).length) (k := 4) hrz (A' := some ⟨b, off + 4, none⟩) (fun ad had _ => by injection had with had; subst had; rfl)
        have he : (((y :: L).flatMap itE).drop 4).take (L.flatMap itE).length = L.flatMap itE := by
          rw [List.flatMap_cons, show ((itE y ++ L.flatMap itE).drop 4) = L.flatMap itE from rfl, List.take_length]
        rw [he] at hcut
        first | exact hcut | (exfalso; omega)
    · have hxb : x = b := by simpa [fpo] using hx
      subst hxb
      exact ⟨fun hm => by
        rcases hf5 x hm with h1 | h1
        · exact hbA.1 h1
        · rw [HW.out, World.size_alloc] at h1; omega, Nat.lt_of_lt_of_le hbA.2 T.size⟩
    · rcases hf5 b hb with h1 | h1
      · exact .inl h1
      · right; rw [HW.out, World.size_alloc] at h1; omega
end Go.Proofs.Ythhjioeipjnjmaa
