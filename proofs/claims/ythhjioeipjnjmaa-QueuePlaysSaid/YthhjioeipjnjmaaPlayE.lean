/- bywashlaw24.step at Put and Drop: the walks. For every queue. -/
import Derived.Test.YthhjioeipjnjmaaPlayD
namespace Go.Proofs.Ythhjioeipjnjmaa
open Go.RowKit

theorem insQ_put (D : List QE) (x : QE) (q : Int) : (insQ D { x with put := q }).flatMap itE = (insQ D x).flatMap itE ∧ (insQ D { x with put := q }).length = (insQ D x).length := by
  induction D with
  | nil => exact ⟨rfl, rfl⟩
  | cons y D ih =>
    unfold insQ
    by_cases h : x.due < y.due ∨ x.due = y.due ∧ x.rank < y.rank
    · rw [if_pos h, if_pos h]; exact ⟨rfl, rfl⟩
    · rw [if_neg h, if_neg h]
      exact ⟨by rw [List.flatMap_cons, List.flatMap_cons, ih.1], by rw [List.length_cons, List.length_cons, ih.2]⟩

set_option maxRecDepth 20000 in
set_option maxHeartbeats 3200000 in
theorem step_put (g : Nat) (fp : List Nat) (L : List QE) (p : Nat) (A : Option Addr) (c : Nat) (o : QOp) (hk : o.kind = 1) (ho : o.Ok) (w : World) (h : StepPre g fp L p A c w) :
    Calls Try.prog 15 #[.pointer (some ⟨g, 0, none⟩), .slice A L.length c, opV o] w (StepPost g fp L p w) := by
  obtain ⟨kd, nw, ms, x⟩ := o
  simp only at hk
  subst hk
  have ta := ((Touch.refl [] w).alloc (.cells #[.int .i64 1, .int .i64 nw, .int .i64 ms, .string x.asset, .int .i64 x.index, .int .i64 x.due, .int .i64 x.rank] 43)).alloc (.cells #[.string x.asset, .int .i64 x.index] 26)
  have hbx := ((Touch.refl [] (w.alloc (.cells #[.int .i64 1, .int .i64 nw, .int .i64 ms, .string x.asset, .int .i64 x.index, .int .i64 x.due, .int .i64 x.rank] 43))).alloc (.cells #[.string x.asset, .int .i64 x.index] 26)).blk (heap_alloc_new w (.cells #[.int .i64 1, .int .i64 nw, .int .i64 ms, .string x.asset, .int .i64 x.index, .int .i64 x.due, .int .i64 x.rank] 43)) (by simp)
  have Hput := Lib.hid (put_any g fp L p x ho.x (by have := h.hp; omega) (by have := h.hl; omega) _ (h.hq.touch0 ta))
  have H := Lib.hid (And.intro h (And.intro ta hbx))
  unfold itV at Hput
  have hlt := h.hq.lt
  have Hlt := Lib.hid hlt
  have Hof := Lib.hid (fun W => refOf_any x W)
  unfold itV at Hof
  clear h ta hbx hlt
  unfold opV
  go_enter Try.func15, Try.ntmps15
  go_wp2_with fail
  refine Hput.out.mono ?_
  rintro e w3 ⟨rfl, fp3, hq3, t3, hf3⟩
  have hb3 := t3.blk H.out.2.2 (fun hm => by have := Hlt.out _ hm; omega)
  have x0 : w3.cell? ⟨w.heap.size, 3, none⟩ = some (.string x.asset) := cell_blk hb3 rfl
  have x1 : w3.cell? ⟨w.heap.size, 4, none⟩ = some (.int .i64 x.index) := cell_blk hb3 rfl
  have x2 : w3.cell? ⟨w.heap.size, 5, none⟩ = some (.int .i64 x.due) := cell_blk hb3 rfl
  have x3 : w3.cell? ⟨w.heap.size, 6, none⟩ = some (.int .i64 x.rank) := cell_blk hb3 rfl
  have H3 := Lib.hid (And.intro hq3 (And.intro t3 hf3))
  clear hq3 t3 hf3 hb3
  go_wp2_with fail
  refine (Hof.out _).mono ?_
  rintro e w4 ⟨rfl, t4⟩
  have hr4 : RdK itE w4 A L := ((H.out.1.hr.touch0 H.out.2.1).touch H3.out.2.1 (fun b hb => (H.out.1.ha b hb).1)).touch0 t4
  have Hrp := Lib.hid (refPut_any A c L.length L rfl (by have := H.out.1.hl; omega) x w4 hr4)
  have H4 := Lib.hid t4
  unfold itV at Hrp
  clear t4 hr4
  go_wp2_with fail
  refine Hrp.out.mono ?_
  rintro e w5 ⟨A5, c5, rfl, ho5, t5, hf5⟩
  have H5 := Lib.hid (And.intro ho5 (And.intro t5 hf5))
  clear ho5 t5 hf5
  go_wp2_with fail
  go_ret2
  obtain ⟨h, ta, hbx⟩ := H.out
  obtain ⟨hq3, t3, hf3⟩ := H3.out
  obtain ⟨ho5, t5, hf5⟩ := H5.out
  obtain ⟨hi1, hi2⟩ := insQ_put (dropQ L x.asset x.index) x ((p + 1 : Nat) : Int)
  have hs4 := (H4.out).size
  have hl3 := hq3.lt
  have hl5 := ho5.lt
  have hta := ta.size
  refine ⟨A5, c5, insQ (dropQ L x.asset x.index) { x with put := ((p + 1 : Nat) : Int) }, p + 1, fp3, by rw [hi2]; rfl, (hq3.touch0 H4.out).touch0 t5, ?_, by rw [hi2]; exact ho5.le, ho5.cap, fun b hb => ⟨fun hm => ?_, hl5 b hb⟩, ((ta.mono (by simp)).trans t3 (fun b hb => .inl hb)).trans0 H4.out |>.trans0 t5, fun b hb => ?_, by omega, ?_⟩
  · have := ho5.rd
    unfold RdK at this ⊢
    rw [hi1]; exact this
  · have h1 := hf5 b hb
    have h2 := hl3 b hm
    omega
  · rcases hf3 b hb with h1 | h1
    · exact .inl h1
    · right; omega
  · rw [(insQ_perm _ _).length_eq, List.length_cons]
    have : (dropQ L x.asset x.index).length ≤ L.length := List.length_filter_le _ _
    omega

set_option maxRecDepth 20000 in
set_option maxHeartbeats 3200000 in
theorem step_drop (g : Nat) (fp : List Nat) (L : List QE) (p : Nat) (A : Option Addr) (c : Nat) (o : QOp) (hk : o.kind = 4) (ho : o.Ok) (w : World) (h : StepPre g fp L p A c w) :
    Calls Try.prog 15 #[.pointer (some ⟨g, 0, none⟩), .slice A L.length c, opV o] w (StepPost g fp L p w) := by
  obtain ⟨kd, nw, ms, x⟩ := o
  simp only at hk
  subst hk
  have ta := ((Touch.refl [] w).alloc (.cells #[.int .i64 4, .int .i64 nw, .int .i64 ms, .string x.asset, .int .i64 x.index, .int .i64 x.due, .int .i64 x.rank] 43)).alloc (.cells #[.string x.asset, .int .i64 x.index] 26)
  have hbp := heap_alloc_new (w.alloc (.cells #[.int .i64 4, .int .i64 nw, .int .i64 ms, .string x.asset, .int .i64 x.index, .int .i64 x.due, .int .i64 x.rank] 43)) (.cells #[.string x.asset, .int .i64 x.index] 26)
  rw [World.size_alloc] at hbp
  have Hrd := Lib.hid (refDrop_any A c L.length L rfl (by have := h.hl; omega) x.asset x.index _ (h.hr.touch0 ta))
  have H := Lib.hid (And.intro h (And.intro ta hbp))
  have Hd := Lib.hid (fun W (hW : QIs W g fp L p) => drop_any g fp L p x.asset x.index ho.x.t ho.x.i.1 ho.x.i.2 W hW)
  unfold partV at Hd
  clear h ta hbp
  unfold opV
  go_enter Try.func15, Try.ntmps15
  go_wp2_with fail
  refine Hrd.out.mono ?_
  rintro e w3 ⟨A3, c3, rfl, ho3, t3, hf3⟩
  have hb3 := t3.blk H.out.2.2 (by simp)
  have x0 : w3.cell? ⟨w.heap.size + 1, 0, none⟩ = some (.string x.asset) := cell_blk hb3 rfl
  have x1 : w3.cell? ⟨w.heap.size + 1, 1, none⟩ = some (.int .i64 x.index) := cell_blk hb3 rfl
  have H3 := Lib.hid (And.intro ho3 (And.intro t3 hf3))
  have Hd3 := Lib.hid (Hd.out w3 ((H.out.1.hq.touch0 H.out.2.1).touch0 t3))
  clear ho3 t3 hf3 hb3
  go_wp2_with fail
  refine Hd3.out.mono ?_
  rintro e w4 ⟨rfl, fp4, hq4, t4, hf4⟩
  have H4 := Lib.hid (And.intro hq4 (And.intro t4 hf4))
  have hqq : (hasQ L x.asset x.index == hasQ L x.asset x.index) = true := by simp
  clear hq4 t4 hf4
  go_wp2_with fail
  go_ret2
  obtain ⟨h, ta, hbp⟩ := H.out
  obtain ⟨ho3, t3, hf3⟩ := H3.out
  obtain ⟨hq4, t4, hf4⟩ := H4.out
  have hl3 := ho3.lt
  have hqlt := h.hq.lt
  have hta := ta.size
  have hfA : ∀ b ∈ fpo A3, b ∉ fp := fun b hb hm => by have := hf3 b hb; have := hqlt b hm; omega
  refine ⟨A3, c3, dropQ L x.asset x.index, p, fp4, ?_, hq4, ho3.rd.touch t4 (fun b hb => hfA b hb), ho3.le, ho3.cap, fun b hb => ⟨fun hm => ?_, Nat.lt_of_lt_of_le (hl3 b hb) t4.size⟩, ((ta.trans0 t3).mono (by simp)).trans t4 (fun b hb => .inl hb), fun b hb => ?_, by omega, ?_⟩
  · simp
  · rcases hf4 b hm with h1 | h1
    · exact hfA b hb h1
    · have := hl3 b hb; omega
  · rcases hf4 b hb with h1 | h1
    · exact .inl h1
    · right; have := t3.size; omega
  · have : (dropQ L x.asset x.index).length ≤ L.length := List.length_filter_le _ _
    omega
end Go.Proofs.Ythhjioeipjnjmaa
