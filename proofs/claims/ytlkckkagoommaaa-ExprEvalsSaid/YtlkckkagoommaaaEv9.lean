/- Part 9 of the texts of this proof, one behind the other; each begins with its own sentence. No condition beyond those that its theorems state. -/
import Derived.Test.YtlkckkagoommaaaEv8
import Derived.Deep.DeepCutAuto
/- bywashlaw04.whole: is a value what all Args say? For every operation and call. -/
namespace Go.Proofs.Ytlkckkagoommaaa
open Go.RowKit Go.Maps Go.ChangeMaps
attribute [local go_sem ↓] Go.wp_at_zero Go.wp_at_succ

theorem wpList_makeMap_is {P : Program} {ops : Array Oper} {Q : Exit → Act → World → Prop} {rest : List Oper} {o : Oper} {a : Act} {w : World} (hg : o.guard = none) (t : TypeId) (hop : o.op = Op.makeMap t none) (hK : wpList P ops Q rest (a.put o.dst (.map (some w.heap.size))) (w.alloc (.map #[] 0))) : wpList P ops Q (o :: rest) a w := by
  refine wpList_plain hg fun K' hK' => ?_
  unfold Oper.wp
  simp [execOp, hop, run_makeMap, Result.andThen]
  exact hK' _ _ hK
/-- an entry of a map literal whose run is known -/
theorem wpList_insert_is {P : Program} {ops : Array Oper} {Q : Exit → Act → World → Prop} {rest : List Oper} {o : Oper} {a : Act} {w w' : World} (hg : o.guard = none) (m x v : Operand) (t : TypeId) (hop : o.op = Op.insert t m x v) (mv key val : Value) (hm : a.eval m = mv) (hx : a.eval x = key) (hv : a.eval v = val)
    (hrun : (Instr.mapUpdate t mv key val).run P w = .ok () w') (hK : wpList P ops Q rest (a.put o.dst undef) w') : wpList P ops Q (o :: rest) a w := by
  refine wpList_plain hg fun K' hK' => ?_
  unfold Oper.wp
  simp [execOp, hop, hm, hx, hv, hrun, Result.andThen]
  exact hK' _ _ hK
theorem vals_at {w : World} {g : Nat} {l : List VD} (h : ValsAt w (some ⟨g, 0, none⟩) l) (i : Nat) (hi : i < l.length) : w.cell? ⟨g, i * 3, none⟩ = some (.int .i64 l[i].kind) ∧ w.cell? ⟨g, i * 3 + 1, none⟩ = some (.int .i64 l[i].num) ∧ w.cell? ⟨g, i * 3 + 2, none⟩ = some (.string l[i].text) := by
  obtain ⟨ad, b, off, e1, e2, c0, c1, c2⟩ := h.at_ i hi
  cases e1
  have e0 : (⟨g, 0, none⟩ : Addr).add (i * 3) = ⟨g, i * 3, none⟩ := by unfold Addr.add; split <;> simp_all
  rw [e0] at e2
  cases e2
  exact ⟨c0, c1, c2⟩

set_option maxRecDepth 100000 in
set_option maxHeartbeats 6400000 in
theorem whole_and (nk nn : Int) (nt : ByteArray) (p0 p1 : Int) (p2 : ByteArray) (q0 q1 : Int) (q2 : ByteArray) (wk wn : Int) (wt : ByteArray) (A : Option Addr) (m c g bc : Nat) (w : World) (h : ValsAt w (some ⟨g, 0, none⟩) [⟨p0, p1, p2⟩, ⟨q0, q1, q2⟩]) (hw : (⟨wk, wn, wt⟩ : VD) = bitV (VD.tru ⟨q0, q1, q2⟩)) :
    Calls Try.prog 43 #[.agg #[.int .i64 4, .string ⟨#[]⟩, .int .i64 nk, .int .i64 nn, .string nt, .string ⟨#[97, 110, 100]⟩, .slice A m c], .slice (some ⟨g, 0, none⟩) 2 bc, .agg #[.int .i64 wk, .int .i64 wn, .string wt], .int .i64 0] w fun e w' => e = .returned (.bool true) ∧ Touch [] w w' := by
  have heq := fun w' => eqIn_val ⟨wk, wn, wt⟩ ⟨wk, wn, wt⟩ w'
  rw [(eqV3_iff _ _).2 rfl] at heq
  simp only at heq
  have hgd := guard_val
  obtain ⟨W, hW⟩ : ∃ W, W = ((w.alloc (.cells #[.int .i64 4, .string ⟨#[]⟩, .int .i64 nk, .int .i64 nn, .string nt, .string ⟨#[97, 110, 100]⟩, .slice A m c] 33)).alloc (.cells #[.int .i64 wk, .int .i64 wn, .string wt] 30)).alloc (.cells #[.int .i64 0, .int .i64 0, .string ⟨#[]⟩] 30) := ⟨_, rfl⟩
  have tW : Touch [] w W := by rw [hW]; exact (((Touch.refl [] w).alloc _).alloc _).alloc _
  have hE : W.heap[w.heap.size]? = some (.cells #[.int .i64 4, .string ⟨#[]⟩, .int .i64 nk, .int .i64 nn, .string nt, .string ⟨#[97, 110, 100]⟩, .slice A m c] 33) := by rw [hW]; exact (((Touch.refl [] (w.alloc (.cells #[.int .i64 4, .string ⟨#[]⟩, .int .i64 nk, .int .i64 nn, .string nt, .string ⟨#[97, 110, 100]⟩, .slice A m c] 33))).alloc _).alloc _).blk (heap_alloc_new w (.cells #[.int .i64 4, .string ⟨#[]⟩, .int .i64 nk, .int .i64 nn, .string nt, .string ⟨#[97, 110, 100]⟩, .slice A m c] 33)) (by simp)
  have hV : W.heap[w.heap.size + 1]? = some (.cells #[.int .i64 wk, .int .i64 wn, .string wt] 30) := by
    have := ((Touch.refl [] ((w.alloc (.cells #[.int .i64 4, .string ⟨#[]⟩, .int .i64 nk, .int .i64 nn, .string nt, .string ⟨#[97, 110, 100]⟩, .slice A m c] 33)).alloc (.cells #[.int .i64 wk, .int .i64 wn, .string wt] 30))).alloc (.cells #[.int .i64 0, .int .i64 0, .string ⟨#[]⟩] 30)).blk (heap_alloc_new (w.alloc (.cells #[.int .i64 4, .string ⟨#[]⟩, .int .i64 nk, .int .i64 nn, .string nt, .string ⟨#[97, 110, 100]⟩, .slice A m c] 33)) (.cells #[.int .i64 wk, .int .i64 wn, .string wt] 30)) (by simp)
    rw [World.size_alloc] at this
    rw [hW]; exact this
  have hZ : W.heap[w.heap.size + 1 + 1]? = some (.cells #[.int .i64 0, .int .i64 0, .string ⟨#[]⟩] 30) := by
    have := heap_alloc_new ((w.alloc (.cells #[.int .i64 4, .string ⟨#[]⟩, .int .i64 nk, .int .i64 nn, .string nt, .string ⟨#[97, 110, 100]⟩, .slice A m c] 33)).alloc (.cells #[.int .i64 wk, .int .i64 wn, .string wt] 30)) (.cells #[.int .i64 0, .int .i64 0, .string ⟨#[]⟩] 30)
    rw [World.size_alloc, World.size_alloc] at this
    rw [hW]; exact this
  have hg := h.touch0 tW
  have hgl0 : g < w.heap.size := Rd.lt h (by rw [flat_length vdE 3 vdE_length]; simp) g (by simp [fpo])
  have HE := Lib.hid hE; have HV := Lib.hid hV; have HZ := Lib.hid hZ; have HG := Lib.hid hg; have HW := Lib.hid hW
  have hr : ValsAt (((w.alloc (.cells #[.int .i64 4, .string ⟨#[]⟩, .int .i64 nk, .int .i64 nn, .string nt, .string ⟨#[97, 110, 100]⟩, .slice A m c] 33)).alloc (.cells #[.int .i64 wk, .int .i64 wn, .string wt] 30)).alloc (.cells #[.int .i64 0, .int .i64 0, .string ⟨#[]⟩] 30)) (some ⟨g, 0, none⟩) [⟨p0, p1, p2⟩, ⟨q0, q1, q2⟩] := h.touch0 ((((Touch.refl [] w).alloc _).alloc _).alloc _)
  obtain ⟨g0, g1, g2⟩ := vals_at hr 0 (by simp)
  obtain ⟨g3, g4, g5⟩ := vals_at hr 1 (by simp)
  simp only [List.getElem_cons_zero, List.getElem_cons_succ, Nat.zero_mul, Nat.zero_add, Nat.one_mul, Nat.reduceAdd] at g0 g1 g2 g3 g4 g5
  clear hE hV hZ hg hW h hr
  have Htr := Lib.hid fun w' => truth_any (VD.tru ⟨q0, q1, q2⟩) w'
  rw [← hw] at Htr
  simp only [VD.val] at Htr
  have Htru := Lib.hid fun w' => true_any ⟨q0, q1, q2⟩ w'
  simp only [VD.val] at Htru
  go_enter Try.func43, Try.ntmps43
  go_wp2_with fail
  rw [← HW.out]
  clear g0 g1 g2 g3 g4 g5
  refine (Htru.out _).mono ?_
  rintro e w1 ⟨rfl, u1⟩
  obtain ⟨e0, e1, e2, e3, e4, e5, e6, _⟩ := blk7 (u1.blk HE.out (by simp))
  obtain ⟨z0, z1, z2, f0, f1, f2⟩ := blk3 (u1.blk HZ.out (by simp))
  obtain ⟨g0, g1, g2⟩ := vals_at (HG.out.touch0 u1) 0 (by simp)
  obtain ⟨g3, g4, g5⟩ := vals_at (HG.out.touch0 u1) 1 (by simp)
  simp only [List.getElem_cons_zero, List.getElem_cons_succ, Nat.zero_mul, Nat.zero_add, Nat.one_mul, Nat.reduceAdd] at g0 g1 g2 g3 g4 g5
  go_wp2_with fail
  clear e0 e1 e2 e3 e4 e5 e6 z0 z1 z2 f0 f1 f2 g0 g1 g2 g3 g4 g5
  refine (Htr.out _).mono ?_
  rintro e w2 ⟨rfl, u2⟩
  have t2 := u1.trans0 u2
  obtain ⟨e0, e1, e2, e3, e4, e5, e6, _⟩ := blk7 (t2.blk HE.out (by simp))
  obtain ⟨z0, z1, z2, f0, f1, f2⟩ := blk3 (t2.blk HZ.out (by simp))
  obtain ⟨g0, g1, g2⟩ := vals_at (HG.out.touch0 t2) 0 (by simp)
  obtain ⟨g3, g4, g5⟩ := vals_at (HG.out.touch0 t2) 1 (by simp)
  simp only [List.getElem_cons_zero, List.getElem_cons_succ, Nat.zero_mul, Nat.zero_add, Nat.one_mul, Nat.reduceAdd] at g0 g1 g2 g3 g4 g5
  obtain ⟨s1, s2⟩ := out3 (t2.blk HZ.out (by simp)) (.int .i64 wk) (.int .i64 wn) (.string wt)
  obtain ⟨y0, y1, y2, _⟩ := blk3 s1
  obtain ⟨v0, v1, v2, _⟩ := blk3 (s2.blk (t2.blk HV.out (by simp)) (by simp))
  go_wp2_with fail
  go_ret
  exact ⟨rfl, (tW.trans0 t2).trans s2 (fun b hb => .inr (by simp at hb; omega))⟩

set_option maxRecDepth 100000 in
set_option maxHeartbeats 6400000 in
theorem whole_or (nk nn : Int) (nt : ByteArray) (p0 p1 : Int) (p2 : ByteArray) (q0 q1 : Int) (q2 : ByteArray) (wk wn : Int) (wt : ByteArray) (A : Option Addr) (m c g bc : Nat) (w : World) (h : ValsAt w (some ⟨g, 0, none⟩) [⟨p0, p1, p2⟩, ⟨q0, q1, q2⟩]) (hw : (⟨wk, wn, wt⟩ : VD) = bitV (VD.tru ⟨q0, q1, q2⟩)) :
    Calls Try.prog 43 #[.agg #[.int .i64 4, .string ⟨#[]⟩, .int .i64 nk, .int .i64 nn, .string nt, .string ⟨#[111, 114]⟩, .slice A m c], .slice (some ⟨g, 0, none⟩) 2 bc, .agg #[.int .i64 wk, .int .i64 wn, .string wt], .int .i64 0] w fun e w' => e = .returned (.bool true) ∧ Touch [] w w' := by
  have heq := fun w' => eqIn_val ⟨wk, wn, wt⟩ ⟨wk, wn, wt⟩ w'
  rw [(eqV3_iff _ _).2 rfl] at heq
  simp only at heq
  have hgd := guard_val
  obtain ⟨W, hW⟩ : ∃ W, W = ((w.alloc (.cells #[.int .i64 4, .string ⟨#[]⟩, .int .i64 nk, .int .i64 nn, .string nt, .string ⟨#[111, 114]⟩, .slice A m c] 33)).alloc (.cells #[.int .i64 wk, .int .i64 wn, .string wt] 30)).alloc (.cells #[.int .i64 0, .int .i64 0, .string ⟨#[]⟩] 30) := ⟨_, rfl⟩
  have tW : Touch [] w W := by rw [hW]; exact (((Touch.refl [] w).alloc _).alloc _).alloc _
  have hE : W.heap[w.heap.size]? = some (.cells #[.int .i64 4, .string ⟨#[]⟩, .int .i64 nk, .int .i64 nn, .string nt, .string ⟨#[111, 114]⟩, .slice A m c] 33) := by rw [hW]; exact (((Touch.refl [] (w.alloc (.cells #[.int .i64 4, .string ⟨#[]⟩, .int .i64 nk, .int .i64 nn, .string nt, .string ⟨#[111, 114]⟩, .slice A m c] 33))).alloc _).alloc _).blk (heap_alloc_new w (.cells #[.int .i64 4, .string ⟨#[]⟩, .int .i64 nk, .int .i64 nn, .string nt, .string ⟨#[111, 114]⟩, .slice A m c] 33)) (by simp)
  have hV : W.heap[w.heap.size + 1]? = some (.cells #[.int .i64 wk, .int .i64 wn, .string wt] 30) := by
    have := ((Touch.refl [] ((w.alloc (.cells #[.int .i64 4, .string ⟨#[]⟩, .int .i64 nk, .int .i64 nn, .string nt, .string ⟨#[111, 114]⟩, .slice A m c] 33)).alloc (.cells #[.int .i64 wk, .int .i64 wn, .string wt] 30))).alloc (.cells #[.int .i64 0, .int .i64 0, .string ⟨#[]⟩] 30)).blk (heap_alloc_new (w.alloc (.cells #[.int .i64 4, .string ⟨#[]⟩, .int .i64 nk, .int .i64 nn, .string nt, .string ⟨#[111, 114]⟩, .slice A m c] 33)) (.cells #[.int .i64 wk, .int .i64 wn, .string wt] 30)) (by simp)
    rw [World.size_alloc] at this
    rw [hW]; exact this
  have hZ : W.heap[w.heap.size + 1 + 1]? = some (.cells #[.int .i64 0, .int .i64 0, .string ⟨#[]⟩] 30) := by
    have := heap_alloc_new ((w.alloc (.cells #[.int .i64 4, .string ⟨#[]⟩, .int .i64 nk, .int .i64 nn, .string nt, .string ⟨#[111, 114]⟩, .slice A m c] 33)).alloc (.cells #[.int .i64 wk, .int .i64 wn, .string wt] 30)) (.cells #[.int .i64 0, .int .i64 0, .string ⟨#[]⟩] 30)
    rw [World.size_alloc, World.size_alloc] at this
    rw [hW]; exact this
  have hg := h.touch0 tW
  have hgl0 : g < w.heap.size := Rd.lt h (by rw [flat_length vdE 3 vdE_length]; simp) g (by simp [fpo])
  have HE := Lib.hid hE; have HV := Lib.hid hV; have HZ := Lib.hid hZ; have HG := Lib.hid hg; have HW := Lib.hid hW
  have hr : ValsAt (((w.alloc (.cells #[.int .i64 4, .string ⟨#[]⟩, .int .i64 nk, .int .i64 nn, .string nt, .string ⟨#[111, 114]⟩, .slice A m c] 33)).alloc (.cells #[.int .i64 wk, .int .i64 wn, .string wt] 30)).alloc (.cells #[.int .i64 0, .int .i64 0, .string ⟨#[]⟩] 30)) (some ⟨g, 0, none⟩) [⟨p0, p1, p2⟩, ⟨q0, q1, q2⟩] := h.touch0 ((((Touch.refl [] w).alloc _).alloc _).alloc _)
  obtain ⟨g0, g1, g2⟩ := vals_at hr 0 (by simp)
  obtain ⟨g3, g4, g5⟩ := vals_at hr 1 (by simp)
  simp only [List.getElem_cons_zero, List.getElem_cons_succ, Nat.zero_mul, Nat.zero_add, Nat.one_mul, Nat.reduceAdd] at g0 g1 g2 g3 g4 g5
  clear hE hV hZ hg hW h hr
  have Htr := Lib.hid fun w' => truth_any (VD.tru ⟨q0, q1, q2⟩) w'
  rw [← hw] at Htr
  simp only [VD.val] at Htr
  have Htru := Lib.hid fun w' => true_any ⟨q0, q1, q2⟩ w'
  simp only [VD.val] at Htru
  go_enter Try.func43, Try.ntmps43
  go_wp2_with fail
  rw [← HW.out]
  clear g0 g1 g2 g3 g4 g5
  refine (Htru.out _).mono ?_
  rintro e w1 ⟨rfl, u1⟩
  obtain ⟨e0, e1, e2, e3, e4, e5, e6, _⟩ := blk7 (u1.blk HE.out (by simp))
  obtain ⟨z0, z1, z2, f0, f1, f2⟩ := blk3 (u1.blk HZ.out (by simp))
  obtain ⟨g0, g1, g2⟩ := vals_at (HG.out.touch0 u1) 0 (by simp)
  obtain ⟨g3, g4, g5⟩ := vals_at (HG.out.touch0 u1) 1 (by simp)
  simp only [List.getElem_cons_zero, List.getElem_cons_succ, Nat.zero_mul, Nat.zero_add, Nat.one_mul, Nat.reduceAdd] at g0 g1 g2 g3 g4 g5
  go_wp2_with fail
  clear e0 e1 e2 e3 e4 e5 e6 z0 z1 z2 f0 f1 f2 g0 g1 g2 g3 g4 g5
  refine (Htr.out _).mono ?_
  rintro e w2 ⟨rfl, u2⟩
  have t2 := u1.trans0 u2
  obtain ⟨e0, e1, e2, e3, e4, e5, e6, _⟩ := blk7 (t2.blk HE.out (by simp))
  obtain ⟨z0, z1, z2, f0, f1, f2⟩ := blk3 (t2.blk HZ.out (by simp))
  obtain ⟨g0, g1, g2⟩ := vals_at (HG.out.touch0 t2) 0 (by simp)
  obtain ⟨g3, g4, g5⟩ := vals_at (HG.out.touch0 t2) 1 (by simp)
  simp only [List.getElem_cons_zero, List.getElem_cons_succ, Nat.zero_mul, Nat.zero_add, Nat.one_mul, Nat.reduceAdd] at g0 g1 g2 g3 g4 g5
  obtain ⟨s1, s2⟩ := out3 (t2.blk HZ.out (by simp)) (.int .i64 wk) (.int .i64 wn) (.string wt)
  obtain ⟨y0, y1, y2, _⟩ := blk3 s1
  obtain ⟨v0, v1, v2, _⟩ := blk3 (s2.blk (t2.blk HV.out (by simp)) (by simp))
  go_wp2_with fail
  go_ret
  exact ⟨rfl, (tW.trans0 t2).trans s2 (fun b hb => .inr (by simp at hb; omega))⟩

set_option maxRecDepth 100000 in
set_option maxHeartbeats 6400000 in
theorem whole_not (nk nn : Int) (nt : ByteArray) (p0 p1 : Int) (p2 : ByteArray) (wk wn : Int) (wt : ByteArray) (A : Option Addr) (m c g bc : Nat) (w : World) (h : ValsAt w (some ⟨g, 0, none⟩) [⟨p0, p1, p2⟩]) (hw : (⟨wk, wn, wt⟩ : VD) = bitV (!VD.tru ⟨p0, p1, p2⟩)) :
    Calls Try.prog 43 #[.agg #[.int .i64 3, .string ⟨#[]⟩, .int .i64 nk, .int .i64 nn, .string nt, .string ⟨#[110, 111, 116]⟩, .slice A m c], .slice (some ⟨g, 0, none⟩) 1 bc, .agg #[.int .i64 wk, .int .i64 wn, .string wt], .int .i64 0] w fun e w' => e = .returned (.bool true) ∧ Touch [] w w' := by
  have heq := fun w' => eqIn_val ⟨wk, wn, wt⟩ ⟨wk, wn, wt⟩ w'
  rw [(eqV3_iff _ _).2 rfl] at heq
  simp only at heq
  have hgd := guard_val
  obtain ⟨W, hW⟩ : ∃ W, W = ((w.alloc (.cells #[.int .i64 3, .string ⟨#[]⟩, .int .i64 nk, .int .i64 nn, .string nt, .string ⟨#[110, 111, 116]⟩, .slice A m c] 33)).alloc (.cells #[.int .i64 wk, .int .i64 wn, .string wt] 30)).alloc (.cells #[.int .i64 0, .int .i64 0, .string ⟨#[]⟩] 30) := ⟨_, rfl⟩
  have tW : Touch [] w W := by rw [hW]; exact (((Touch.refl [] w).alloc _).alloc _).alloc _
  have hE : W.heap[w.heap.size]? = some (.cells #[.int .i64 3, .string ⟨#[]⟩, .int .i64 nk, .int .i64 nn, .string nt, .string ⟨#[110, 111, 116]⟩, .slice A m c] 33) := by rw [hW]; exact (((Touch.refl [] (w.alloc (.cells #[.int .i64 3, .string ⟨#[]⟩, .int .i64 nk, .int .i64 nn, .string nt, .string ⟨#[110, 111, 116]⟩, .slice A m c] 33))).alloc _).alloc _).blk (heap_alloc_new w (.cells #[.int .i64 3, .string ⟨#[]⟩, .int .i64 nk, .int .i64 nn, .string nt, .string ⟨#[110, 111, 116]⟩, .slice A m c] 33)) (by simp)
  have hV : W.heap[w.heap.size + 1]? = some (.cells #[.int .i64 wk, .int .i64 wn, .string wt] 30) := by
    have := ((Touch.refl [] ((w.alloc (.cells #[.int .i64 3, .string ⟨#[]⟩, .int .i64 nk, .int .i64 nn, .string nt, .string ⟨#[110, 111, 116]⟩, .slice A m c] 33)).alloc (.cells #[.int .i64 wk, .int .i64 wn, .string wt] 30))).alloc (.cells #[.int .i64 0, .int .i64 0, .string ⟨#[]⟩] 30)).blk (heap_alloc_new (w.alloc (.cells #[.int .i64 3, .string ⟨#[]⟩, .int .i64 nk, .int .i64 nn, .string nt, .string ⟨#[110, 111, 116]⟩, .slice A m c] 33)) (.cells #[.int .i64 wk, .int .i64 wn, .string wt] 30)) (by simp)
    rw [World.size_alloc] at this
    rw [hW]; exact this
  have hZ : W.heap[w.heap.size + 1 + 1]? = some (.cells #[.int .i64 0, .int .i64 0, .string ⟨#[]⟩] 30) := by
    have := heap_alloc_new ((w.alloc (.cells #[.int .i64 3, .string ⟨#[]⟩, .int .i64 nk, .int .i64 nn, .string nt, .string ⟨#[110, 111, 116]⟩, .slice A m c] 33)).alloc (.cells #[.int .i64 wk, .int .i64 wn, .string wt] 30)) (.cells #[.int .i64 0, .int .i64 0, .string ⟨#[]⟩] 30)
    rw [World.size_alloc, World.size_alloc] at this
    rw [hW]; exact this
  have hg := h.touch0 tW
  have hgl0 : g < w.heap.size := Rd.lt h (by rw [flat_length vdE 3 vdE_length]; simp) g (by simp [fpo])
  have HE := Lib.hid hE; have HV := Lib.hid hV; have HZ := Lib.hid hZ; have HG := Lib.hid hg; have HW := Lib.hid hW
  have hr : ValsAt (((w.alloc (.cells #[.int .i64 3, .string ⟨#[]⟩, .int .i64 nk, .int .i64 nn, .string nt, .string ⟨#[110, 111, 116]⟩, .slice A m c] 33)).alloc (.cells #[.int .i64 wk, .int .i64 wn, .string wt] 30)).alloc (.cells #[.int .i64 0, .int .i64 0, .string ⟨#[]⟩] 30)) (some ⟨g, 0, none⟩) [⟨p0, p1, p2⟩] := h.touch0 ((((Touch.refl [] w).alloc _).alloc _).alloc _)
  obtain ⟨g0, g1, g2⟩ := vals_at hr 0 (by simp)
  simp only [List.getElem_cons_zero, Nat.zero_mul, Nat.zero_add] at g0 g1 g2
  clear hE hV hZ hg hW h hr
  have Htr := Lib.hid fun w' => truth_any (!VD.tru ⟨p0, p1, p2⟩) w'
  rw [← hw] at Htr
  simp only [VD.val] at Htr
  have Htru := Lib.hid fun w' => true_any ⟨p0, p1, p2⟩ w'
  simp only [VD.val] at Htru
  go_enter Try.func43, Try.ntmps43
  go_wp2_with fail
  rw [← HW.out]
  clear g0 g1 g2
  refine (Htru.out _).mono ?_
  rintro e w1 ⟨rfl, u1⟩
  obtain ⟨e0, e1, e2, e3, e4, e5, e6, _⟩ := blk7 (u1.blk HE.out (by simp))
  obtain ⟨z0, z1, z2, f0, f1, f2⟩ := blk3 (u1.blk HZ.out (by simp))
  obtain ⟨g0, g1, g2⟩ := vals_at (HG.out.touch0 u1) 0 (by simp)
  simp only [List.getElem_cons_zero, Nat.zero_mul, Nat.zero_add] at g0 g1 g2
  go_wp2_with fail
  clear e0 e1 e2 e3 e4 e5 e6 z0 z1 z2 f0 f1 f2 g0 g1 g2
  refine (Htr.out _).mono ?_
  rintro e w2 ⟨rfl, u2⟩
  have t2 := u1.trans0 u2
  obtain ⟨e0, e1, e2, e3, e4, e5, e6, _⟩ := blk7 (t2.blk HE.out (by simp))
  obtain ⟨z0, z1, z2, f0, f1, f2⟩ := blk3 (t2.blk HZ.out (by simp))
  obtain ⟨g0, g1, g2⟩ := vals_at (HG.out.touch0 t2) 0 (by simp)
  simp only [List.getElem_cons_zero, Nat.zero_mul, Nat.zero_add] at g0 g1 g2
  obtain ⟨s1, s2⟩ := out3 (t2.blk HZ.out (by simp)) (.int .i64 wk) (.int .i64 wn) (.string wt)
  obtain ⟨y0, y1, y2, _⟩ := blk3 s1
  obtain ⟨v0, v1, v2, _⟩ := blk3 (s2.blk (t2.blk HV.out (by simp)) (by simp))
  go_wp2_with fail
  go_ret
  exact ⟨rfl, (tW.trans0 t2).trans s2 (fun b hb => .inr (by simp at hb; omega))⟩

set_option maxRecDepth 100000 in
set_option maxHeartbeats 6400000 in
theorem whole_isnull (nk nn : Int) (nt : ByteArray) (p0 p1 : Int) (p2 : ByteArray) (wk wn : Int) (wt : ByteArray) (A : Option Addr) (m c g bc : Nat) (w : World) (h : ValsAt w (some ⟨g, 0, none⟩) [⟨p0, p1, p2⟩]) (hw : (⟨wk, wn, wt⟩ : VD) = bitV (decide (p0 = 0))) :
    Calls Try.prog 43 #[.agg #[.int .i64 5, .string ⟨#[105, 115, 110, 117, 108, 108]⟩, .int .i64 nk, .int .i64 nn, .string nt, .string ⟨#[]⟩, .slice A m c], .slice (some ⟨g, 0, none⟩) 1 bc, .agg #[.int .i64 wk, .int .i64 wn, .string wt], .int .i64 0] w fun e w' => e = .returned (.bool true) ∧ Touch [] w w' := by
  have heq := fun w' => eqIn_val ⟨wk, wn, wt⟩ ⟨wk, wn, wt⟩ w'
  rw [(eqV3_iff _ _).2 rfl] at heq
  simp only at heq
  have hgd := guard_val
  obtain ⟨W, hW⟩ : ∃ W, W = ((w.alloc (.cells #[.int .i64 5, .string ⟨#[105, 115, 110, 117, 108, 108]⟩, .int .i64 nk, .int .i64 nn, .string nt, .string ⟨#[]⟩, .slice A m c] 33)).alloc (.cells #[.int .i64 wk, .int .i64 wn, .string wt] 30)).alloc (.cells #[.int .i64 0, .int .i64 0, .string ⟨#[]⟩] 30) := ⟨_, rfl⟩
  have tW : Touch [] w W := by rw [hW]; exact (((Touch.refl [] w).alloc _).alloc _).alloc _
  have hE : W.heap[w.heap.size]? = some (.cells #[.int .i64 5, .string ⟨#[105, 115, 110, 117, 108, 108]⟩, .int .i64 nk, .int .i64 nn, .string nt, .string ⟨#[]⟩, .slice A m c] 33) := by rw [hW]; exact (((Touch.refl [] (w.alloc (.cells #[.int .i64 5, .string ⟨#[105, 115, 110, 117, 108, 108]⟩, .int .i64 nk, .int .i64 nn, .string nt, .string ⟨#[]⟩, .slice A m c] 33))).alloc _).alloc _).blk (heap_alloc_new w (.cells #[.int .i64 5, .string ⟨#[105, 115, 110, 117, 108, 108]⟩, .int .i64 nk, .int .i64 nn, .string nt, .string ⟨#[]⟩, .slice A m c] 33)) (by simp)
  have hV : W.heap[w.heap.size + 1]? = some (.cells #[.int .i64 wk, .int .i64 wn, .string wt] 30) := by
    have := ((Touch.refl [] ((w.alloc (.cells #[.int .i64 5, .string ⟨#[105, 115, 110, 117, 108, 108]⟩, .int .i64 nk, .int .i64 nn, .string nt, .string ⟨#[]⟩, .slice A m c] 33)).alloc (.cells #[.int .i64 wk, .int .i64 wn, .string wt] 30))).alloc (.cells #[.int .i64 0, .int .i64 0, .string ⟨#[]⟩] 30)).blk (heap_alloc_new (w.alloc (.cells #[.int .i64 5, .string ⟨#[105, 115, 110, 117, 108, 108]⟩, .int .i64 nk, .int .i64 nn, .string nt, .string ⟨#[]⟩, .slice A m c] 33)) (.cells #[.int .i64 wk, .int .i64 wn, .string wt] 30)) (by simp)
    rw [World.size_alloc] at this
    rw [hW]; exact this
  have hZ : W.heap[w.heap.size + 1 + 1]? = some (.cells #[.int .i64 0, .int .i64 0, .string ⟨#[]⟩] 30) := by
    have := heap_alloc_new ((w.alloc (.cells #[.int .i64 5, .string ⟨#[105, 115, 110, 117, 108, 108]⟩, .int .i64 nk, .int .i64 nn, .string nt, .string ⟨#[]⟩, .slice A m c] 33)).alloc (.cells #[.int .i64 wk, .int .i64 wn, .string wt] 30)) (.cells #[.int .i64 0, .int .i64 0, .string ⟨#[]⟩] 30)
    rw [World.size_alloc, World.size_alloc] at this
    rw [hW]; exact this
  have hg := h.touch0 tW
  have hgl0 : g < w.heap.size := Rd.lt h (by rw [flat_length vdE 3 vdE_length]; simp) g (by simp [fpo])
  have HE := Lib.hid hE; have HV := Lib.hid hV; have HZ := Lib.hid hZ; have HG := Lib.hid hg; have HW := Lib.hid hW
  have hr : ValsAt (((w.alloc (.cells #[.int .i64 5, .string ⟨#[105, 115, 110, 117, 108, 108]⟩, .int .i64 nk, .int .i64 nn, .string nt, .string ⟨#[]⟩, .slice A m c] 33)).alloc (.cells #[.int .i64 wk, .int .i64 wn, .string wt] 30)).alloc (.cells #[.int .i64 0, .int .i64 0, .string ⟨#[]⟩] 30)) (some ⟨g, 0, none⟩) [⟨p0, p1, p2⟩] := h.touch0 ((((Touch.refl [] w).alloc _).alloc _).alloc _)
  obtain ⟨g0, g1, g2⟩ := vals_at hr 0 (by simp)
  simp only [List.getElem_cons_zero, Nat.zero_mul, Nat.zero_add] at g0 g1 g2
  clear hE hV hZ hg hW h hr
  have Htr := Lib.hid fun w' => truth_any (decide (p0 = 0)) w'
  rw [← hw] at Htr
  simp only [VD.val] at Htr
  have hq0 : (p0 == 0) = decide (p0 = 0) := by rw [Bool.eq_iff_iff]; simp
  go_enter Try.func43, Try.ntmps43
  go_wp2_with fail
  rw [← HW.out]
  clear g0 g1 g2
  refine (Htr.out _).mono ?_
  rintro e w1 ⟨rfl, u1⟩
  obtain ⟨e0, e1, e2, e3, e4, e5, e6, _⟩ := blk7 (u1.blk HE.out (by simp))
  obtain ⟨z0, z1, z2, f0, f1, f2⟩ := blk3 (u1.blk HZ.out (by simp))
  obtain ⟨g0, g1, g2⟩ := vals_at (HG.out.touch0 u1) 0 (by simp)
  simp only [List.getElem_cons_zero, Nat.zero_mul, Nat.zero_add] at g0 g1 g2
  obtain ⟨s1, s2⟩ := out3 (u1.blk HZ.out (by simp)) (.int .i64 wk) (.int .i64 wn) (.string wt)
  obtain ⟨y0, y1, y2, _⟩ := blk3 s1
  obtain ⟨v0, v1, v2, _⟩ := blk3 (s2.blk (u1.blk HV.out (by simp)) (by simp))
  go_wp2_with fail
  go_ret
  exact ⟨rfl, (tW.trans0 u1).trans s2 (fun b hb => .inr (by simp at hb; omega))⟩

set_option maxRecDepth 100000 in
set_option maxHeartbeats 6400000 in
theorem whole_either (nk nn : Int) (nt : ByteArray) (p0 p1 : Int) (p2 : ByteArray) (q0 q1 : Int) (q2 : ByteArray) (hp : p0 = 0) (wk wn : Int) (wt : ByteArray) (A : Option Addr) (m c g bc : Nat) (w : World) (h : ValsAt w (some ⟨g, 0, none⟩) [⟨p0, p1, p2⟩, ⟨q0, q1, q2⟩]) (hw : (⟨wk, wn, wt⟩ : VD) = ⟨q0, q1, q2⟩) :
    Calls Try.prog 43 #[.agg #[.int .i64 5, .string ⟨#[101, 105, 116, 104, 101, 114]⟩, .int .i64 nk, .int .i64 nn, .string nt, .string ⟨#[]⟩, .slice A m c], .slice (some ⟨g, 0, none⟩) 2 bc, .agg #[.int .i64 wk, .int .i64 wn, .string wt], .int .i64 0] w fun e w' => e = .returned (.bool true) ∧ Touch [] w w' := by
  have heq := fun w' => eqIn_val ⟨wk, wn, wt⟩ ⟨wk, wn, wt⟩ w'
  rw [(eqV3_iff _ _).2 rfl] at heq
  simp only at heq
  have hgd := guard_val
  obtain ⟨W, hW⟩ : ∃ W, W = ((w.alloc (.cells #[.int .i64 5, .string ⟨#[101, 105, 116, 104, 101, 114]⟩, .int .i64 nk, .int .i64 nn, .string nt, .string ⟨#[]⟩, .slice A m c] 33)).alloc (.cells #[.int .i64 wk, .int .i64 wn, .string wt] 30)).alloc (.cells #[.int .i64 0, .int .i64 0, .string ⟨#[]⟩] 30) := ⟨_, rfl⟩
  have tW : Touch [] w W := by rw [hW]; exact (((Touch.refl [] w).alloc _).alloc _).alloc _
  have hE : W.heap[w.heap.size]? = some (.cells #[.int .i64 5, .string ⟨#[101, 105, 116, 104, 101, 114]⟩, .int .i64 nk, .int .i64 nn, .string nt, .string ⟨#[]⟩, .slice A m c] 33) := by rw [hW]; exact (((Touch.refl [] (w.alloc (.cells #[.int .i64 5, .string ⟨#[101, 105, 116, 104, 101, 114]⟩, .int .i64 nk, .int .i64 nn, .string nt, .string ⟨#[]⟩, .slice A m c] 33))).alloc _).alloc _).blk (heap_alloc_new w (.cells #[.int .i64 5, .string ⟨#[101, 105, 116, 104, 101, 114]⟩, .int .i64 nk, .int .i64 nn, .string nt, .string ⟨#[]⟩, .slice A m c] 33)) (by simp)
  have hV : W.heap[w.heap.size + 1]? = some (.cells #[.int .i64 wk, .int .i64 wn, .string wt] 30) := by
    have := ((Touch.refl [] ((w.alloc (.cells #[.int .i64 5, .string ⟨#[101, 105, 116, 104, 101, 114]⟩, .int .i64 nk, .int .i64 nn, .string nt, .string ⟨#[]⟩, .slice A m c] 33)).alloc (.cells #[.int .i64 wk, .int .i64 wn, .string wt] 30))).alloc (.cells #[.int .i64 0, .int .i64 0, .string ⟨#[]⟩] 30)).blk (heap_alloc_new (w.alloc (.cells #[.int .i64 5, .string ⟨#[101, 105, 116, 104, 101, 114]⟩, .int .i64 nk, .int .i64 nn, .string nt, .string ⟨#[]⟩, .slice A m c] 33)) (.cells #[.int .i64 wk, .int .i64 wn, .string wt] 30)) (by simp)
    rw [World.size_alloc] at this
    rw [hW]; exact this
  have hZ : W.heap[w.heap.size + 1 + 1]? = some (.cells #[.int .i64 0, .int .i64 0, .string ⟨#[]⟩] 30) := by
    have := heap_alloc_new ((w.alloc (.cells #[.int .i64 5, .string ⟨#[101, 105, 116, 104, 101, 114]⟩, .int .i64 nk, .int .i64 nn, .string nt, .string ⟨#[]⟩, .slice A m c] 33)).alloc (.cells #[.int .i64 wk, .int .i64 wn, .string wt] 30)) (.cells #[.int .i64 0, .int .i64 0, .string ⟨#[]⟩] 30)
    rw [World.size_alloc, World.size_alloc] at this
    rw [hW]; exact this
  have hg := h.touch0 tW
  have hgl0 : g < w.heap.size := Rd.lt h (by rw [flat_length vdE 3 vdE_length]; simp) g (by simp [fpo])
  have HE := Lib.hid hE; have HV := Lib.hid hV; have HZ := Lib.hid hZ; have HG := Lib.hid hg; have HW := Lib.hid hW
  have hr : ValsAt (((w.alloc (.cells #[.int .i64 5, .string ⟨#[101, 105, 116, 104, 101, 114]⟩, .int .i64 nk, .int .i64 nn, .string nt, .string ⟨#[]⟩, .slice A m c] 33)).alloc (.cells #[.int .i64 wk, .int .i64 wn, .string wt] 30)).alloc (.cells #[.int .i64 0, .int .i64 0, .string ⟨#[]⟩] 30)) (some ⟨g, 0, none⟩) [⟨p0, p1, p2⟩, ⟨q0, q1, q2⟩] := h.touch0 ((((Touch.refl [] w).alloc _).alloc _).alloc _)
  obtain ⟨g0, g1, g2⟩ := vals_at hr 0 (by simp)
  obtain ⟨g3, g4, g5⟩ := vals_at hr 1 (by simp)
  simp only [List.getElem_cons_zero, List.getElem_cons_succ, Nat.zero_mul, Nat.zero_add, Nat.one_mul, Nat.reduceAdd] at g0 g1 g2 g3 g4 g5
  clear hE hV hZ hg hW h hr
  have hq0 : (p0 == 0) = true := by simpa using hp
  cases hw
  subst_vars
  go_enter Try.func43, Try.ntmps43
  go_wp2_with fail
  go_ret
  exact ⟨rfl, (((Touch.refl [] w).alloc _).alloc _).alloc _⟩

set_option maxRecDepth 100000 in
set_option maxHeartbeats 6400000 in
theorem whole_lenN (nk nn : Int) (nt : ByteArray) (p0 p1 : Int) (p2 : ByteArray) (hp : p0 = 0) (wk wn : Int) (wt : ByteArray) (A : Option Addr) (m c g bc : Nat) (w : World) (h : ValsAt w (some ⟨g, 0, none⟩) [⟨p0, p1, p2⟩]) (hw : (⟨wk, wn, wt⟩ : VD) = zeroV) :
    Calls Try.prog 43 #[.agg #[.int .i64 5, .string ⟨#[108, 101, 110]⟩, .int .i64 nk, .int .i64 nn, .string nt, .string ⟨#[]⟩, .slice A m c], .slice (some ⟨g, 0, none⟩) 1 bc, .agg #[.int .i64 wk, .int .i64 wn, .string wt], .int .i64 0] w fun e w' => e = .returned (.bool true) ∧ Touch [] w w' := by
  have heq := fun w' => eqIn_val ⟨wk, wn, wt⟩ ⟨wk, wn, wt⟩ w'
  rw [(eqV3_iff _ _).2 rfl] at heq
  simp only at heq
  have hgd := guard_val
  obtain ⟨W, hW⟩ : ∃ W, W = ((w.alloc (.cells #[.int .i64 5, .string ⟨#[108, 101, 110]⟩, .int .i64 nk, .int .i64 nn, .string nt, .string ⟨#[]⟩, .slice A m c] 33)).alloc (.cells #[.int .i64 wk, .int .i64 wn, .string wt] 30)).alloc (.cells #[.int .i64 0, .int .i64 0, .string ⟨#[]⟩] 30) := ⟨_, rfl⟩
  have tW : Touch [] w W := by rw [hW]; exact (((Touch.refl [] w).alloc _).alloc _).alloc _
  have hE : W.heap[w.heap.size]? = some (.cells #[.int .i64 5, .string ⟨#[108, 101, 110]⟩, .int .i64 nk, .int .i64 nn, .string nt, .string ⟨#[]⟩, .slice A m c] 33) := by rw [hW]; exact (((Touch.refl [] (w.alloc (.cells #[.int .i64 5, .string ⟨#[108, 101, 110]⟩, .int .i64 nk, .int .i64 nn, .string nt, .string ⟨#[]⟩, .slice A m c] 33))).alloc _).alloc _).blk (heap_alloc_new w (.cells #[.int .i64 5, .string ⟨#[108, 101, 110]⟩, .int .i64 nk, .int .i64 nn, .string nt, .string ⟨#[]⟩, .slice A m c] 33)) (by simp)
  have hV : W.heap[w.heap.size + 1]? = some (.cells #[.int .i64 wk, .int .i64 wn, .string wt] 30) := by
    have := ((Touch.refl [] ((w.alloc (.cells #[.int .i64 5, .string ⟨#[108, 101, 110]⟩, .int .i64 nk, .int .i64 nn, .string nt, .string ⟨#[]⟩, .slice A m c] 33)).alloc (.cells #[.int .i64 wk, .int .i64 wn, .string wt] 30))).alloc (.cells #[.int .i64 0, .int .i64 0, .string ⟨#[]⟩] 30)).blk (heap_alloc_new (w.alloc (.cells #[.int .i64 5, .string ⟨#[108, 101, 110]⟩, .int .i64 nk, .int .i64 nn, .string nt, .string ⟨#[]⟩, .slice A m c] 33)) (.cells #[.int .i64 wk, .int .i64 wn, .string wt] 30)) (by simp)
    rw [World.size_alloc] at this
    rw [hW]; exact this
  have hZ : W.heap[w.heap.size + 1 + 1]? = some (.cells #[.int .i64 0, .int .i64 0, .string ⟨#[]⟩] 30) := by
    have := heap_alloc_new ((w.alloc (.cells #[.int .i64 5, .string ⟨#[108, 101, 110]⟩, .int .i64 nk, .int .i64 nn, .string nt, .string ⟨#[]⟩, .slice A m c] 33)).alloc (.cells #[.int .i64 wk, .int .i64 wn, .string wt] 30)) (.cells #[.int .i64 0, .int .i64 0, .string ⟨#[]⟩] 30)
    rw [World.size_alloc, World.size_alloc] at this
    rw [hW]; exact this
  have hg := h.touch0 tW
  have hgl0 : g < w.heap.size := Rd.lt h (by rw [flat_length vdE 3 vdE_length]; simp) g (by simp [fpo])
  have HE := Lib.hid hE; have HV := Lib.hid hV; have HZ := Lib.hid hZ; have HG := Lib.hid hg; have HW := Lib.hid hW
  have hr : ValsAt (((w.alloc (.cells #[.int .i64 5, .string ⟨#[108, 101, 110]⟩, .int .i64 nk, .int .i64 nn, .string nt, .string ⟨#[]⟩, .slice A m c] 33)).alloc (.cells #[.int .i64 wk, .int .i64 wn, .string wt] 30)).alloc (.cells #[.int .i64 0, .int .i64 0, .string ⟨#[]⟩] 30)) (some ⟨g, 0, none⟩) [⟨p0, p1, p2⟩] := h.touch0 ((((Touch.refl [] w).alloc _).alloc _).alloc _)
  obtain ⟨g0, g1, g2⟩ := vals_at hr 0 (by simp)
  simp only [List.getElem_cons_zero, Nat.zero_mul, Nat.zero_add] at g0 g1 g2
  clear hE hV hZ hg hW h hr
  have hq0 : (p0 == 0) = true := by simpa using hp
  cases hw
  simp only [S] at heq g0 g1 g2 ⊢
  subst_vars
  go_enter Try.func43, Try.ntmps43
  go_wp2_with fail
  go_ret
  exact ⟨rfl, (((Touch.refl [] w).alloc _).alloc _).alloc _⟩

set_option maxRecDepth 100000 in
set_option maxHeartbeats 6400000 in
theorem whole_absN (nk nn : Int) (nt : ByteArray) (p0 p1 : Int) (p2 : ByteArray) (hp : p0 = 0) (wk wn : Int) (wt : ByteArray) (A : Option Addr) (m c g bc : Nat) (w : World) (h : ValsAt w (some ⟨g, 0, none⟩) [⟨p0, p1, p2⟩]) (hw : (⟨wk, wn, wt⟩ : VD) = zeroV) :
    Calls Try.prog 43 #[.agg #[.int .i64 5, .string ⟨#[97, 98, 115]⟩, .int .i64 nk, .int .i64 nn, .string nt, .string ⟨#[]⟩, .slice A m c], .slice (some ⟨g, 0, none⟩) 1 bc, .agg #[.int .i64 wk, .int .i64 wn, .string wt], .int .i64 0] w fun e w' => e = .returned (.bool true) ∧ Touch [] w w' := by
  have heq := fun w' => eqIn_val ⟨wk, wn, wt⟩ ⟨wk, wn, wt⟩ w'
  rw [(eqV3_iff _ _).2 rfl] at heq
  simp only at heq
  have hgd := guard_val
  obtain ⟨W, hW⟩ : ∃ W, W = ((w.alloc (.cells #[.int .i64 5, .string ⟨#[97, 98, 115]⟩, .int .i64 nk, .int .i64 nn, .string nt, .string ⟨#[]⟩, .slice A m c] 33)).alloc (.cells #[.int .i64 wk, .int .i64 wn, .string wt] 30)).alloc (.cells #[.int .i64 0, .int .i64 0, .string ⟨#[]⟩] 30) := ⟨_, rfl⟩
  have tW : Touch [] w W := by rw [hW]; exact (((Touch.refl [] w).alloc _).alloc _).alloc _
  have hE : W.heap[w.heap.size]? = some (.cells #[.int .i64 5, .string ⟨#[97, 98, 115]⟩, .int .i64 nk, .int .i64 nn, .string nt, .string ⟨#[]⟩, .slice A m c] 33) := by rw [hW]; exact (((Touch.refl [] (w.alloc (.cells #[.int .i64 5, .string ⟨#[97, 98, 115]⟩, .int .i64 nk, .int .i64 nn, .string nt, .string ⟨#[]⟩, .slice A m c] 33))).alloc _).alloc _).blk (heap_alloc_new w (.cells #[.int .i64 5, .string ⟨#[97, 98, 115]⟩, .int .i64 nk, .int .i64 nn, .string nt, .string ⟨#[]⟩, .slice A m c] 33)) (by simp)
  have hV : W.heap[w.heap.size + 1]? = some (.cells #[.int .i64 wk, .int .i64 wn, .string wt] 30) := by
    have := ((Touch.refl [] ((w.alloc (.cells #[.int .i64 5, .string ⟨#[97, 98, 115]⟩, .int .i64 nk, .int .i64 nn, .string nt, .string ⟨#[]⟩, .slice A m c] 33)).alloc (.cells #[.int .i64 wk, .int .i64 wn, .string wt] 30))).alloc (.cells #[.int .i64 0, .int .i64 0, .string ⟨#[]⟩] 30)).blk (heap_alloc_new (w.alloc (.cells #[.int .i64 5, .string ⟨#[97, 98, 115]⟩, .int .i64 nk, .int .i64 nn, .string nt, .string ⟨#[]⟩, .slice A m c] 33)) (.cells #[.int .i64 wk, .int .i64 wn, .string wt] 30)) (by simp)
    rw [World.size_alloc] at this
    rw [hW]; exact this
  have hZ : W.heap[w.heap.size + 1 + 1]? = some (.cells #[.int .i64 0, .int .i64 0, .string ⟨#[]⟩] 30) := by
    have := heap_alloc_new ((w.alloc (.cells #[.int .i64 5, .string ⟨#[97, 98, 115]⟩, .int .i64 nk, .int .i64 nn, .string nt, .string ⟨#[]⟩, .slice A m c] 33)).alloc (.cells #[.int .i64 wk, .int .i64 wn, .string wt] 30)) (.cells #[.int .i64 0, .int .i64 0, .string ⟨#[]⟩] 30)
    rw [World.size_alloc, World.size_alloc] at this
    rw [hW]; exact this
  have hg := h.touch0 tW
  have hgl0 : g < w.heap.size := Rd.lt h (by rw [flat_length vdE 3 vdE_length]; simp) g (by simp [fpo])
  have HE := Lib.hid hE; have HV := Lib.hid hV; have HZ := Lib.hid hZ; have HG := Lib.hid hg; have HW := Lib.hid hW
  have hr : ValsAt (((w.alloc (.cells #[.int .i64 5, .string ⟨#[97, 98, 115]⟩, .int .i64 nk, .int .i64 nn, .string nt, .string ⟨#[]⟩, .slice A m c] 33)).alloc (.cells #[.int .i64 wk, .int .i64 wn, .string wt] 30)).alloc (.cells #[.int .i64 0, .int .i64 0, .string ⟨#[]⟩] 30)) (some ⟨g, 0, none⟩) [⟨p0, p1, p2⟩] := h.touch0 ((((Touch.refl [] w).alloc _).alloc _).alloc _)
  obtain ⟨g0, g1, g2⟩ := vals_at hr 0 (by simp)
  simp only [List.getElem_cons_zero, Nat.zero_mul, Nat.zero_add] at g0 g1 g2
  clear hE hV hZ hg hW h hr
  have hq0 : (p0 == 0) = true := by simpa using hp
  cases hw
  simp only [S] at heq g0 g1 g2 ⊢
  subst_vars
  go_enter Try.func43, Try.ntmps43
  go_wp2_with fail
  go_ret
  exact ⟨rfl, (((Touch.refl [] w).alloc _).alloc _).alloc _⟩

set_option maxRecDepth 100000 in
set_option maxHeartbeats 6400000 in
theorem whole_catN (nk nn : Int) (nt : ByteArray) (p0 p1 : Int) (p2 : ByteArray) (q0 q1 : Int) (q2 : ByteArray) (hp : p0 = 0) (wk wn : Int) (wt : ByteArray) (A : Option Addr) (m c g bc : Nat) (w : World) (h : ValsAt w (some ⟨g, 0, none⟩) [⟨p0, p1, p2⟩, ⟨q0, q1, q2⟩]) (hw : (⟨wk, wn, wt⟩ : VD) = zeroV) :
    Calls Try.prog 43 #[.agg #[.int .i64 5, .string ⟨#[99, 97, 116]⟩, .int .i64 nk, .int .i64 nn, .string nt, .string ⟨#[]⟩, .slice A m c], .slice (some ⟨g, 0, none⟩) 2 bc, .agg #[.int .i64 wk, .int .i64 wn, .string wt], .int .i64 0] w fun e w' => e = .returned (.bool true) ∧ Touch [] w w' := by
  have heq := fun w' => eqIn_val ⟨wk, wn, wt⟩ ⟨wk, wn, wt⟩ w'
  rw [(eqV3_iff _ _).2 rfl] at heq
  simp only at heq
  have hgd := guard_val
  obtain ⟨W, hW⟩ : ∃ W, W = ((w.alloc (.cells #[.int .i64 5, .string ⟨#[99, 97, 116]⟩, .int .i64 nk, .int .i64 nn, .string nt, .string ⟨#[]⟩, .slice A m c] 33)).alloc (.cells #[.int .i64 wk, .int .i64 wn, .string wt] 30)).alloc (.cells #[.int .i64 0, .int .i64 0, .string ⟨#[]⟩] 30) := ⟨_, rfl⟩
  have tW : Touch [] w W := by rw [hW]; exact (((Touch.refl [] w).alloc _).alloc _).alloc _
  have hE : W.heap[w.heap.size]? = some (.cells #[.int .i64 5, .string ⟨#[99, 97, 116]⟩, .int .i64 nk, .int .i64 nn, .string nt, .string ⟨#[]⟩, .slice A m c] 33) := by rw [hW]; exact (((Touch.refl [] (w.alloc (.cells #[.int .i64 5, .string ⟨#[99, 97, 116]⟩, .int .i64 nk, .int .i64 nn, .string nt, .string ⟨#[]⟩, .slice A m c] 33))).alloc _).alloc _).blk (heap_alloc_new w (.cells #[.int .i64 5, .string ⟨#[99, 97, 116]⟩, .int .i64 nk, .int .i64 nn, .string nt, .string ⟨#[]⟩, .slice A m c] 33)) (by simp)
  have hV : W.heap[w.heap.size + 1]? = some (.cells #[.int .i64 wk, .int .i64 wn, .string wt] 30) := by
    have := ((Touch.refl [] ((w.alloc (.cells #[.int .i64 5, .string ⟨#[99, 97, 116]⟩, .int .i64 nk, .int .i64 nn, .string nt, .string ⟨#[]⟩, .slice A m c] 33)).alloc (.cells #[.int .i64 wk, .int .i64 wn, .string wt] 30))).alloc (.cells #[.int .i64 0, .int .i64 0, .string ⟨#[]⟩] 30)).blk (heap_alloc_new (w.alloc (.cells #[.int .i64 5, .string ⟨#[99, 97, 116]⟩, .int .i64 nk, .int .i64 nn, .string nt, .string ⟨#[]⟩, .slice A m c] 33)) (.cells #[.int .i64 wk, .int .i64 wn, .string wt] 30)) (by simp)
    rw [World.size_alloc] at this
    rw [hW]; exact this
  have hZ : W.heap[w.heap.size + 1 + 1]? = some (.cells #[.int .i64 0, .int .i64 0, .string ⟨#[]⟩] 30) := by
    have := heap_alloc_new ((w.alloc (.cells #[.int .i64 5, .string ⟨#[99, 97, 116]⟩, .int .i64 nk, .int .i64 nn, .string nt, .string ⟨#[]⟩, .slice A m c] 33)).alloc (.cells #[.int .i64 wk, .int .i64 wn, .string wt] 30)) (.cells #[.int .i64 0, .int .i64 0, .string ⟨#[]⟩] 30)
    rw [World.size_alloc, World.size_alloc] at this
    rw [hW]; exact this
  have hg := h.touch0 tW
  have hgl0 : g < w.heap.size := Rd.lt h (by rw [flat_length vdE 3 vdE_length]; simp) g (by simp [fpo])
  have HE := Lib.hid hE; have HV := Lib.hid hV; have HZ := Lib.hid hZ; have HG := Lib.hid hg; have HW := Lib.hid hW
  have hr : ValsAt (((w.alloc (.cells #[.int .i64 5, .string ⟨#[99, 97, 116]⟩, .int .i64 nk, .int .i64 nn, .string nt, .string ⟨#[]⟩, .slice A m c] 33)).alloc (.cells #[.int .i64 wk, .int .i64 wn, .string wt] 30)).alloc (.cells #[.int .i64 0, .int .i64 0, .string ⟨#[]⟩] 30)) (some ⟨g, 0, none⟩) [⟨p0, p1, p2⟩, ⟨q0, q1, q2⟩] := h.touch0 ((((Touch.refl [] w).alloc _).alloc _).alloc _)
  obtain ⟨g0, g1, g2⟩ := vals_at hr 0 (by simp)
  obtain ⟨g3, g4, g5⟩ := vals_at hr 1 (by simp)
  simp only [List.getElem_cons_zero, List.getElem_cons_succ, Nat.zero_mul, Nat.zero_add, Nat.one_mul, Nat.reduceAdd] at g0 g1 g2 g3 g4 g5
  clear hE hV hZ hg hW h hr
  have hq0 : (p0 == 0) = true := by simpa using hp
  cases hw
  simp only [S] at heq g0 g1 g2 g3 g4 g5 ⊢
  subst_vars
  go_enter Try.func43, Try.ntmps43
  go_wp2_with fail
  go_ret
  exact ⟨rfl, (((Touch.refl [] w).alloc _).alloc _).alloc _⟩

set_option maxRecDepth 100000 in
set_option maxHeartbeats 6400000 in
theorem whole_catM (nk nn : Int) (nt : ByteArray) (p0 p1 : Int) (p2 : ByteArray) (q0 q1 : Int) (q2 : ByteArray) (hp : p0 ≠ 0) (hq : q0 = 0) (wk wn : Int) (wt : ByteArray) (A : Option Addr) (m c g bc : Nat) (w : World) (h : ValsAt w (some ⟨g, 0, none⟩) [⟨p0, p1, p2⟩, ⟨q0, q1, q2⟩]) (hw : (⟨wk, wn, wt⟩ : VD) = zeroV) :
    Calls Try.prog 43 #[.agg #[.int .i64 5, .string ⟨#[99, 97, 116]⟩, .int .i64 nk, .int .i64 nn, .string nt, .string ⟨#[]⟩, .slice A m c], .slice (some ⟨g, 0, none⟩) 2 bc, .agg #[.int .i64 wk, .int .i64 wn, .string wt], .int .i64 0] w fun e w' => e = .returned (.bool true) ∧ Touch [] w w' := by
  have heq := fun w' => eqIn_val ⟨wk, wn, wt⟩ ⟨wk, wn, wt⟩ w'
  rw [(eqV3_iff _ _).2 rfl] at heq
  simp only at heq
  have hgd := guard_val
  obtain ⟨W, hW⟩ : ∃ W, W = ((w.alloc (.cells #[.int .i64 5, .string ⟨#[99, 97, 116]⟩, .int .i64 nk, .int .i64 nn, .string nt, .string ⟨#[]⟩, .slice A m c] 33)).alloc (.cells #[.int .i64 wk, .int .i64 wn, .string wt] 30)).alloc (.cells #[.int .i64 0, .int .i64 0, .string ⟨#[]⟩] 30) := ⟨_, rfl⟩
  have tW : Touch [] w W := by rw [hW]; exact (((Touch.refl [] w).alloc _).alloc _).alloc _
  have hE : W.heap[w.heap.size]? = some (.cells #[.int .i64 5, .string ⟨#[99, 97, 116]⟩, .int .i64 nk, .int .i64 nn, .string nt, .string ⟨#[]⟩, .slice A m c] 33) := by rw [hW]; exact (((Touch.refl [] (w.alloc (.cells #[.int .i64 5, .string ⟨#[99, 97, 116]⟩, .int .i64 nk, .int .i64 nn, .string nt, .string ⟨#[]⟩, .slice A m c] 33))).alloc _).alloc _).blk (heap_alloc_new w (.cells #[.int .i64 5, .string ⟨#[99, 97, 116]⟩, .int .i64 nk, .int .i64 nn, .string nt, .string ⟨#[]⟩, .slice A m c] 33)) (by simp)
  have hV : W.heap[w.heap.size + 1]? = some (.cells #[.int .i64 wk, .int .i64 wn, .string wt] 30) := by
    have := ((Touch.refl [] ((w.alloc (.cells #[.int .i64 5, .string ⟨#[99, 97, 116]⟩, .int .i64 nk, .int .i64 nn, .string nt, .string ⟨#[]⟩, .slice A m c] 33)).alloc (.cells #[.int .i64 wk, .int .i64 wn, .string wt] 30))).alloc (.cells #[.int .i64 0, .int .i64 0, .string ⟨#[]⟩] 30)).blk (heap_alloc_new (w.alloc (.cells #[.int .i64 5, .string ⟨#[99, 97, 116]⟩, .int .i64 nk, .int .i64 nn, .string nt, .string ⟨#[]⟩, .slice A m c] 33)) (.cells #[.int .i64 wk, .int .i64 wn, .string wt] 30)) (by simp)
    rw [World.size_alloc] at this
    rw [hW]; exact this
  have hZ : W.heap[w.heap.size + 1 + 1]? = some (.cells #[.int .i64 0, .int .i64 0, .string ⟨#[]⟩] 30) := by
    have := heap_alloc_new ((w.alloc (.cells #[.int .i64 5, .string ⟨#[99, 97, 116]⟩, .int .i64 nk, .int .i64 nn, .string nt, .string ⟨#[]⟩, .slice A m c] 33)).alloc (.cells #[.int .i64 wk, .int .i64 wn, .string wt] 30)) (.cells #[.int .i64 0, .int .i64 0, .string ⟨#[]⟩] 30)
    rw [World.size_alloc, World.size_alloc] at this
    rw [hW]; exact this
  have hg := h.touch0 tW
  have hgl0 : g < w.heap.size := Rd.lt h (by rw [flat_length vdE 3 vdE_length]; simp) g (by simp [fpo])
  have HE := Lib.hid hE; have HV := Lib.hid hV; have HZ := Lib.hid hZ; have HG := Lib.hid hg; have HW := Lib.hid hW
  have hr : ValsAt (((w.alloc (.cells #[.int .i64 5, .string ⟨#[99, 97, 116]⟩, .int .i64 nk, .int .i64 nn, .string nt, .string ⟨#[]⟩, .slice A m c] 33)).alloc (.cells #[.int .i64 wk, .int .i64 wn, .string wt] 30)).alloc (.cells #[.int .i64 0, .int .i64 0, .string ⟨#[]⟩] 30)) (some ⟨g, 0, none⟩) [⟨p0, p1, p2⟩, ⟨q0, q1, q2⟩] := h.touch0 ((((Touch.refl [] w).alloc _).alloc _).alloc _)
  obtain ⟨g0, g1, g2⟩ := vals_at hr 0 (by simp)
  obtain ⟨g3, g4, g5⟩ := vals_at hr 1 (by simp)
  simp only [List.getElem_cons_zero, List.getElem_cons_succ, Nat.zero_mul, Nat.zero_add, Nat.one_mul, Nat.reduceAdd] at g0 g1 g2 g3 g4 g5
  clear hE hV hZ hg hW h hr
  have hq0 : (p0 == 0) = false := by simpa using hp
  have hq1 : (q0 == 0) = true := by simpa using hq
  cases hw
  simp only [S] at heq g0 g1 g2 g3 g4 g5 ⊢
  subst_vars
  go_enter Try.func43, Try.ntmps43
  go_wp2_with fail
  go_ret
  exact ⟨rfl, (((Touch.refl [] w).alloc _).alloc _).alloc _⟩

set_option maxRecDepth 100000 in
set_option maxHeartbeats 6400000 in
theorem whole_len (nk nn : Int) (nt : ByteArray) (p0 p1 : Int) (p2 : ByteArray) (hp : p0 ≠ 0) (wk wn : Int) (wt : ByteArray) (A : Option Addr) (m c g bc : Nat) (w : World) (h : ValsAt w (some ⟨g, 0, none⟩) [⟨p0, p1, p2⟩]) (hw : (⟨wk, wn, wt⟩ : VD) = ofV p2.size) :
    Calls Try.prog 43 #[.agg #[.int .i64 5, .string ⟨#[108, 101, 110]⟩, .int .i64 nk, .int .i64 nn, .string nt, .string ⟨#[]⟩, .slice A m c], .slice (some ⟨g, 0, none⟩) 1 bc, .agg #[.int .i64 wk, .int .i64 wn, .string wt], .int .i64 0] w fun e w' => e = .returned (.bool true) ∧ Touch [] w w' := by
  have heq := fun w' => eqIn_val ⟨wk, wn, wt⟩ ⟨wk, wn, wt⟩ w'
  rw [(eqV3_iff _ _).2 rfl] at heq
  simp only at heq
  have hgd := guard_val
  obtain ⟨W, hW⟩ : ∃ W, W = ((w.alloc (.cells #[.int .i64 5, .string ⟨#[108, 101, 110]⟩, .int .i64 nk, .int .i64 nn, .string nt, .string ⟨#[]⟩, .slice A m c] 33)).alloc (.cells #[.int .i64 wk, .int .i64 wn, .string wt] 30)).alloc (.cells #[.int .i64 0, .int .i64 0, .string ⟨#[]⟩] 30) := ⟨_, rfl⟩
  have tW : Touch [] w W := by rw [hW]; exact (((Touch.refl [] w).alloc _).alloc _).alloc _
  have hE : W.heap[w.heap.size]? = some (.cells #[.int .i64 5, .string ⟨#[108, 101, 110]⟩, .int .i64 nk, .int .i64 nn, .string nt, .string ⟨#[]⟩, .slice A m c] 33) := by rw [hW]; exact (((Touch.refl [] (w.alloc (.cells #[.int .i64 5, .string ⟨#[108, 101, 110]⟩, .int .i64 nk, .int .i64 nn, .string nt, .string ⟨#[]⟩, .slice A m c] 33))).alloc _).alloc _).blk (heap_alloc_new w (.cells #[.int .i64 5, .string ⟨#[108, 101, 110]⟩, .int .i64 nk, .int .i64 nn, .string nt, .string ⟨#[]⟩, .slice A m c] 33)) (by simp)
  have hV : W.heap[w.heap.size + 1]? = some (.cells #[.int .i64 wk, .int .i64 wn, .string wt] 30) := by
    have := ((Touch.refl [] ((w.alloc (.cells #[.int .i64 5, .string ⟨#[108, 101, 110]⟩, .int .i64 nk, .int .i64 nn, .string nt, .string ⟨#[]⟩, .slice A m c] 33)).alloc (.cells #[.int .i64 wk, .int .i64 wn, .string wt] 30))).alloc (.cells #[.int .i64 0, .int .i64 0, .string ⟨#[]⟩] 30)).blk (heap_alloc_new (w.alloc (.cells #[.int .i64 5, .string ⟨#[108, 101, 110]⟩, .int .i64 nk, .int .i64 nn, .string nt, .string ⟨#[]⟩, .slice A m c] 33)) (.cells #[.int .i64 wk, .int .i64 wn, .string wt] 30)) (by simp)
    rw [World.size_alloc] at this
    rw [hW]; exact this
  have hZ : W.heap[w.heap.size + 1 + 1]? = some (.cells #[.int .i64 0, .int .i64 0, .string ⟨#[]⟩] 30) := by
    have := heap_alloc_new ((w.alloc (.cells #[.int .i64 5, .string ⟨#[108, 101, 110]⟩, .int .i64 nk, .int .i64 nn, .string nt, .string ⟨#[]⟩, .slice A m c] 33)).alloc (.cells #[.int .i64 wk, .int .i64 wn, .string wt] 30)) (.cells #[.int .i64 0, .int .i64 0, .string ⟨#[]⟩] 30)
    rw [World.size_alloc, World.size_alloc] at this
    rw [hW]; exact this
  have hg := h.touch0 tW
  have hgl0 : g < w.heap.size := Rd.lt h (by rw [flat_length vdE 3 vdE_length]; simp) g (by simp [fpo])
  have HE := Lib.hid hE; have HV := Lib.hid hV; have HZ := Lib.hid hZ; have HG := Lib.hid hg; have HW := Lib.hid hW
  have hr : ValsAt (((w.alloc (.cells #[.int .i64 5, .string ⟨#[108, 101, 110]⟩, .int .i64 nk, .int .i64 nn, .string nt, .string ⟨#[]⟩, .slice A m c] 33)).alloc (.cells #[.int .i64 wk, .int .i64 wn, .string wt] 30)).alloc (.cells #[.int .i64 0, .int .i64 0, .string ⟨#[]⟩] 30)) (some ⟨g, 0, none⟩) [⟨p0, p1, p2⟩] := h.touch0 ((((Touch.refl [] w).alloc _).alloc _).alloc _)
  obtain ⟨g0, g1, g2⟩ := vals_at hr 0 (by simp)
  simp only [List.getElem_cons_zero, Nat.zero_mul, Nat.zero_add] at g0 g1 g2
  clear hE hV hZ hg hW h hr
  have hq0 : (p0 == 0) = false := by simpa using hp
  have Hof := Lib.hid fun w' => of_any (p2.size : Int) w'
  rw [← hw] at Hof
  simp only [VD.val] at Hof
  go_enter Try.func43, Try.ntmps43
  go_wp2_with fail
  rw [← HW.out]
  clear g0 g1 g2
  refine (Hof.out _).mono ?_
  rintro e w1 ⟨rfl, u1⟩
  obtain ⟨e0, e1, e2, e3, e4, e5, e6, _⟩ := blk7 (u1.blk HE.out (by simp))
  obtain ⟨z0, z1, z2, f0, f1, f2⟩ := blk3 (u1.blk HZ.out (by simp))
  obtain ⟨g0, g1, g2⟩ := vals_at (HG.out.touch0 u1) 0 (by simp)
  simp only [List.getElem_cons_zero, Nat.zero_mul, Nat.zero_add] at g0 g1 g2
  obtain ⟨s1, s2⟩ := out3 (u1.blk HZ.out (by simp)) (.int .i64 wk) (.int .i64 wn) (.string wt)
  obtain ⟨y0, y1, y2, _⟩ := blk3 s1
  obtain ⟨v0, v1, v2, _⟩ := blk3 (s2.blk (u1.blk HV.out (by simp)) (by simp))
  go_wp2_with fail
  go_ret
  exact ⟨rfl, (tW.trans0 u1).trans s2 (fun b hb => .inr (by simp at hb; omega))⟩

set_option maxRecDepth 100000 in
set_option maxHeartbeats 6400000 in
theorem whole_absP (nk nn : Int) (nt : ByteArray) (p0 p1 : Int) (p2 : ByteArray) (hp : p0 ≠ 0) (hs : ¬ p1 < 0) (wk wn : Int) (wt : ByteArray) (A : Option Addr) (m c g bc : Nat) (w : World) (h : ValsAt w (some ⟨g, 0, none⟩) [⟨p0, p1, p2⟩]) (hw : (⟨wk, wn, wt⟩ : VD) = ⟨p0, p1, p2⟩) :
    Calls Try.prog 43 #[.agg #[.int .i64 5, .string ⟨#[97, 98, 115]⟩, .int .i64 nk, .int .i64 nn, .string nt, .string ⟨#[]⟩, .slice A m c], .slice (some ⟨g, 0, none⟩) 1 bc, .agg #[.int .i64 wk, .int .i64 wn, .string wt], .int .i64 0] w fun e w' => e = .returned (.bool true) ∧ Touch [] w w' := by
  have heq := fun w' => eqIn_val ⟨wk, wn, wt⟩ ⟨wk, wn, wt⟩ w'
  rw [(eqV3_iff _ _).2 rfl] at heq
  simp only at heq
  have hgd := guard_val
  obtain ⟨W, hW⟩ : ∃ W, W = ((w.alloc (.cells #[.int .i64 5, .string ⟨#[97, 98, 115]⟩, .int .i64 nk, .int .i64 nn, .string nt, .string ⟨#[]⟩, .slice A m c] 33)).alloc (.cells #[.int .i64 wk, .int .i64 wn, .string wt] 30)).alloc (.cells #[.int .i64 0, .int .i64 0, .string ⟨#[]⟩] 30) := ⟨_, rfl⟩
  have tW : Touch [] w W := by rw [hW]; exact (((Touch.refl [] w).alloc _).alloc _).alloc _
  have hE : W.heap[w.heap.size]? = some (.cells #[.int .i64 5, .string ⟨#[97, 98, 115]⟩, .int .i64 nk, .int .i64 nn, .string nt, .string ⟨#[]⟩, .slice A m c] 33) := by rw [hW]; exact (((Touch.refl [] (w.alloc (.cells #[.int .i64 5, .string ⟨#[97, 98, 115]⟩, .int .i64 nk, .int .i64 nn, .string nt, .string ⟨#[]⟩, .slice A m c] 33))).alloc _).alloc _).blk (heap_alloc_new w (.cells #[.int .i64 5, .string ⟨#[97, 98, 115]⟩, .int .i64 nk, .int .i64 nn, .string nt, .string ⟨#[]⟩, .slice A m c] 33)) (by simp)
  have hV : W.heap[w.heap.size + 1]? = some (.cells #[.int .i64 wk, .int .i64 wn, .string wt] 30) := by
    have := ((Touch.refl [] ((w.alloc (.cells #[.int .i64 5, .string ⟨#[97, 98, 115]⟩, .int .i64 nk, .int .i64 nn, .string nt, .string ⟨#[]⟩, .slice A m c] 33)).alloc (.cells #[.int .i64 wk, .int .i64 wn, .string wt] 30))).alloc (.cells #[.int .i64 0, .int .i64 0, .string ⟨#[]⟩] 30)).blk (heap_alloc_new (w.alloc (.cells #[.int .i64 5, .string ⟨#[97, 98, 115]⟩, .int .i64 nk, .int .i64 nn, .string nt, .string ⟨#[]⟩, .slice A m c] 33)) (.cells #[.int .i64 wk, .int .i64 wn, .string wt] 30)) (by simp)
    rw [World.size_alloc] at this
    rw [hW]; exact this
  have hZ : W.heap[w.heap.size + 1 + 1]? = some (.cells #[.int .i64 0, .int .i64 0, .string ⟨#[]⟩] 30) := by
    have := heap_alloc_new ((w.alloc (.cells #[.int .i64 5, .string ⟨#[97, 98, 115]⟩, .int .i64 nk, .int .i64 nn, .string nt, .string ⟨#[]⟩, .slice A m c] 33)).alloc (.cells #[.int .i64 wk, .int .i64 wn, .string wt] 30)) (.cells #[.int .i64 0, .int .i64 0, .string ⟨#[]⟩] 30)
    rw [World.size_alloc, World.size_alloc] at this
    rw [hW]; exact this
  have hg := h.touch0 tW
  have hgl0 : g < w.heap.size := Rd.lt h (by rw [flat_length vdE 3 vdE_length]; simp) g (by simp [fpo])
  have HE := Lib.hid hE; have HV := Lib.hid hV; have HZ := Lib.hid hZ; have HG := Lib.hid hg; have HW := Lib.hid hW
  have hr : ValsAt (((w.alloc (.cells #[.int .i64 5, .string ⟨#[97, 98, 115]⟩, .int .i64 nk, .int .i64 nn, .string nt, .string ⟨#[]⟩, .slice A m c] 33)).alloc (.cells #[.int .i64 wk, .int .i64 wn, .string wt] 30)).alloc (.cells #[.int .i64 0, .int .i64 0, .string ⟨#[]⟩] 30)) (some ⟨g, 0, none⟩) [⟨p0, p1, p2⟩] := h.touch0 ((((Touch.refl [] w).alloc _).alloc _).alloc _)
  obtain ⟨g0, g1, g2⟩ := vals_at hr 0 (by simp)
  simp only [List.getElem_cons_zero, Nat.zero_mul, Nat.zero_add] at g0 g1 g2
  clear hE hV hZ hg hW h hr
  have hq0 : (p0 == 0) = false := by simpa using hp
  cases hw
  subst_vars
  go_enter Try.func43, Try.ntmps43
  go_wp2_with fail
  go_ret
  exact ⟨rfl, (((Touch.refl [] w).alloc _).alloc _).alloc _⟩

set_option maxRecDepth 100000 in
set_option maxHeartbeats 6400000 in
theorem whole_neg (nk nn : Int) (nt : ByteArray) (p0 p1 : Int) (p2 : ByteArray) (wk wn : Int) (wt : ByteArray) (er : Int) (A : Option Addr) (m c g bc : Nat) (w : World) (h : ValsAt w (some ⟨g, 0, none⟩) [⟨p0, p1, p2⟩]) (hw : ((⟨wk, wn, wt⟩, er) : VD × Int) = arithV 45 (ofV 0) ⟨p0, p1, p2⟩) :
    Calls Try.prog 43 #[.agg #[.int .i64 3, .string ⟨#[]⟩, .int .i64 nk, .int .i64 nn, .string nt, .string ⟨#[45]⟩, .slice A m c], .slice (some ⟨g, 0, none⟩) 1 bc, .agg #[.int .i64 wk, .int .i64 wn, .string wt], .int .i64 er] w fun e w' => e = .returned (.bool true) ∧ Touch [] w w' := by
  have heq := fun w' => eqIn_val ⟨wk, wn, wt⟩ ⟨wk, wn, wt⟩ w'
  rw [(eqV3_iff _ _).2 rfl] at heq
  simp only at heq
  have hgd := guard_val
  obtain ⟨W, hW⟩ : ∃ W, W = ((w.alloc (.cells #[.int .i64 3, .string ⟨#[]⟩, .int .i64 nk, .int .i64 nn, .string nt, .string ⟨#[45]⟩, .slice A m c] 33)).alloc (.cells #[.int .i64 wk, .int .i64 wn, .string wt] 30)).alloc (.cells #[.int .i64 0, .int .i64 0, .string ⟨#[]⟩] 30) := ⟨_, rfl⟩
  have tW : Touch [] w W := by rw [hW]; exact (((Touch.refl [] w).alloc _).alloc _).alloc _
  have hE : W.heap[w.heap.size]? = some (.cells #[.int .i64 3, .string ⟨#[]⟩, .int .i64 nk, .int .i64 nn, .string nt, .string ⟨#[45]⟩, .slice A m c] 33) := by rw [hW]; exact (((Touch.refl [] (w.alloc (.cells #[.int .i64 3, .string ⟨#[]⟩, .int .i64 nk, .int .i64 nn, .string nt, .string ⟨#[45]⟩, .slice A m c] 33))).alloc _).alloc _).blk (heap_alloc_new w (.cells #[.int .i64 3, .string ⟨#[]⟩, .int .i64 nk, .int .i64 nn, .string nt, .string ⟨#[45]⟩, .slice A m c] 33)) (by simp)
  have hV : W.heap[w.heap.size + 1]? = some (.cells #[.int .i64 wk, .int .i64 wn, .string wt] 30) := by
    have := ((Touch.refl [] ((w.alloc (.cells #[.int .i64 3, .string ⟨#[]⟩, .int .i64 nk, .int .i64 nn, .string nt, .string ⟨#[45]⟩, .slice A m c] 33)).alloc (.cells #[.int .i64 wk, .int .i64 wn, .string wt] 30))).alloc (.cells #[.int .i64 0, .int .i64 0, .string ⟨#[]⟩] 30)).blk (heap_alloc_new (w.alloc (.cells #[.int .i64 3, .string ⟨#[]⟩, .int .i64 nk, .int .i64 nn, .string nt, .string ⟨#[45]⟩, .slice A m c] 33)) (.cells #[.int .i64 wk, .int .i64 wn, .string wt] 30)) (by simp)
    rw [World.size_alloc] at this
    rw [hW]; exact this
  have hZ : W.heap[w.heap.size + 1 + 1]? = some (.cells #[.int .i64 0, .int .i64 0, .string ⟨#[]⟩] 30) := by
    have := heap_alloc_new ((w.alloc (.cells #[.int .i64 3, .string ⟨#[]⟩, .int .i64 nk, .int .i64 nn, .string nt, .string ⟨#[45]⟩, .slice A m c] 33)).alloc (.cells #[.int .i64 wk, .int .i64 wn, .string wt] 30)) (.cells #[.int .i64 0, .int .i64 0, .string ⟨#[]⟩] 30)
    rw [World.size_alloc, World.size_alloc] at this
    rw [hW]; exact this
  have hg := h.touch0 tW
  have hgl0 : g < w.heap.size := Rd.lt h (by rw [flat_length vdE 3 vdE_length]; simp) g (by simp [fpo])
  have HE := Lib.hid hE; have HV := Lib.hid hV; have HZ := Lib.hid hZ; have HG := Lib.hid hg; have HW := Lib.hid hW
  have hr : ValsAt (((w.alloc (.cells #[.int .i64 3, .string ⟨#[]⟩, .int .i64 nk, .int .i64 nn, .string nt, .string ⟨#[45]⟩, .slice A m c] 33)).alloc (.cells #[.int .i64 wk, .int .i64 wn, .string wt] 30)).alloc (.cells #[.int .i64 0, .int .i64 0, .string ⟨#[]⟩] 30)) (some ⟨g, 0, none⟩) [⟨p0, p1, p2⟩] := h.touch0 ((((Touch.refl [] w).alloc _).alloc _).alloc _)
  obtain ⟨g0, g1, g2⟩ := vals_at hr 0 (by simp)
  simp only [List.getElem_cons_zero, Nat.zero_mul, Nat.zero_add] at g0 g1 g2
  clear hE hV hZ hg hW h hr
  have Har := Lib.hid fun w' => arith_any 45 (by decide) (ofV 0) ⟨p0, p1, p2⟩ w'
  rw [← hw] at Har
  simp only [VD.val, ofV, S] at Har
  go_enter Try.func43, Try.ntmps43
  go_wp2_with fail
  rw [← HW.out]
  clear g0 g1 g2
  obtain ⟨g0, g1, g2⟩ := vals_at (HG.out.touch0 (Touch.refl [] W).drew) 0 (by simp)
  simp only [List.getElem_cons_zero, Nat.zero_mul, Nat.zero_add] at g0 g1 g2
  refine wp_region_held_drew (S := fun w' => w'.cell? ⟨g, 0, none⟩ = some (.int .i64 p0) ∧ w'.cell? ⟨g, 1, none⟩ = some (.int .i64 p1) ∧ w'.cell? ⟨g, 2, none⟩ = some (.string p2)) (by kernel_rfl) ⟨g0, g1, g2⟩ (fun hHeld => ?_)
  refine take_d (i := 1) (d := 53) (v := ?_) rfl rfl (by kernel_rfl) (by kernel_rfl) (by kernel_rfl) (fun _ _ _ h => h) (Or.inl ⟨by rfl, ?_⟩) (by assumption) ?_
  rotate_left
  · intro w hSw; (try dsimp only at hSw); go_simp; (try with_reducible rfl)
  try simp only [Act.put, List.setIfInBounds_toArray, List.set_cons_zero, List.set_cons_succ]
  refine take_d (i := 2) (d := 54) (v := ?_) rfl rfl (by kernel_rfl) (by kernel_rfl) (by kernel_rfl) (fun _ _ _ h => h) (Or.inl ⟨by rfl, ?_⟩) (by assumption) ?_
  rotate_left
  · intro w hSw; (try dsimp only at hSw); go_simp; (try with_reducible rfl)
  try simp only [Act.put, List.setIfInBounds_toArray, List.set_cons_zero, List.set_cons_succ]
  refine take_d (i := 3) (d := 55) (v := ?_) rfl rfl (by kernel_rfl) (by kernel_rfl) (by kernel_rfl) (fun _ _ _ h => h) (Or.inl ⟨by rfl, ?_⟩) (by assumption) ?_
  rotate_left
  · intro w hSw; (try dsimp only at hSw); go_simp; (try with_reducible rfl)
  try simp only [Act.put, List.setIfInBounds_toArray, List.set_cons_zero, List.set_cons_succ]
  refine wpAnyH_ready (rs := [0]) (by kernel_rfl) (by simp) ?_
  refine AllReadyH.cons rfl (fun K hK => ?_) AllReadyH.nil
  go_simp
  go_at_call 23
  refine (of_any 0 _).mono ?_
  rintro e w1 ⟨rfl, u1⟩
  simp only [VD.val, ofV, S]
  have t1 := (Touch.refl [] W).drew.trans0 u1
  (try go_wp2_with fail)
  obtain ⟨j0, j1, j2⟩ := vals_at (HG.out.touch0 t1) 0 (by simp)
  simp only [List.getElem_cons_zero, Nat.zero_mul, Nat.zero_add] at j0 j1 j2
  refine hK.out _ _ ⟨j0, j1, j2⟩ (fun _hH => ?_)
  clear hK K
  try simp only [Act.put, List.setIfInBounds_toArray, List.set_cons_zero, List.set_cons_succ]
  refine wpAnyH_ready (rs := [4]) (by kernel_rfl) (by simp) ?_
  refine AllReadyH.cons rfl (fun K hK => ?_) AllReadyH.nil
  go_simp
  go_at_call 56
  refine (Har.out _).mono ?_
  rintro e w2 ⟨rfl, u2⟩
  have t2 := t1.trans0 u2
  (try go_wp2_with fail)
  obtain ⟨l0, l1, l2⟩ := vals_at (HG.out.touch0 t2) 0 (by simp)
  simp only [List.getElem_cons_zero, Nat.zero_mul, Nat.zero_add] at l0 l1 l2
  refine hK.out _ _ ⟨l0, l1, l2⟩ (fun _hH => ?_)
  clear hK K
  try simp only [Act.put, List.setIfInBounds_toArray, List.set_cons_zero, List.set_cons_succ]
  refine take_d (i := 5) (d := 51) (v := ?_) rfl rfl (by kernel_rfl) (by kernel_rfl) (by kernel_rfl) (fun _ _ _ h => h) (Or.inl ⟨by rfl, ?_⟩) (by assumption) ?_
  rotate_left
  · intro w hSw; (try dsimp only at hSw); go_simp; (try with_reducible rfl)
  try simp only [Act.put, List.setIfInBounds_toArray, List.set_cons_zero, List.set_cons_succ]
  refine take_d (i := 6) (d := 57) (v := ?_) rfl rfl (by kernel_rfl) (by kernel_rfl) (by kernel_rfl) (fun _ _ _ h => h) (Or.inl ⟨by rfl, ?_⟩) (by assumption) ?_
  rotate_left
  · intro w hSw; (try dsimp only at hSw); go_simp; (try with_reducible rfl)
  try simp only [Act.put, List.setIfInBounds_toArray, List.set_cons_zero, List.set_cons_succ]
  refine take_d (i := 7) (d := 58) (v := ?_) rfl rfl (by kernel_rfl) (by kernel_rfl) (by kernel_rfl) (fun _ _ _ h => h) (Or.inl ⟨by rfl, ?_⟩) (by assumption) ?_
  rotate_left
  · intro w hSw; (try dsimp only at hSw); go_simp; (try with_reducible rfl)
  try simp only [Act.put, List.setIfInBounds_toArray, List.set_cons_zero, List.set_cons_succ]
  obtain ⟨z0, z1, z2, f0, f1, f2⟩ := blk3 (t2.blk HZ.out (by simp))
  obtain ⟨s1, s2⟩ := out3 (t2.blk HZ.out (by simp)) (.int .i64 wk) (.int .i64 wn) (.string wt)
  have hgS := RdK.touch (HG.out.touch0 t2) s2 (fun b hb hm => by simp [fpo] at hb hm; omega)
  obtain ⟨k0, k1, k2⟩ := vals_at hgS 0 (by simp)
  simp only [List.getElem_cons_zero, Nat.zero_mul, Nat.zero_add] at k0 k1 k2
  refine wpAnyH_ready (rs := [8]) (by kernel_rfl) (by simp) ?_
  refine AllReadyH.cons rfl (fun K hK => ?_) AllReadyH.nil
  go_simp
  (try go_wp2_with fail)
  refine hK.out _ _ ⟨k0, k1, k2⟩ (fun _hH => ?_)
  clear hK K
  try simp only [Act.put, List.setIfInBounds_toArray, List.set_cons_zero, List.set_cons_succ]
  refine wpAnyH_ready (rs := [9]) (by kernel_rfl) (by simp) ?_
  refine AllReadyH.cons rfl (fun K hK => ?_) AllReadyH.nil
  go_simp
  (try go_wp2_with fail)
  refine hK.out _ _ (by assumption) (fun _ => ?_)
  clear hK K
  try simp only [Act.put, List.setIfInBounds_toArray, List.set_cons_zero, List.set_cons_succ]
  refine wpAnyH_done (by kernel_rfl) ?_ _
  obtain ⟨y0, y1, y2, _⟩ := blk3 s1
  obtain ⟨v0, v1, v2, _⟩ := blk3 (s2.blk (t2.blk HV.out (by simp)) (by simp))
  go_wp2_with fail
  go_ret
  exact ⟨rfl, (tW.trans0 t2).trans s2 (fun b hb => .inr (by simp at hb; omega))⟩

set_option maxRecDepth 100000 in
set_option maxHeartbeats 6400000 in
theorem whole_absM (nk nn : Int) (nt : ByteArray) (p0 p1 : Int) (p2 : ByteArray) (hp : p0 ≠ 0) (hs : p1 < 0) (wk wn : Int) (wt : ByteArray) (er : Int) (A : Option Addr) (m c g bc : Nat) (w : World) (h : ValsAt w (some ⟨g, 0, none⟩) [⟨p0, p1, p2⟩]) (hw : ((⟨wk, wn, wt⟩, er) : VD × Int) = arithV 45 (ofV 0) ⟨p0, p1, p2⟩) :
    Calls Try.prog 43 #[.agg #[.int .i64 5, .string ⟨#[97, 98, 115]⟩, .int .i64 nk, .int .i64 nn, .string nt, .string ⟨#[]⟩, .slice A m c], .slice (some ⟨g, 0, none⟩) 1 bc, .agg #[.int .i64 wk, .int .i64 wn, .string wt], .int .i64 er] w fun e w' => e = .returned (.bool true) ∧ Touch [] w w' := by
  have heq := fun w' => eqIn_val ⟨wk, wn, wt⟩ ⟨wk, wn, wt⟩ w'
  rw [(eqV3_iff _ _).2 rfl] at heq
  simp only at heq
  have hgd := guard_val
  obtain ⟨W, hW⟩ : ∃ W, W = ((w.alloc (.cells #[.int .i64 5, .string ⟨#[97, 98, 115]⟩, .int .i64 nk, .int .i64 nn, .string nt, .string ⟨#[]⟩, .slice A m c] 33)).alloc (.cells #[.int .i64 wk, .int .i64 wn, .string wt] 30)).alloc (.cells #[.int .i64 0, .int .i64 0, .string ⟨#[]⟩] 30) := ⟨_, rfl⟩
  have tW : Touch [] w W := by rw [hW]; exact (((Touch.refl [] w).alloc _).alloc _).alloc _
  have hE : W.heap[w.heap.size]? = some (.cells #[.int .i64 5, .string ⟨#[97, 98, 115]⟩, .int .i64 nk, .int .i64 nn, .string nt, .string ⟨#[]⟩, .slice A m c] 33) := by rw [hW]; exact (((Touch.refl [] (w.alloc (.cells #[.int .i64 5, .string ⟨#[97, 98, 115]⟩, .int .i64 nk, .int .i64 nn, .string nt, .string ⟨#[]⟩, .slice A m c] 33))).alloc _).alloc _).blk (heap_alloc_new w (.cells #[.int .i64 5, .string ⟨#[97, 98, 115]⟩, .int .i64 nk, .int .i64 nn, .string nt, .string ⟨#[]⟩, .slice A m c] 33)) (by simp)
  have hV : W.heap[w.heap.size + 1]? = some (.cells #[.int .i64 wk, .int .i64 wn, .string wt] 30) := by
    have := ((Touch.refl [] ((w.alloc (.cells #[.int .i64 5, .string ⟨#[97, 98, 115]⟩, .int .i64 nk, .int .i64 nn, .string nt, .string ⟨#[]⟩, .slice A m c] 33)).alloc (.cells #[.int .i64 wk, .int .i64 wn, .string wt] 30))).alloc (.cells #[.int .i64 0, .int .i64 0, .string ⟨#[]⟩] 30)).blk (heap_alloc_new (w.alloc (.cells #[.int .i64 5, .string ⟨#[97, 98, 115]⟩, .int .i64 nk, .int .i64 nn, .string nt, .string ⟨#[]⟩, .slice A m c] 33)) (.cells #[.int .i64 wk, .int .i64 wn, .string wt] 30)) (by simp)
    rw [World.size_alloc] at this
    rw [hW]; exact this
  have hZ : W.heap[w.heap.size + 1 + 1]? = some (.cells #[.int .i64 0, .int .i64 0, .string ⟨#[]⟩] 30) := by
    have := heap_alloc_new ((w.alloc (.cells #[.int .i64 5, .string ⟨#[97, 98, 115]⟩, .int .i64 nk, .int .i64 nn, .string nt, .string ⟨#[]⟩, .slice A m c] 33)).alloc (.cells #[.int .i64 wk, .int .i64 wn, .string wt] 30)) (.cells #[.int .i64 0, .int .i64 0, .string ⟨#[]⟩] 30)
    rw [World.size_alloc, World.size_alloc] at this
    rw [hW]; exact this
  have hg := h.touch0 tW
  have hgl0 : g < w.heap.size := Rd.lt h (by rw [flat_length vdE 3 vdE_length]; simp) g (by simp [fpo])
  have HE := Lib.hid hE; have HV := Lib.hid hV; have HZ := Lib.hid hZ; have HG := Lib.hid hg; have HW := Lib.hid hW
  have hr : ValsAt (((w.alloc (.cells #[.int .i64 5, .string ⟨#[97, 98, 115]⟩, .int .i64 nk, .int .i64 nn, .string nt, .string ⟨#[]⟩, .slice A m c] 33)).alloc (.cells #[.int .i64 wk, .int .i64 wn, .string wt] 30)).alloc (.cells #[.int .i64 0, .int .i64 0, .string ⟨#[]⟩] 30)) (some ⟨g, 0, none⟩) [⟨p0, p1, p2⟩] := h.touch0 ((((Touch.refl [] w).alloc _).alloc _).alloc _)
  obtain ⟨g0, g1, g2⟩ := vals_at hr 0 (by simp)
  simp only [List.getElem_cons_zero, Nat.zero_mul, Nat.zero_add] at g0 g1 g2
  clear hE hV hZ hg hW h hr
  have hq0 : (p0 == 0) = false := by simpa using hp
  have Har := Lib.hid fun w' => arith_any 45 (by decide) (ofV 0) ⟨p0, p1, p2⟩ w'
  rw [← hw] at Har
  simp only [VD.val, ofV, S] at Har
  go_enter Try.func43, Try.ntmps43
  go_wp2_with fail
  rw [← HW.out]
  clear g0 g1 g2
  obtain ⟨g0, g1, g2⟩ := vals_at (HG.out.touch0 (Touch.refl [] W).drew) 0 (by simp)
  simp only [List.getElem_cons_zero, Nat.zero_mul, Nat.zero_add] at g0 g1 g2
  refine wp_region_held_drew (S := fun w' => w'.cell? ⟨g, 0, none⟩ = some (.int .i64 p0) ∧ w'.cell? ⟨g, 1, none⟩ = some (.int .i64 p1) ∧ w'.cell? ⟨g, 2, none⟩ = some (.string p2)) (by kernel_rfl) ⟨g0, g1, g2⟩ (fun hHeld => ?_)
  refine take_d (i := 1) (d := 166) (v := ?_) rfl rfl (by kernel_rfl) (by kernel_rfl) (by kernel_rfl) (fun _ _ _ h => h) (Or.inl ⟨by rfl, ?_⟩) (by assumption) ?_
  rotate_left
  · intro w hSw; (try dsimp only at hSw); go_simp; (try with_reducible rfl)
  try simp only [Act.put, List.setIfInBounds_toArray, List.set_cons_zero, List.set_cons_succ]
  refine take_d (i := 2) (d := 167) (v := ?_) rfl rfl (by kernel_rfl) (by kernel_rfl) (by kernel_rfl) (fun _ _ _ h => h) (Or.inl ⟨by rfl, ?_⟩) (by assumption) ?_
  rotate_left
  · intro w hSw; (try dsimp only at hSw); go_simp; (try with_reducible rfl)
  try simp only [Act.put, List.setIfInBounds_toArray, List.set_cons_zero, List.set_cons_succ]
  refine take_d (i := 3) (d := 168) (v := ?_) rfl rfl (by kernel_rfl) (by kernel_rfl) (by kernel_rfl) (fun _ _ _ h => h) (Or.inl ⟨by rfl, ?_⟩) (by assumption) ?_
  rotate_left
  · intro w hSw; (try dsimp only at hSw); go_simp; (try with_reducible rfl)
  try simp only [Act.put, List.setIfInBounds_toArray, List.set_cons_zero, List.set_cons_succ]
  refine wpAnyH_ready (rs := [0]) (by kernel_rfl) (by simp) ?_
  refine AllReadyH.cons rfl (fun K hK => ?_) AllReadyH.nil
  go_simp
  go_at_call 23
  refine (of_any 0 _).mono ?_
  rintro e w1 ⟨rfl, u1⟩
  simp only [VD.val, ofV, S]
  have t1 := (Touch.refl [] W).drew.trans0 u1
  (try go_wp2_with fail)
  obtain ⟨j0, j1, j2⟩ := vals_at (HG.out.touch0 t1) 0 (by simp)
  simp only [List.getElem_cons_zero, Nat.zero_mul, Nat.zero_add] at j0 j1 j2
  refine hK.out _ _ ⟨j0, j1, j2⟩ (fun _hH => ?_)
  clear hK K
  try simp only [Act.put, List.setIfInBounds_toArray, List.set_cons_zero, List.set_cons_succ]
  refine wpAnyH_ready (rs := [4]) (by kernel_rfl) (by simp) ?_
  refine AllReadyH.cons rfl (fun K hK => ?_) AllReadyH.nil
  go_simp
  go_at_call 56
  refine (Har.out _).mono ?_
  rintro e w2 ⟨rfl, u2⟩
  have t2 := t1.trans0 u2
  (try go_wp2_with fail)
  obtain ⟨l0, l1, l2⟩ := vals_at (HG.out.touch0 t2) 0 (by simp)
  simp only [List.getElem_cons_zero, Nat.zero_mul, Nat.zero_add] at l0 l1 l2
  refine hK.out _ _ ⟨l0, l1, l2⟩ (fun _hH => ?_)
  clear hK K
  try simp only [Act.put, List.setIfInBounds_toArray, List.set_cons_zero, List.set_cons_succ]
  refine take_d (i := 5) (d := 164) (v := ?_) rfl rfl (by kernel_rfl) (by kernel_rfl) (by kernel_rfl) (fun _ _ _ h => h) (Or.inl ⟨by rfl, ?_⟩) (by assumption) ?_
  rotate_left
  · intro w hSw; (try dsimp only at hSw); go_simp; (try with_reducible rfl)
  try simp only [Act.put, List.setIfInBounds_toArray, List.set_cons_zero, List.set_cons_succ]
  refine take_d (i := 6) (d := 170) (v := ?_) rfl rfl (by kernel_rfl) (by kernel_rfl) (by kernel_rfl) (fun _ _ _ h => h) (Or.inl ⟨by rfl, ?_⟩) (by assumption) ?_
  rotate_left
  · intro w hSw; (try dsimp only at hSw); go_simp; (try with_reducible rfl)
  try simp only [Act.put, List.setIfInBounds_toArray, List.set_cons_zero, List.set_cons_succ]
  refine take_d (i := 7) (d := 171) (v := ?_) rfl rfl (by kernel_rfl) (by kernel_rfl) (by kernel_rfl) (fun _ _ _ h => h) (Or.inl ⟨by rfl, ?_⟩) (by assumption) ?_
  rotate_left
  · intro w hSw; (try dsimp only at hSw); go_simp; (try with_reducible rfl)
  try simp only [Act.put, List.setIfInBounds_toArray, List.set_cons_zero, List.set_cons_succ]
  obtain ⟨z0, z1, z2, f0, f1, f2⟩ := blk3 (t2.blk HZ.out (by simp))
  obtain ⟨s1, s2⟩ := out3 (t2.blk HZ.out (by simp)) (.int .i64 wk) (.int .i64 wn) (.string wt)
  have hgS := RdK.touch (HG.out.touch0 t2) s2 (fun b hb hm => by simp [fpo] at hb hm; omega)
  obtain ⟨k0, k1, k2⟩ := vals_at hgS 0 (by simp)
  simp only [List.getElem_cons_zero, Nat.zero_mul, Nat.zero_add] at k0 k1 k2
  refine wpAnyH_ready (rs := [8]) (by kernel_rfl) (by simp) ?_
  refine AllReadyH.cons rfl (fun K hK => ?_) AllReadyH.nil
  go_simp
  (try go_wp2_with fail)
  refine hK.out _ _ ⟨k0, k1, k2⟩ (fun _hH => ?_)
  clear hK K
  try simp only [Act.put, List.setIfInBounds_toArray, List.set_cons_zero, List.set_cons_succ]
  refine wpAnyH_ready (rs := [9]) (by kernel_rfl) (by simp) ?_
  refine AllReadyH.cons rfl (fun K hK => ?_) AllReadyH.nil
  go_simp
  (try go_wp2_with fail)
  refine hK.out _ _ (by assumption) (fun _ => ?_)
  clear hK K
  try simp only [Act.put, List.setIfInBounds_toArray, List.set_cons_zero, List.set_cons_succ]
  refine wpAnyH_done (by kernel_rfl) ?_ _
  obtain ⟨y0, y1, y2, _⟩ := blk3 s1
  obtain ⟨v0, v1, v2, _⟩ := blk3 (s2.blk (t2.blk HV.out (by simp)) (by simp))
  go_wp2_with fail
  go_ret
  exact ⟨rfl, (tW.trans0 t2).trans s2 (fun b hb => .inr (by simp at hb; omega))⟩

set_option maxRecDepth 100000 in
set_option maxHeartbeats 6400000 in
theorem whole_ari0 (nk nn : Int) (nt : ByteArray) (p0 p1 : Int) (p2 : ByteArray) (q0 q1 : Int) (q2 : ByteArray) (wk wn : Int) (wt : ByteArray) (er : Int) (A : Option Addr) (m c g bc : Nat) (w : World) (h : ValsAt w (some ⟨g, 0, none⟩) [⟨p0, p1, p2⟩, ⟨q0, q1, q2⟩]) (hw : ((⟨wk, wn, wt⟩, er) : VD × Int) = arithV 43 ⟨p0, p1, p2⟩ ⟨q0, q1, q2⟩) :
    Calls Try.prog 43 #[.agg #[.int .i64 4, .string ⟨#[]⟩, .int .i64 nk, .int .i64 nn, .string nt, .string ⟨#[43]⟩, .slice A m c], .slice (some ⟨g, 0, none⟩) 2 bc, .agg #[.int .i64 wk, .int .i64 wn, .string wt], .int .i64 er] w fun e w' => e = .returned (.bool true) ∧ Touch [] w w' := by
  have heq := fun w' => eqIn_val ⟨wk, wn, wt⟩ ⟨wk, wn, wt⟩ w'
  rw [(eqV3_iff _ _).2 rfl] at heq
  simp only at heq
  have hgd := guard_val
  obtain ⟨W, hW⟩ : ∃ W, W = ((w.alloc (.cells #[.int .i64 4, .string ⟨#[]⟩, .int .i64 nk, .int .i64 nn, .string nt, .string ⟨#[43]⟩, .slice A m c] 33)).alloc (.cells #[.int .i64 wk, .int .i64 wn, .string wt] 30)).alloc (.cells #[.int .i64 0, .int .i64 0, .string ⟨#[]⟩] 30) := ⟨_, rfl⟩
  have tW : Touch [] w W := by rw [hW]; exact (((Touch.refl [] w).alloc _).alloc _).alloc _
  have hE : W.heap[w.heap.size]? = some (.cells #[.int .i64 4, .string ⟨#[]⟩, .int .i64 nk, .int .i64 nn, .string nt, .string ⟨#[43]⟩, .slice A m c] 33) := by rw [hW]; exact (((Touch.refl [] (w.alloc (.cells #[.int .i64 4, .string ⟨#[]⟩, .int .i64 nk, .int .i64 nn, .string nt, .string ⟨#[43]⟩, .slice A m c] 33))).alloc _).alloc _).blk (heap_alloc_new w (.cells #[.int .i64 4, .string ⟨#[]⟩, .int .i64 nk, .int .i64 nn, .string nt, .string ⟨#[43]⟩, .slice A m c] 33)) (by simp)
  have hV : W.heap[w.heap.size + 1]? = some (.cells #[.int .i64 wk, .int .i64 wn, .string wt] 30) := by
    have := ((Touch.refl [] ((w.alloc (.cells #[.int .i64 4, .string ⟨#[]⟩, .int .i64 nk, .int .i64 nn, .string nt, .string ⟨#[43]⟩, .slice A m c] 33)).alloc (.cells #[.int .i64 wk, .int .i64 wn, .string wt] 30))).alloc (.cells #[.int .i64 0, .int .i64 0, .string ⟨#[]⟩] 30)).blk (heap_alloc_new (w.alloc (.cells #[.int .i64 4, .string ⟨#[]⟩, .int .i64 nk, .int .i64 nn, .string nt, .string ⟨#[43]⟩, .slice A m c] 33)) (.cells #[.int .i64 wk, .int .i64 wn, .string wt] 30)) (by simp)
    rw [World.size_alloc] at this
    rw [hW]; exact this
  have hZ : W.heap[w.heap.size + 1 + 1]? = some (.cells #[.int .i64 0, .int .i64 0, .string ⟨#[]⟩] 30) := by
    have := heap_alloc_new ((w.alloc (.cells #[.int .i64 4, .string ⟨#[]⟩, .int .i64 nk, .int .i64 nn, .string nt, .string ⟨#[43]⟩, .slice A m c] 33)).alloc (.cells #[.int .i64 wk, .int .i64 wn, .string wt] 30)) (.cells #[.int .i64 0, .int .i64 0, .string ⟨#[]⟩] 30)
    rw [World.size_alloc, World.size_alloc] at this
    rw [hW]; exact this
  have hg := h.touch0 tW
  have hgl0 : g < w.heap.size := Rd.lt h (by rw [flat_length vdE 3 vdE_length]; simp) g (by simp [fpo])
  have HE := Lib.hid hE; have HV := Lib.hid hV; have HZ := Lib.hid hZ; have HG := Lib.hid hg; have HW := Lib.hid hW
  have hr : ValsAt (((w.alloc (.cells #[.int .i64 4, .string ⟨#[]⟩, .int .i64 nk, .int .i64 nn, .string nt, .string ⟨#[43]⟩, .slice A m c] 33)).alloc (.cells #[.int .i64 wk, .int .i64 wn, .string wt] 30)).alloc (.cells #[.int .i64 0, .int .i64 0, .string ⟨#[]⟩] 30)) (some ⟨g, 0, none⟩) [⟨p0, p1, p2⟩, ⟨q0, q1, q2⟩] := h.touch0 ((((Touch.refl [] w).alloc _).alloc _).alloc _)
  obtain ⟨g0, g1, g2⟩ := vals_at hr 0 (by simp)
  obtain ⟨g3, g4, g5⟩ := vals_at hr 1 (by simp)
  simp only [List.getElem_cons_zero, List.getElem_cons_succ, Nat.zero_mul, Nat.zero_add, Nat.one_mul, Nat.reduceAdd] at g0 g1 g2 g3 g4 g5
  clear hE hV hZ hg hW h hr
  have Har := Lib.hid fun w' => arith_any 43 (by decide) ⟨p0, p1, p2⟩ ⟨q0, q1, q2⟩ w'
  rw [← hw] at Har
  simp only [VD.val] at Har
  go_enter Try.func43, Try.ntmps43
  go_wp2_with fail
  rw [← HW.out]
  clear g0 g1 g2 g3 g4 g5
  obtain ⟨g0, g1, g2⟩ := vals_at (HG.out.touch0 (Touch.refl [] W).drew) 0 (by simp)
  obtain ⟨g3, g4, g5⟩ := vals_at (HG.out.touch0 (Touch.refl [] W).drew) 1 (by simp)
  simp only [List.getElem_cons_zero, List.getElem_cons_succ, Nat.zero_mul, Nat.zero_add, Nat.one_mul, Nat.reduceAdd] at g0 g1 g2 g3 g4 g5
  obtain ⟨_, _, _, _, _, e5, _, _⟩ := blk7 ((Touch.refl [] W).drew.blk HE.out (by simp))
  refine wp_region_held_drew (S := fun w' => w'.cell? ⟨g, 0, none⟩ = some (.int .i64 p0) ∧ w'.cell? ⟨g, 1, none⟩ = some (.int .i64 p1) ∧ w'.cell? ⟨g, 2, none⟩ = some (.string p2) ∧ w'.cell? ⟨g, 3, none⟩ = some (.int .i64 q0) ∧ w'.cell? ⟨g, 4, none⟩ = some (.int .i64 q1) ∧ w'.cell? ⟨g, 5, none⟩ = some (.string q2) ∧ w'.cell? ⟨w.heap.size, 5, none⟩ = some (.string ⟨#[43]⟩)) (by kernel_rfl) ⟨g0, g1, g2, g3, g4, g5, e5⟩ (fun hHeld => ?_)
  refine take_d (i := 0) (d := 96) (v := ?_) rfl rfl (by kernel_rfl) (by kernel_rfl) (by kernel_rfl) (fun _ _ _ h => h) (Or.inl ⟨by rfl, ?_⟩) (by assumption) ?_
  rotate_left
  · intro w hSw; (try dsimp only at hSw); go_simp; (try with_reducible rfl)
  try simp only [Act.put, List.setIfInBounds_toArray, List.set_cons_zero, List.set_cons_succ]
  refine take_d (i := 1) (d := 97) (v := ?_) rfl rfl (by kernel_rfl) (by kernel_rfl) (by kernel_rfl) (fun _ _ _ h => h) (Or.inl ⟨by rfl, ?_⟩) (by assumption) ?_
  rotate_left
  · intro w hSw; (try dsimp only at hSw); go_simp; (try with_reducible rfl)
  try simp only [Act.put, List.setIfInBounds_toArray, List.set_cons_zero, List.set_cons_succ]
  refine take_d (i := 2) (d := 98) (v := ?_) rfl rfl (by kernel_rfl) (by kernel_rfl) (by kernel_rfl) (fun _ _ _ h => h) (Or.inl ⟨by rfl, ?_⟩) (by assumption) ?_
  rotate_left
  · intro w hSw; (try dsimp only at hSw); go_simp; (try with_reducible rfl)
  try simp only [Act.put, List.setIfInBounds_toArray, List.set_cons_zero, List.set_cons_succ]
  refine take_d (i := 3) (d := 99) (v := ?_) rfl rfl (by kernel_rfl) (by kernel_rfl) (by kernel_rfl) (fun _ _ _ h => h) (Or.inl ⟨by rfl, ?_⟩) (by assumption) ?_
  rotate_left
  · intro w hSw; (try dsimp only at hSw); go_simp; (try with_reducible rfl)
  try simp only [Act.put, List.setIfInBounds_toArray, List.set_cons_zero, List.set_cons_succ]
  refine take_d (i := 4) (d := 100) (v := ?_) rfl rfl (by kernel_rfl) (by kernel_rfl) (by kernel_rfl) (fun _ _ _ h => h) (Or.inl ⟨by rfl, ?_⟩) (by assumption) ?_
  rotate_left
  · intro w hSw; (try dsimp only at hSw); go_simp; (try with_reducible rfl)
  try simp only [Act.put, List.setIfInBounds_toArray, List.set_cons_zero, List.set_cons_succ]
  refine take_d (i := 5) (d := 101) (v := ?_) rfl rfl (by kernel_rfl) (by kernel_rfl) (by kernel_rfl) (fun _ _ _ h => h) (Or.inl ⟨by rfl, ?_⟩) (by assumption) ?_
  rotate_left
  · intro w hSw; (try dsimp only at hSw); go_simp; (try with_reducible rfl)
  try simp only [Act.put, List.setIfInBounds_toArray, List.set_cons_zero, List.set_cons_succ]
  refine take_d (i := 6) (d := 102) (v := ?_) rfl rfl (by kernel_rfl) (by kernel_rfl) (by kernel_rfl) (fun _ _ _ h => h) (Or.inl ⟨by rfl, ?_⟩) (by assumption) ?_
  rotate_left
  · intro w hSw; (try dsimp only at hSw); go_simp; (try with_reducible rfl)
  try simp only [Act.put, List.setIfInBounds_toArray, List.set_cons_zero, List.set_cons_succ]
  refine take_d (i := 7) (d := 103) (v := ?_) rfl rfl (by kernel_rfl) (by kernel_rfl) (by kernel_rfl) (fun _ _ _ h => h) (Or.inl ⟨by rfl, ?_⟩) (by assumption) ?_
  rotate_left
  · intro w hSw; (try dsimp only at hSw); go_simp; (try with_reducible rfl)
  try simp only [Act.put, List.setIfInBounds_toArray, List.set_cons_zero, List.set_cons_succ]
  refine take_d (i := 8) (d := 104) (v := ?_) rfl rfl (by kernel_rfl) (by kernel_rfl) (by kernel_rfl) (fun _ _ _ h => h) (Or.inl ⟨by rfl, ?_⟩) (by assumption) ?_
  rotate_left
  · intro w hSw; (try dsimp only at hSw); go_simp; (try with_reducible rfl)
  try simp only [Act.put, List.setIfInBounds_toArray, List.set_cons_zero, List.set_cons_succ]
  refine wpAnyH_ready (rs := [9]) (by kernel_rfl) (by simp) ?_
  refine AllReadyH.cons rfl (fun K hK => ?_) AllReadyH.nil
  go_simp
  go_at_call 56
  refine (Har.out _).mono ?_
  rintro e w2 ⟨rfl, u2⟩
  have t2 := (Touch.refl [] W).drew.trans0 u2
  (try go_wp2_with fail)
  obtain ⟨l0, l1, l2⟩ := vals_at (HG.out.touch0 t2) 0 (by simp)
  obtain ⟨l3, l4, l5⟩ := vals_at (HG.out.touch0 t2) 1 (by simp)
  simp only [List.getElem_cons_zero, List.getElem_cons_succ, Nat.zero_mul, Nat.zero_add, Nat.one_mul, Nat.reduceAdd] at l0 l1 l2 l3 l4 l5
  obtain ⟨_, _, _, _, _, e5', _, _⟩ := blk7 (t2.blk HE.out (by simp))
  refine hK.out _ _ ⟨l0, l1, l2, l3, l4, l5, e5'⟩ (fun _hH => ?_)
  clear hK K
  try simp only [Act.put, List.setIfInBounds_toArray, List.set_cons_zero, List.set_cons_succ]
  refine take_d (i := 10) (d := 95) (v := ?_) rfl rfl (by kernel_rfl) (by kernel_rfl) (by kernel_rfl) (fun _ _ _ h => h) (Or.inl ⟨by rfl, ?_⟩) (by assumption) ?_
  rotate_left
  · intro w hSw; (try dsimp only at hSw); go_simp; (try with_reducible rfl)
  try simp only [Act.put, List.setIfInBounds_toArray, List.set_cons_zero, List.set_cons_succ]
  refine take_d (i := 11) (d := 106) (v := ?_) rfl rfl (by kernel_rfl) (by kernel_rfl) (by kernel_rfl) (fun _ _ _ h => h) (Or.inl ⟨by rfl, ?_⟩) (by assumption) ?_
  rotate_left
  · intro w hSw; (try dsimp only at hSw); go_simp; (try with_reducible rfl)
  try simp only [Act.put, List.setIfInBounds_toArray, List.set_cons_zero, List.set_cons_succ]
  refine take_d (i := 12) (d := 107) (v := ?_) rfl rfl (by kernel_rfl) (by kernel_rfl) (by kernel_rfl) (fun _ _ _ h => h) (Or.inl ⟨by rfl, ?_⟩) (by assumption) ?_
  rotate_left
  · intro w hSw; (try dsimp only at hSw); go_simp; (try with_reducible rfl)
  try simp only [Act.put, List.setIfInBounds_toArray, List.set_cons_zero, List.set_cons_succ]
  obtain ⟨z0, z1, z2, f0, f1, f2⟩ := blk3 (t2.blk HZ.out (by simp))
  obtain ⟨s1, s2⟩ := out3 (t2.blk HZ.out (by simp)) (.int .i64 wk) (.int .i64 wn) (.string wt)
  have hgS := RdK.touch (HG.out.touch0 t2) s2 (fun b hb hm => by simp [fpo] at hb hm; omega)
  obtain ⟨k0, k1, k2⟩ := vals_at hgS 0 (by simp)
  obtain ⟨k3, k4, k5⟩ := vals_at hgS 1 (by simp)
  simp only [List.getElem_cons_zero, List.getElem_cons_succ, Nat.zero_mul, Nat.zero_add, Nat.one_mul, Nat.reduceAdd] at k0 k1 k2 k3 k4 k5
  obtain ⟨_, _, _, _, _, e5s, _, _⟩ := blk7 (s2.blk (t2.blk HE.out (by simp)) (by simp; omega))
  refine wpAnyH_ready (rs := [13]) (by kernel_rfl) (by simp) ?_
  refine AllReadyH.cons rfl (fun K hK => ?_) AllReadyH.nil
  go_simp
  (try go_wp2_with fail)
  refine hK.out _ _ ⟨k0, k1, k2, k3, k4, k5, e5s⟩ (fun _hH => ?_)
  clear hK K
  try simp only [Act.put, List.setIfInBounds_toArray, List.set_cons_zero, List.set_cons_succ]
  refine wpAnyH_ready (rs := [14]) (by kernel_rfl) (by simp) ?_
  refine AllReadyH.cons rfl (fun K hK => ?_) AllReadyH.nil
  go_simp
  (try go_wp2_with fail)
  refine hK.out _ _ (by assumption) (fun _ => ?_)
  clear hK K
  try simp only [Act.put, List.setIfInBounds_toArray, List.set_cons_zero, List.set_cons_succ]
  refine wpAnyH_done (by kernel_rfl) ?_ _
  obtain ⟨y0, y1, y2, _⟩ := blk3 s1
  obtain ⟨v0, v1, v2, _⟩ := blk3 (s2.blk (t2.blk HV.out (by simp)) (by simp))
  go_wp2_with fail
  go_ret
  exact ⟨rfl, (tW.trans0 t2).trans s2 (fun b hb => .inr (by simp at hb; omega))⟩

set_option maxRecDepth 100000 in
set_option maxHeartbeats 6400000 in
theorem whole_ari1 (nk nn : Int) (nt : ByteArray) (p0 p1 : Int) (p2 : ByteArray) (q0 q1 : Int) (q2 : ByteArray) (wk wn : Int) (wt : ByteArray) (er : Int) (A : Option Addr) (m c g bc : Nat) (w : World) (h : ValsAt w (some ⟨g, 0, none⟩) [⟨p0, p1, p2⟩, ⟨q0, q1, q2⟩]) (hw : ((⟨wk, wn, wt⟩, er) : VD × Int) = arithV 45 ⟨p0, p1, p2⟩ ⟨q0, q1, q2⟩) :
    Calls Try.prog 43 #[.agg #[.int .i64 4, .string ⟨#[]⟩, .int .i64 nk, .int .i64 nn, .string nt, .string ⟨#[45]⟩, .slice A m c], .slice (some ⟨g, 0, none⟩) 2 bc, .agg #[.int .i64 wk, .int .i64 wn, .string wt], .int .i64 er] w fun e w' => e = .returned (.bool true) ∧ Touch [] w w' := by
  have heq := fun w' => eqIn_val ⟨wk, wn, wt⟩ ⟨wk, wn, wt⟩ w'
  rw [(eqV3_iff _ _).2 rfl] at heq
  simp only at heq
  have hgd := guard_val
  obtain ⟨W, hW⟩ : ∃ W, W = ((w.alloc (.cells #[.int .i64 4, .string ⟨#[]⟩, .int .i64 nk, .int .i64 nn, .string nt, .string ⟨#[45]⟩, .slice A m c] 33)).alloc (.cells #[.int .i64 wk, .int .i64 wn, .string wt] 30)).alloc (.cells #[.int .i64 0, .int .i64 0, .string ⟨#[]⟩] 30) := ⟨_, rfl⟩
  have tW : Touch [] w W := by rw [hW]; exact (((Touch.refl [] w).alloc _).alloc _).alloc _
  have hE : W.heap[w.heap.size]? = some (.cells #[.int .i64 4, .string ⟨#[]⟩, .int .i64 nk, .int .i64 nn, .string nt, .string ⟨#[45]⟩, .slice A m c] 33) := by rw [hW]; exact (((Touch.refl [] (w.alloc (.cells #[.int .i64 4, .string ⟨#[]⟩, .int .i64 nk, .int .i64 nn, .string nt, .string ⟨#[45]⟩, .slice A m c] 33))).alloc _).alloc _).blk (heap_alloc_new w (.cells #[.int .i64 4, .string ⟨#[]⟩, .int .i64 nk, .int .i64 nn, .string nt, .string ⟨#[45]⟩, .slice A m c] 33)) (by simp)
  have hV : W.heap[w.heap.size + 1]? = some (.cells #[.int .i64 wk, .int .i64 wn, .string wt] 30) := by
    have := ((Touch.refl [] ((w.alloc (.cells #[.int .i64 4, .string ⟨#[]⟩, .int .i64 nk, .int .i64 nn, .string nt, .string ⟨#[45]⟩, .slice A m c] 33)).alloc (.cells #[.int .i64 wk, .int .i64 wn, .string wt] 30))).alloc (.cells #[.int .i64 0, .int .i64 0, .string ⟨#[]⟩] 30)).blk (heap_alloc_new (w.alloc (.cells #[.int .i64 4, .string ⟨#[]⟩, .int .i64 nk, .int .i64 nn, .string nt, .string ⟨#[45]⟩, .slice A m c] 33)) (.cells #[.int .i64 wk, .int .i64 wn, .string wt] 30)) (by simp)
    rw [World.size_alloc] at this
    rw [hW]; exact this
  have hZ : W.heap[w.heap.size + 1 + 1]? = some (.cells #[.int .i64 0, .int .i64 0, .string ⟨#[]⟩] 30) := by
    have := heap_alloc_new ((w.alloc (.cells #[.int .i64 4, .string ⟨#[]⟩, .int .i64 nk, .int .i64 nn, .string nt, .string ⟨#[45]⟩, .slice A m c] 33)).alloc (.cells #[.int .i64 wk, .int .i64 wn, .string wt] 30)) (.cells #[.int .i64 0, .int .i64 0, .string ⟨#[]⟩] 30)
    rw [World.size_alloc, World.size_alloc] at this
    rw [hW]; exact this
  have hg := h.touch0 tW
  have hgl0 : g < w.heap.size := Rd.lt h (by rw [flat_length vdE 3 vdE_length]; simp) g (by simp [fpo])
  have HE := Lib.hid hE; have HV := Lib.hid hV; have HZ := Lib.hid hZ; have HG := Lib.hid hg; have HW := Lib.hid hW
  have hr : ValsAt (((w.alloc (.cells #[.int .i64 4, .string ⟨#[]⟩, .int .i64 nk, .int .i64 nn, .string nt, .string ⟨#[45]⟩, .slice A m c] 33)).alloc (.cells #[.int .i64 wk, .int .i64 wn, .string wt] 30)).alloc (.cells #[.int .i64 0, .int .i64 0, .string ⟨#[]⟩] 30)) (some ⟨g, 0, none⟩) [⟨p0, p1, p2⟩, ⟨q0, q1, q2⟩] := h.touch0 ((((Touch.refl [] w).alloc _).alloc _).alloc _)
  obtain ⟨g0, g1, g2⟩ := vals_at hr 0 (by simp)
  obtain ⟨g3, g4, g5⟩ := vals_at hr 1 (by simp)
  simp only [List.getElem_cons_zero, List.getElem_cons_succ, Nat.zero_mul, Nat.zero_add, Nat.one_mul, Nat.reduceAdd] at g0 g1 g2 g3 g4 g5
  clear hE hV hZ hg hW h hr
  have Har := Lib.hid fun w' => arith_any 45 (by decide) ⟨p0, p1, p2⟩ ⟨q0, q1, q2⟩ w'
  rw [← hw] at Har
  simp only [VD.val] at Har
  go_enter Try.func43, Try.ntmps43
  go_wp2_with fail
  rw [← HW.out]
  clear g0 g1 g2 g3 g4 g5
  obtain ⟨g0, g1, g2⟩ := vals_at (HG.out.touch0 (Touch.refl [] W).drew) 0 (by simp)
  obtain ⟨g3, g4, g5⟩ := vals_at (HG.out.touch0 (Touch.refl [] W).drew) 1 (by simp)
  simp only [List.getElem_cons_zero, List.getElem_cons_succ, Nat.zero_mul, Nat.zero_add, Nat.one_mul, Nat.reduceAdd] at g0 g1 g2 g3 g4 g5
  obtain ⟨_, _, _, _, _, e5, _, _⟩ := blk7 ((Touch.refl [] W).drew.blk HE.out (by simp))
  refine wp_region_held_drew (S := fun w' => w'.cell? ⟨g, 0, none⟩ = some (.int .i64 p0) ∧ w'.cell? ⟨g, 1, none⟩ = some (.int .i64 p1) ∧ w'.cell? ⟨g, 2, none⟩ = some (.string p2) ∧ w'.cell? ⟨g, 3, none⟩ = some (.int .i64 q0) ∧ w'.cell? ⟨g, 4, none⟩ = some (.int .i64 q1) ∧ w'.cell? ⟨g, 5, none⟩ = some (.string q2) ∧ w'.cell? ⟨w.heap.size, 5, none⟩ = some (.string ⟨#[45]⟩)) (by kernel_rfl) ⟨g0, g1, g2, g3, g4, g5, e5⟩ (fun hHeld => ?_)
  refine take_d (i := 0) (d := 96) (v := ?_) rfl rfl (by kernel_rfl) (by kernel_rfl) (by kernel_rfl) (fun _ _ _ h => h) (Or.inl ⟨by rfl, ?_⟩) (by assumption) ?_
  rotate_left
  · intro w hSw; (try dsimp only at hSw); go_simp; (try with_reducible rfl)
  try simp only [Act.put, List.setIfInBounds_toArray, List.set_cons_zero, List.set_cons_succ]
  refine take_d (i := 1) (d := 97) (v := ?_) rfl rfl (by kernel_rfl) (by kernel_rfl) (by kernel_rfl) (fun _ _ _ h => h) (Or.inl ⟨by rfl, ?_⟩) (by assumption) ?_
  rotate_left
  · intro w hSw; (try dsimp only at hSw); go_simp; (try with_reducible rfl)
  try simp only [Act.put, List.setIfInBounds_toArray, List.set_cons_zero, List.set_cons_succ]
  refine take_d (i := 2) (d := 98) (v := ?_) rfl rfl (by kernel_rfl) (by kernel_rfl) (by kernel_rfl) (fun _ _ _ h => h) (Or.inl ⟨by rfl, ?_⟩) (by assumption) ?_
  rotate_left
  · intro w hSw; (try dsimp only at hSw); go_simp; (try with_reducible rfl)
  try simp only [Act.put, List.setIfInBounds_toArray, List.set_cons_zero, List.set_cons_succ]
  refine take_d (i := 3) (d := 99) (v := ?_) rfl rfl (by kernel_rfl) (by kernel_rfl) (by kernel_rfl) (fun _ _ _ h => h) (Or.inl ⟨by rfl, ?_⟩) (by assumption) ?_
  rotate_left
  · intro w hSw; (try dsimp only at hSw); go_simp; (try with_reducible rfl)
  try simp only [Act.put, List.setIfInBounds_toArray, List.set_cons_zero, List.set_cons_succ]
  refine take_d (i := 4) (d := 100) (v := ?_) rfl rfl (by kernel_rfl) (by kernel_rfl) (by kernel_rfl) (fun _ _ _ h => h) (Or.inl ⟨by rfl, ?_⟩) (by assumption) ?_
  rotate_left
  · intro w hSw; (try dsimp only at hSw); go_simp; (try with_reducible rfl)
  try simp only [Act.put, List.setIfInBounds_toArray, List.set_cons_zero, List.set_cons_succ]
  refine take_d (i := 5) (d := 101) (v := ?_) rfl rfl (by kernel_rfl) (by kernel_rfl) (by kernel_rfl) (fun _ _ _ h => h) (Or.inl ⟨by rfl, ?_⟩) (by assumption) ?_
  rotate_left
  · intro w hSw; (try dsimp only at hSw); go_simp; (try with_reducible rfl)
  try simp only [Act.put, List.setIfInBounds_toArray, List.set_cons_zero, List.set_cons_succ]
  refine take_d (i := 6) (d := 102) (v := ?_) rfl rfl (by kernel_rfl) (by kernel_rfl) (by kernel_rfl) (fun _ _ _ h => h) (Or.inl ⟨by rfl, ?_⟩) (by assumption) ?_
  rotate_left
  · intro w hSw; (try dsimp only at hSw); go_simp; (try with_reducible rfl)
  try simp only [Act.put, List.setIfInBounds_toArray, List.set_cons_zero, List.set_cons_succ]
  refine take_d (i := 7) (d := 103) (v := ?_) rfl rfl (by kernel_rfl) (by kernel_rfl) (by kernel_rfl) (fun _ _ _ h => h) (Or.inl ⟨by rfl, ?_⟩) (by assumption) ?_
  rotate_left
  · intro w hSw; (try dsimp only at hSw); go_simp; (try with_reducible rfl)
  try simp only [Act.put, List.setIfInBounds_toArray, List.set_cons_zero, List.set_cons_succ]
  refine take_d (i := 8) (d := 104) (v := ?_) rfl rfl (by kernel_rfl) (by kernel_rfl) (by kernel_rfl) (fun _ _ _ h => h) (Or.inl ⟨by rfl, ?_⟩) (by assumption) ?_
  rotate_left
  · intro w hSw; (try dsimp only at hSw); go_simp; (try with_reducible rfl)
  try simp only [Act.put, List.setIfInBounds_toArray, List.set_cons_zero, List.set_cons_succ]
  refine wpAnyH_ready (rs := [9]) (by kernel_rfl) (by simp) ?_
  refine AllReadyH.cons rfl (fun K hK => ?_) AllReadyH.nil
  go_simp
  go_at_call 56
  refine (Har.out _).mono ?_
  rintro e w2 ⟨rfl, u2⟩
  have t2 := (Touch.refl [] W).drew.trans0 u2
  (try go_wp2_with fail)
  obtain ⟨l0, l1, l2⟩ := vals_at (HG.out.touch0 t2) 0 (by simp)
  obtain ⟨l3, l4, l5⟩ := vals_at (HG.out.touch0 t2) 1 (by simp)
  simp only [List.getElem_cons_zero, List.getElem_cons_succ, Nat.zero_mul, Nat.zero_add, Nat.one_mul, Nat.reduceAdd] at l0 l1 l2 l3 l4 l5
  obtain ⟨_, _, _, _, _, e5', _, _⟩ := blk7 (t2.blk HE.out (by simp))
  refine hK.out _ _ ⟨l0, l1, l2, l3, l4, l5, e5'⟩ (fun _hH => ?_)
  clear hK K
  try simp only [Act.put, List.setIfInBounds_toArray, List.set_cons_zero, List.set_cons_succ]
  refine take_d (i := 10) (d := 95) (v := ?_) rfl rfl (by kernel_rfl) (by kernel_rfl) (by kernel_rfl) (fun _ _ _ h => h) (Or.inl ⟨by rfl, ?_⟩) (by assumption) ?_
  rotate_left
  · intro w hSw; (try dsimp only at hSw); go_simp; (try with_reducible rfl)
  try simp only [Act.put, List.setIfInBounds_toArray, List.set_cons_zero, List.set_cons_succ]
  refine take_d (i := 11) (d := 106) (v := ?_) rfl rfl (by kernel_rfl) (by kernel_rfl) (by kernel_rfl) (fun _ _ _ h => h) (Or.inl ⟨by rfl, ?_⟩) (by assumption) ?_
  rotate_left
  · intro w hSw; (try dsimp only at hSw); go_simp; (try with_reducible rfl)
  try simp only [Act.put, List.setIfInBounds_toArray, List.set_cons_zero, List.set_cons_succ]
  refine take_d (i := 12) (d := 107) (v := ?_) rfl rfl (by kernel_rfl) (by kernel_rfl) (by kernel_rfl) (fun _ _ _ h => h) (Or.inl ⟨by rfl, ?_⟩) (by assumption) ?_
  rotate_left
  · intro w hSw; (try dsimp only at hSw); go_simp; (try with_reducible rfl)
  try simp only [Act.put, List.setIfInBounds_toArray, List.set_cons_zero, List.set_cons_succ]
  obtain ⟨z0, z1, z2, f0, f1, f2⟩ := blk3 (t2.blk HZ.out (by simp))
  obtain ⟨s1, s2⟩ := out3 (t2.blk HZ.out (by simp)) (.int .i64 wk) (.int .i64 wn) (.string wt)
  have hgS := RdK.touch (HG.out.touch0 t2) s2 (fun b hb hm => by simp [fpo] at hb hm; omega)
  obtain ⟨k0, k1, k2⟩ := vals_at hgS 0 (by simp)
  obtain ⟨k3, k4, k5⟩ := vals_at hgS 1 (by simp)
  simp only [List.getElem_cons_zero, List.getElem_cons_succ, Nat.zero_mul, Nat.zero_add, Nat.one_mul, Nat.reduceAdd] at k0 k1 k2 k3 k4 k5
  obtain ⟨_, _, _, _, _, e5s, _, _⟩ := blk7 (s2.blk (t2.blk HE.out (by simp)) (by simp; omega))
  refine wpAnyH_ready (rs := [13]) (by kernel_rfl) (by simp) ?_
  refine AllReadyH.cons rfl (fun K hK => ?_) AllReadyH.nil
  go_simp
  (try go_wp2_with fail)
  refine hK.out _ _ ⟨k0, k1, k2, k3, k4, k5, e5s⟩ (fun _hH => ?_)
  clear hK K
  try simp only [Act.put, List.setIfInBounds_toArray, List.set_cons_zero, List.set_cons_succ]
  refine wpAnyH_ready (rs := [14]) (by kernel_rfl) (by simp) ?_
  refine AllReadyH.cons rfl (fun K hK => ?_) AllReadyH.nil
  go_simp
  (try go_wp2_with fail)
  refine hK.out _ _ (by assumption) (fun _ => ?_)
  clear hK K
  try simp only [Act.put, List.setIfInBounds_toArray, List.set_cons_zero, List.set_cons_succ]
  refine wpAnyH_done (by kernel_rfl) ?_ _
  obtain ⟨y0, y1, y2, _⟩ := blk3 s1
  obtain ⟨v0, v1, v2, _⟩ := blk3 (s2.blk (t2.blk HV.out (by simp)) (by simp))
  go_wp2_with fail
  go_ret
  exact ⟨rfl, (tW.trans0 t2).trans s2 (fun b hb => .inr (by simp at hb; omega))⟩

set_option maxRecDepth 100000 in
set_option maxHeartbeats 6400000 in
theorem whole_ari2 (nk nn : Int) (nt : ByteArray) (p0 p1 : Int) (p2 : ByteArray) (q0 q1 : Int) (q2 : ByteArray) (wk wn : Int) (wt : ByteArray) (er : Int) (A : Option Addr) (m c g bc : Nat) (w : World) (h : ValsAt w (some ⟨g, 0, none⟩) [⟨p0, p1, p2⟩, ⟨q0, q1, q2⟩]) (hw : ((⟨wk, wn, wt⟩, er) : VD × Int) = arithV 42 ⟨p0, p1, p2⟩ ⟨q0, q1, q2⟩) :
    Calls Try.prog 43 #[.agg #[.int .i64 4, .string ⟨#[]⟩, .int .i64 nk, .int .i64 nn, .string nt, .string ⟨#[42]⟩, .slice A m c], .slice (some ⟨g, 0, none⟩) 2 bc, .agg #[.int .i64 wk, .int .i64 wn, .string wt], .int .i64 er] w fun e w' => e = .returned (.bool true) ∧ Touch [] w w' := by
  have heq := fun w' => eqIn_val ⟨wk, wn, wt⟩ ⟨wk, wn, wt⟩ w'
  rw [(eqV3_iff _ _).2 rfl] at heq
  simp only at heq
  have hgd := guard_val
  obtain ⟨W, hW⟩ : ∃ W, W = ((w.alloc (.cells #[.int .i64 4, .string ⟨#[]⟩, .int .i64 nk, .int .i64 nn, .string nt, .string ⟨#[42]⟩, .slice A m c] 33)).alloc (.cells #[.int .i64 wk, .int .i64 wn, .string wt] 30)).alloc (.cells #[.int .i64 0, .int .i64 0, .string ⟨#[]⟩] 30) := ⟨_, rfl⟩
  have tW : Touch [] w W := by rw [hW]; exact (((Touch.refl [] w).alloc _).alloc _).alloc _
  have hE : W.heap[w.heap.size]? = some (.cells #[.int .i64 4, .string ⟨#[]⟩, .int .i64 nk, .int .i64 nn, .string nt, .string ⟨#[42]⟩, .slice A m c] 33) := by rw [hW]; exact (((Touch.refl [] (w.alloc (.cells #[.int .i64 4, .string ⟨#[]⟩, .int .i64 nk, .int .i64 nn, .string nt, .string ⟨#[42]⟩, .slice A m c] 33))).alloc _).alloc _).blk (heap_alloc_new w (.cells #[.int .i64 4, .string ⟨#[]⟩, .int .i64 nk, .int .i64 nn, .string nt, .string ⟨#[42]⟩, .slice A m c] 33)) (by simp)
  have hV : W.heap[w.heap.size + 1]? = some (.cells #[.int .i64 wk, .int .i64 wn, .string wt] 30) := by
    have := ((Touch.refl [] ((w.alloc (.cells #[.int .i64 4, .string ⟨#[]⟩, .int .i64 nk, .int .i64 nn, .string nt, .string ⟨#[42]⟩, .slice A m c] 33)).alloc (.cells #[.int .i64 wk, .int .i64 wn, .string wt] 30))).alloc (.cells #[.int .i64 0, .int .i64 0, .string ⟨#[]⟩] 30)).blk (heap_alloc_new (w.alloc (.cells #[.int .i64 4, .string ⟨#[]⟩, .int .i64 nk, .int .i64 nn, .string nt, .string ⟨#[42]⟩, .slice A m c] 33)) (.cells #[.int .i64 wk, .int .i64 wn, .string wt] 30)) (by simp)
    rw [World.size_alloc] at this
    rw [hW]; exact this
  have hZ : W.heap[w.heap.size + 1 + 1]? = some (.cells #[.int .i64 0, .int .i64 0, .string ⟨#[]⟩] 30) := by
    have := heap_alloc_new ((w.alloc (.cells #[.int .i64 4, .string ⟨#[]⟩, .int .i64 nk, .int .i64 nn, .string nt, .string ⟨#[42]⟩, .slice A m c] 33)).alloc (.cells #[.int .i64 wk, .int .i64 wn, .string wt] 30)) (.cells #[.int .i64 0, .int .i64 0, .string ⟨#[]⟩] 30)
    rw [World.size_alloc, World.size_alloc] at this
    rw [hW]; exact this
  have hg := h.touch0 tW
  have hgl0 : g < w.heap.size := Rd.lt h (by rw [flat_length vdE 3 vdE_length]; simp) g (by simp [fpo])
  have HE := Lib.hid hE; have HV := Lib.hid hV; have HZ := Lib.hid hZ; have HG := Lib.hid hg; have HW := Lib.hid hW
  have hr : ValsAt (((w.alloc (.cells #[.int .i64 4, .string ⟨#[]⟩, .int .i64 nk, .int .i64 nn, .string nt, .string ⟨#[42]⟩, .slice A m c] 33)).alloc (.cells #[.int .i64 wk, .int .i64 wn, .string wt] 30)).alloc (.cells #[.int .i64 0, .int .i64 0, .string ⟨#[]⟩] 30)) (some ⟨g, 0, none⟩) [⟨p0, p1, p2⟩, ⟨q0, q1, q2⟩] := h.touch0 ((((Touch.refl [] w).alloc _).alloc _).alloc _)
  obtain ⟨g0, g1, g2⟩ := vals_at hr 0 (by simp)
  obtain ⟨g3, g4, g5⟩ := vals_at hr 1 (by simp)
  simp only [List.getElem_cons_zero, List.getElem_cons_succ, Nat.zero_mul, Nat.zero_add, Nat.one_mul, Nat.reduceAdd] at g0 g1 g2 g3 g4 g5
  clear hE hV hZ hg hW h hr
  have Har := Lib.hid fun w' => arith_any 42 (by decide) ⟨p0, p1, p2⟩ ⟨q0, q1, q2⟩ w'
  rw [← hw] at Har
  simp only [VD.val] at Har
  go_enter Try.func43, Try.ntmps43
  go_wp2_with fail
  rw [← HW.out]
  clear g0 g1 g2 g3 g4 g5
  obtain ⟨g0, g1, g2⟩ := vals_at (HG.out.touch0 (Touch.refl [] W).drew) 0 (by simp)
  obtain ⟨g3, g4, g5⟩ := vals_at (HG.out.touch0 (Touch.refl [] W).drew) 1 (by simp)
  simp only [List.getElem_cons_zero, List.getElem_cons_succ, Nat.zero_mul, Nat.zero_add, Nat.one_mul, Nat.reduceAdd] at g0 g1 g2 g3 g4 g5
  obtain ⟨_, _, _, _, _, e5, _, _⟩ := blk7 ((Touch.refl [] W).drew.blk HE.out (by simp))
  refine wp_region_held_drew (S := fun w' => w'.cell? ⟨g, 0, none⟩ = some (.int .i64 p0) ∧ w'.cell? ⟨g, 1, none⟩ = some (.int .i64 p1) ∧ w'.cell? ⟨g, 2, none⟩ = some (.string p2) ∧ w'.cell? ⟨g, 3, none⟩ = some (.int .i64 q0) ∧ w'.cell? ⟨g, 4, none⟩ = some (.int .i64 q1) ∧ w'.cell? ⟨g, 5, none⟩ = some (.string q2) ∧ w'.cell? ⟨w.heap.size, 5, none⟩ = some (.string ⟨#[42]⟩)) (by kernel_rfl) ⟨g0, g1, g2, g3, g4, g5, e5⟩ (fun hHeld => ?_)
  refine take_d (i := 0) (d := 96) (v := ?_) rfl rfl (by kernel_rfl) (by kernel_rfl) (by kernel_rfl) (fun _ _ _ h => h) (Or.inl ⟨by rfl, ?_⟩) (by assumption) ?_
  rotate_left
  · intro w hSw; (try dsimp only at hSw); go_simp; (try with_reducible rfl)
  try simp only [Act.put, List.setIfInBounds_toArray, List.set_cons_zero, List.set_cons_succ]
  refine take_d (i := 1) (d := 97) (v := ?_) rfl rfl (by kernel_rfl) (by kernel_rfl) (by kernel_rfl) (fun _ _ _ h => h) (Or.inl ⟨by rfl, ?_⟩) (by assumption) ?_
  rotate_left
  · intro w hSw; (try dsimp only at hSw); go_simp; (try with_reducible rfl)
  try simp only [Act.put, List.setIfInBounds_toArray, List.set_cons_zero, List.set_cons_succ]
  refine take_d (i := 2) (d := 98) (v := ?_) rfl rfl (by kernel_rfl) (by kernel_rfl) (by kernel_rfl) (fun _ _ _ h => h) (Or.inl ⟨by rfl, ?_⟩) (by assumption) ?_
  rotate_left
  · intro w hSw; (try dsimp only at hSw); go_simp; (try with_reducible rfl)
  try simp only [Act.put, List.setIfInBounds_toArray, List.set_cons_zero, List.set_cons_succ]
  refine take_d (i := 3) (d := 99) (v := ?_) rfl rfl (by kernel_rfl) (by kernel_rfl) (by kernel_rfl) (fun _ _ _ h => h) (Or.inl ⟨by rfl, ?_⟩) (by assumption) ?_
  rotate_left
  · intro w hSw; (try dsimp only at hSw); go_simp; (try with_reducible rfl)
  try simp only [Act.put, List.setIfInBounds_toArray, List.set_cons_zero, List.set_cons_succ]
  refine take_d (i := 4) (d := 100) (v := ?_) rfl rfl (by kernel_rfl) (by kernel_rfl) (by kernel_rfl) (fun _ _ _ h => h) (Or.inl ⟨by rfl, ?_⟩) (by assumption) ?_
  rotate_left
  · intro w hSw; (try dsimp only at hSw); go_simp; (try with_reducible rfl)
  try simp only [Act.put, List.setIfInBounds_toArray, List.set_cons_zero, List.set_cons_succ]
  refine take_d (i := 5) (d := 101) (v := ?_) rfl rfl (by kernel_rfl) (by kernel_rfl) (by kernel_rfl) (fun _ _ _ h => h) (Or.inl ⟨by rfl, ?_⟩) (by assumption) ?_
  rotate_left
  · intro w hSw; (try dsimp only at hSw); go_simp; (try with_reducible rfl)
  try simp only [Act.put, List.setIfInBounds_toArray, List.set_cons_zero, List.set_cons_succ]
  refine take_d (i := 6) (d := 102) (v := ?_) rfl rfl (by kernel_rfl) (by kernel_rfl) (by kernel_rfl) (fun _ _ _ h => h) (Or.inl ⟨by rfl, ?_⟩) (by assumption) ?_
  rotate_left
  · intro w hSw; (try dsimp only at hSw); go_simp; (try with_reducible rfl)
  try simp only [Act.put, List.setIfInBounds_toArray, List.set_cons_zero, List.set_cons_succ]
  refine take_d (i := 7) (d := 103) (v := ?_) rfl rfl (by kernel_rfl) (by kernel_rfl) (by kernel_rfl) (fun _ _ _ h => h) (Or.inl ⟨by rfl, ?_⟩) (by assumption) ?_
  rotate_left
  · intro w hSw; (try dsimp only at hSw); go_simp; (try with_reducible rfl)
  try simp only [Act.put, List.setIfInBounds_toArray, List.set_cons_zero, List.set_cons_succ]
  refine take_d (i := 8) (d := 104) (v := ?_) rfl rfl (by kernel_rfl) (by kernel_rfl) (by kernel_rfl) (fun _ _ _ h => h) (Or.inl ⟨by rfl, ?_⟩) (by assumption) ?_
  rotate_left
  · intro w hSw; (try dsimp only at hSw); go_simp; (try with_reducible rfl)
  try simp only [Act.put, List.setIfInBounds_toArray, List.set_cons_zero, List.set_cons_succ]
  refine wpAnyH_ready (rs := [9]) (by kernel_rfl) (by simp) ?_
  refine AllReadyH.cons rfl (fun K hK => ?_) AllReadyH.nil
  go_simp
  go_at_call 56
  refine (Har.out _).mono ?_
  rintro e w2 ⟨rfl, u2⟩
  have t2 := (Touch.refl [] W).drew.trans0 u2
  (try go_wp2_with fail)
  obtain ⟨l0, l1, l2⟩ := vals_at (HG.out.touch0 t2) 0 (by simp)
  obtain ⟨l3, l4, l5⟩ := vals_at (HG.out.touch0 t2) 1 (by simp)
  simp only [List.getElem_cons_zero, List.getElem_cons_succ, Nat.zero_mul, Nat.zero_add, Nat.one_mul, Nat.reduceAdd] at l0 l1 l2 l3 l4 l5
  obtain ⟨_, _, _, _, _, e5', _, _⟩ := blk7 (t2.blk HE.out (by simp))
  refine hK.out _ _ ⟨l0, l1, l2, l3, l4, l5, e5'⟩ (fun _hH => ?_)
  clear hK K
  try simp only [Act.put, List.setIfInBounds_toArray, List.set_cons_zero, List.set_cons_succ]
  refine take_d (i := 10) (d := 95) (v := ?_) rfl rfl (by kernel_rfl) (by kernel_rfl) (by kernel_rfl) (fun _ _ _ h => h) (Or.inl ⟨by rfl, ?_⟩) (by assumption) ?_
  rotate_left
  · intro w hSw; (try dsimp only at hSw); go_simp; (try with_reducible rfl)
  try simp only [Act.put, List.setIfInBounds_toArray, List.set_cons_zero, List.set_cons_succ]
  refine take_d (i := 11) (d := 106) (v := ?_) rfl rfl (by kernel_rfl) (by kernel_rfl) (by kernel_rfl) (fun _ _ _ h => h) (Or.inl ⟨by rfl, ?_⟩) (by assumption) ?_
  rotate_left
  · intro w hSw; (try dsimp only at hSw); go_simp; (try with_reducible rfl)
  try simp only [Act.put, List.setIfInBounds_toArray, List.set_cons_zero, List.set_cons_succ]
  refine take_d (i := 12) (d := 107) (v := ?_) rfl rfl (by kernel_rfl) (by kernel_rfl) (by kernel_rfl) (fun _ _ _ h => h) (Or.inl ⟨by rfl, ?_⟩) (by assumption) ?_
  rotate_left
  · intro w hSw; (try dsimp only at hSw); go_simp; (try with_reducible rfl)
  try simp only [Act.put, List.setIfInBounds_toArray, List.set_cons_zero, List.set_cons_succ]
  obtain ⟨z0, z1, z2, f0, f1, f2⟩ := blk3 (t2.blk HZ.out (by simp))
  obtain ⟨s1, s2⟩ := out3 (t2.blk HZ.out (by simp)) (.int .i64 wk) (.int .i64 wn) (.string wt)
  have hgS := RdK.touch (HG.out.touch0 t2) s2 (fun b hb hm => by simp [fpo] at hb hm; omega)
  obtain ⟨k0, k1, k2⟩ := vals_at hgS 0 (by simp)
  obtain ⟨k3, k4, k5⟩ := vals_at hgS 1 (by simp)
  simp only [List.getElem_cons_zero, List.getElem_cons_succ, Nat.zero_mul, Nat.zero_add, Nat.one_mul, Nat.reduceAdd] at k0 k1 k2 k3 k4 k5
  obtain ⟨_, _, _, _, _, e5s, _, _⟩ := blk7 (s2.blk (t2.blk HE.out (by simp)) (by simp; omega))
  refine wpAnyH_ready (rs := [13]) (by kernel_rfl) (by simp) ?_
  refine AllReadyH.cons rfl (fun K hK => ?_) AllReadyH.nil
  go_simp
  (try go_wp2_with fail)
  refine hK.out _ _ ⟨k0, k1, k2, k3, k4, k5, e5s⟩ (fun _hH => ?_)
  clear hK K
  try simp only [Act.put, List.setIfInBounds_toArray, List.set_cons_zero, List.set_cons_succ]
  refine wpAnyH_ready (rs := [14]) (by kernel_rfl) (by simp) ?_
  refine AllReadyH.cons rfl (fun K hK => ?_) AllReadyH.nil
  go_simp
  (try go_wp2_with fail)
  refine hK.out _ _ (by assumption) (fun _ => ?_)
  clear hK K
  try simp only [Act.put, List.setIfInBounds_toArray, List.set_cons_zero, List.set_cons_succ]
  refine wpAnyH_done (by kernel_rfl) ?_ _
  obtain ⟨y0, y1, y2, _⟩ := blk3 s1
  obtain ⟨v0, v1, v2, _⟩ := blk3 (s2.blk (t2.blk HV.out (by simp)) (by simp))
  go_wp2_with fail
  go_ret
  exact ⟨rfl, (tW.trans0 t2).trans s2 (fun b hb => .inr (by simp at hb; omega))⟩

set_option maxRecDepth 100000 in
set_option maxHeartbeats 6400000 in
theorem whole_ari3 (nk nn : Int) (nt : ByteArray) (p0 p1 : Int) (p2 : ByteArray) (q0 q1 : Int) (q2 : ByteArray) (wk wn : Int) (wt : ByteArray) (er : Int) (A : Option Addr) (m c g bc : Nat) (w : World) (h : ValsAt w (some ⟨g, 0, none⟩) [⟨p0, p1, p2⟩, ⟨q0, q1, q2⟩]) (hw : ((⟨wk, wn, wt⟩, er) : VD × Int) = arithV 47 ⟨p0, p1, p2⟩ ⟨q0, q1, q2⟩) :
    Calls Try.prog 43 #[.agg #[.int .i64 4, .string ⟨#[]⟩, .int .i64 nk, .int .i64 nn, .string nt, .string ⟨#[47]⟩, .slice A m c], .slice (some ⟨g, 0, none⟩) 2 bc, .agg #[.int .i64 wk, .int .i64 wn, .string wt], .int .i64 er] w fun e w' => e = .returned (.bool true) ∧ Touch [] w w' := by
  have heq := fun w' => eqIn_val ⟨wk, wn, wt⟩ ⟨wk, wn, wt⟩ w'
  rw [(eqV3_iff _ _).2 rfl] at heq
  simp only at heq
  have hgd := guard_val
  obtain ⟨W, hW⟩ : ∃ W, W = ((w.alloc (.cells #[.int .i64 4, .string ⟨#[]⟩, .int .i64 nk, .int .i64 nn, .string nt, .string ⟨#[47]⟩, .slice A m c] 33)).alloc (.cells #[.int .i64 wk, .int .i64 wn, .string wt] 30)).alloc (.cells #[.int .i64 0, .int .i64 0, .string ⟨#[]⟩] 30) := ⟨_, rfl⟩
  have tW : Touch [] w W := by rw [hW]; exact (((Touch.refl [] w).alloc _).alloc _).alloc _
  have hE : W.heap[w.heap.size]? = some (.cells #[.int .i64 4, .string ⟨#[]⟩, .int .i64 nk, .int .i64 nn, .string nt, .string ⟨#[47]⟩, .slice A m c] 33) := by rw [hW]; exact (((Touch.refl [] (w.alloc (.cells #[.int .i64 4, .string ⟨#[]⟩, .int .i64 nk, .int .i64 nn, .string nt, .string ⟨#[47]⟩, .slice A m c] 33))).alloc _).alloc _).blk (heap_alloc_new w (.cells #[.int .i64 4, .string ⟨#[]⟩, .int .i64 nk, .int .i64 nn, .string nt, .string ⟨#[47]⟩, .slice A m c] 33)) (by simp)
  have hV : W.heap[w.heap.size + 1]? = some (.cells #[.int .i64 wk, .int .i64 wn, .string wt] 30) := by
    have := ((Touch.refl [] ((w.alloc (.cells #[.int .i64 4, .string ⟨#[]⟩, .int .i64 nk, .int .i64 nn, .string nt, .string ⟨#[47]⟩, .slice A m c] 33)).alloc (.cells #[.int .i64 wk, .int .i64 wn, .string wt] 30))).alloc (.cells #[.int .i64 0, .int .i64 0, .string ⟨#[]⟩] 30)).blk (heap_alloc_new (w.alloc (.cells #[.int .i64 4, .string ⟨#[]⟩, .int .i64 nk, .int .i64 nn, .string nt, .string ⟨#[47]⟩, .slice A m c] 33)) (.cells #[.int .i64 wk, .int .i64 wn, .string wt] 30)) (by simp)
    rw [World.size_alloc] at this
    rw [hW]; exact this
  have hZ : W.heap[w.heap.size + 1 + 1]? = some (.cells #[.int .i64 0, .int .i64 0, .string ⟨#[]⟩] 30) := by
    have := heap_alloc_new ((w.alloc (.cells #[.int .i64 4, .string ⟨#[]⟩, .int .i64 nk, .int .i64 nn, .string nt, .string ⟨#[47]⟩, .slice A m c] 33)).alloc (.cells #[.int .i64 wk, .int .i64 wn, .string wt] 30)) (.cells #[.int .i64 0, .int .i64 0, .string ⟨#[]⟩] 30)
    rw [World.size_alloc, World.size_alloc] at this
    rw [hW]; exact this
  have hg := h.touch0 tW
  have hgl0 : g < w.heap.size := Rd.lt h (by rw [flat_length vdE 3 vdE_length]; simp) g (by simp [fpo])
  have HE := Lib.hid hE; have HV := Lib.hid hV; have HZ := Lib.hid hZ; have HG := Lib.hid hg; have HW := Lib.hid hW
  have hr : ValsAt (((w.alloc (.cells #[.int .i64 4, .string ⟨#[]⟩, .int .i64 nk, .int .i64 nn, .string nt, .string ⟨#[47]⟩, .slice A m c] 33)).alloc (.cells #[.int .i64 wk, .int .i64 wn, .string wt] 30)).alloc (.cells #[.int .i64 0, .int .i64 0, .string ⟨#[]⟩] 30)) (some ⟨g, 0, none⟩) [⟨p0, p1, p2⟩, ⟨q0, q1, q2⟩] := h.touch0 ((((Touch.refl [] w).alloc _).alloc _).alloc _)
  obtain ⟨g0, g1, g2⟩ := vals_at hr 0 (by simp)
  obtain ⟨g3, g4, g5⟩ := vals_at hr 1 (by simp)
  simp only [List.getElem_cons_zero, List.getElem_cons_succ, Nat.zero_mul, Nat.zero_add, Nat.one_mul, Nat.reduceAdd] at g0 g1 g2 g3 g4 g5
  clear hE hV hZ hg hW h hr
  have Har := Lib.hid fun w' => arith_any 47 (by decide) ⟨p0, p1, p2⟩ ⟨q0, q1, q2⟩ w'
  rw [← hw] at Har
  simp only [VD.val] at Har
  go_enter Try.func43, Try.ntmps43
  go_wp2_with fail
  rw [← HW.out]
  clear g0 g1 g2 g3 g4 g5
  obtain ⟨g0, g1, g2⟩ := vals_at (HG.out.touch0 (Touch.refl [] W).drew) 0 (by simp)
  obtain ⟨g3, g4, g5⟩ := vals_at (HG.out.touch0 (Touch.refl [] W).drew) 1 (by simp)
  simp only [List.getElem_cons_zero, List.getElem_cons_succ, Nat.zero_mul, Nat.zero_add, Nat.one_mul, Nat.reduceAdd] at g0 g1 g2 g3 g4 g5
  obtain ⟨_, _, _, _, _, e5, _, _⟩ := blk7 ((Touch.refl [] W).drew.blk HE.out (by simp))
  refine wp_region_held_drew (S := fun w' => w'.cell? ⟨g, 0, none⟩ = some (.int .i64 p0) ∧ w'.cell? ⟨g, 1, none⟩ = some (.int .i64 p1) ∧ w'.cell? ⟨g, 2, none⟩ = some (.string p2) ∧ w'.cell? ⟨g, 3, none⟩ = some (.int .i64 q0) ∧ w'.cell? ⟨g, 4, none⟩ = some (.int .i64 q1) ∧ w'.cell? ⟨g, 5, none⟩ = some (.string q2) ∧ w'.cell? ⟨w.heap.size, 5, none⟩ = some (.string ⟨#[47]⟩)) (by kernel_rfl) ⟨g0, g1, g2, g3, g4, g5, e5⟩ (fun hHeld => ?_)
  refine take_d (i := 0) (d := 96) (v := ?_) rfl rfl (by kernel_rfl) (by kernel_rfl) (by kernel_rfl) (fun _ _ _ h => h) (Or.inl ⟨by rfl, ?_⟩) (by assumption) ?_
  rotate_left
  · intro w hSw; (try dsimp only at hSw); go_simp; (try with_reducible rfl)
  try simp only [Act.put, List.setIfInBounds_toArray, List.set_cons_zero, List.set_cons_succ]
  refine take_d (i := 1) (d := 97) (v := ?_) rfl rfl (by kernel_rfl) (by kernel_rfl) (by kernel_rfl) (fun _ _ _ h => h) (Or.inl ⟨by rfl, ?_⟩) (by assumption) ?_
  rotate_left
  · intro w hSw; (try dsimp only at hSw); go_simp; (try with_reducible rfl)
  try simp only [Act.put, List.setIfInBounds_toArray, List.set_cons_zero, List.set_cons_succ]
  refine take_d (i := 2) (d := 98) (v := ?_) rfl rfl (by kernel_rfl) (by kernel_rfl) (by kernel_rfl) (fun _ _ _ h => h) (Or.inl ⟨by rfl, ?_⟩) (by assumption) ?_
  rotate_left
  · intro w hSw; (try dsimp only at hSw); go_simp; (try with_reducible rfl)
  try simp only [Act.put, List.setIfInBounds_toArray, List.set_cons_zero, List.set_cons_succ]
  refine take_d (i := 3) (d := 99) (v := ?_) rfl rfl (by kernel_rfl) (by kernel_rfl) (by kernel_rfl) (fun _ _ _ h => h) (Or.inl ⟨by rfl, ?_⟩) (by assumption) ?_
  rotate_left
  · intro w hSw; (try dsimp only at hSw); go_simp; (try with_reducible rfl)
  try simp only [Act.put, List.setIfInBounds_toArray, List.set_cons_zero, List.set_cons_succ]
  refine take_d (i := 4) (d := 100) (v := ?_) rfl rfl (by kernel_rfl) (by kernel_rfl) (by kernel_rfl) (fun _ _ _ h => h) (Or.inl ⟨by rfl, ?_⟩) (by assumption) ?_
  rotate_left
  · intro w hSw; (try dsimp only at hSw); go_simp; (try with_reducible rfl)
  try simp only [Act.put, List.setIfInBounds_toArray, List.set_cons_zero, List.set_cons_succ]
  refine take_d (i := 5) (d := 101) (v := ?_) rfl rfl (by kernel_rfl) (by kernel_rfl) (by kernel_rfl) (fun _ _ _ h => h) (Or.inl ⟨by rfl, ?_⟩) (by assumption) ?_
  rotate_left
  · intro w hSw; (try dsimp only at hSw); go_simp; (try with_reducible rfl)
  try simp only [Act.put, List.setIfInBounds_toArray, List.set_cons_zero, List.set_cons_succ]
  refine take_d (i := 6) (d := 102) (v := ?_) rfl rfl (by kernel_rfl) (by kernel_rfl) (by kernel_rfl) (fun _ _ _ h => h) (Or.inl ⟨by rfl, ?_⟩) (by assumption) ?_
  rotate_left
  · intro w hSw; (try dsimp only at hSw); go_simp; (try with_reducible rfl)
  try simp only [Act.put, List.setIfInBounds_toArray, List.set_cons_zero, List.set_cons_succ]
  refine take_d (i := 7) (d := 103) (v := ?_) rfl rfl (by kernel_rfl) (by kernel_rfl) (by kernel_rfl) (fun _ _ _ h => h) (Or.inl ⟨by rfl, ?_⟩) (by assumption) ?_
  rotate_left
  · intro w hSw; (try dsimp only at hSw); go_simp; (try with_reducible rfl)
  try simp only [Act.put, List.setIfInBounds_toArray, List.set_cons_zero, List.set_cons_succ]
  refine take_d (i := 8) (d := 104) (v := ?_) rfl rfl (by kernel_rfl) (by kernel_rfl) (by kernel_rfl) (fun _ _ _ h => h) (Or.inl ⟨by rfl, ?_⟩) (by assumption) ?_
  rotate_left
  · intro w hSw; (try dsimp only at hSw); go_simp; (try with_reducible rfl)
  try simp only [Act.put, List.setIfInBounds_toArray, List.set_cons_zero, List.set_cons_succ]
  refine wpAnyH_ready (rs := [9]) (by kernel_rfl) (by simp) ?_
  refine AllReadyH.cons rfl (fun K hK => ?_) AllReadyH.nil
  go_simp
  go_at_call 56
  refine (Har.out _).mono ?_
  rintro e w2 ⟨rfl, u2⟩
  have t2 := (Touch.refl [] W).drew.trans0 u2
  (try go_wp2_with fail)
  obtain ⟨l0, l1, l2⟩ := vals_at (HG.out.touch0 t2) 0 (by simp)
  obtain ⟨l3, l4, l5⟩ := vals_at (HG.out.touch0 t2) 1 (by simp)
  simp only [List.getElem_cons_zero, List.getElem_cons_succ, Nat.zero_mul, Nat.zero_add, Nat.one_mul, Nat.reduceAdd] at l0 l1 l2 l3 l4 l5
  obtain ⟨_, _, _, _, _, e5', _, _⟩ := blk7 (t2.blk HE.out (by simp))
  refine hK.out _ _ ⟨l0, l1, l2, l3, l4, l5, e5'⟩ (fun _hH => ?_)
  clear hK K
  try simp only [Act.put, List.setIfInBounds_toArray, List.set_cons_zero, List.set_cons_succ]
  refine take_d (i := 10) (d := 95) (v := ?_) rfl rfl (by kernel_rfl) (by kernel_rfl) (by kernel_rfl) (fun _ _ _ h => h) (Or.inl ⟨by rfl, ?_⟩) (by assumption) ?_
  rotate_left
  · intro w hSw; (try dsimp only at hSw); go_simp; (try with_reducible rfl)
  try simp only [Act.put, List.setIfInBounds_toArray, List.set_cons_zero, List.set_cons_succ]
  refine take_d (i := 11) (d := 106) (v := ?_) rfl rfl (by kernel_rfl) (by kernel_rfl) (by kernel_rfl) (fun _ _ _ h => h) (Or.inl ⟨by rfl, ?_⟩) (by assumption) ?_
  rotate_left
  · intro w hSw; (try dsimp only at hSw); go_simp; (try with_reducible rfl)
  try simp only [Act.put, List.setIfInBounds_toArray, List.set_cons_zero, List.set_cons_succ]
  refine take_d (i := 12) (d := 107) (v := ?_) rfl rfl (by kernel_rfl) (by kernel_rfl) (by kernel_rfl) (fun _ _ _ h => h) (Or.inl ⟨by rfl, ?_⟩) (by assumption) ?_
  rotate_left
  · intro w hSw; (try dsimp only at hSw); go_simp; (try with_reducible rfl)
  try simp only [Act.put, List.setIfInBounds_toArray, List.set_cons_zero, List.set_cons_succ]
  obtain ⟨z0, z1, z2, f0, f1, f2⟩ := blk3 (t2.blk HZ.out (by simp))
  obtain ⟨s1, s2⟩ := out3 (t2.blk HZ.out (by simp)) (.int .i64 wk) (.int .i64 wn) (.string wt)
  have hgS := RdK.touch (HG.out.touch0 t2) s2 (fun b hb hm => by simp [fpo] at hb hm; omega)
  obtain ⟨k0, k1, k2⟩ := vals_at hgS 0 (by simp)
  obtain ⟨k3, k4, k5⟩ := vals_at hgS 1 (by simp)
  simp only [List.getElem_cons_zero, List.getElem_cons_succ, Nat.zero_mul, Nat.zero_add, Nat.one_mul, Nat.reduceAdd] at k0 k1 k2 k3 k4 k5
  obtain ⟨_, _, _, _, _, e5s, _, _⟩ := blk7 (s2.blk (t2.blk HE.out (by simp)) (by simp; omega))
  refine wpAnyH_ready (rs := [13]) (by kernel_rfl) (by simp) ?_
  refine AllReadyH.cons rfl (fun K hK => ?_) AllReadyH.nil
  go_simp
  (try go_wp2_with fail)
  refine hK.out _ _ ⟨k0, k1, k2, k3, k4, k5, e5s⟩ (fun _hH => ?_)
  clear hK K
  try simp only [Act.put, List.setIfInBounds_toArray, List.set_cons_zero, List.set_cons_succ]
  refine wpAnyH_ready (rs := [14]) (by kernel_rfl) (by simp) ?_
  refine AllReadyH.cons rfl (fun K hK => ?_) AllReadyH.nil
  go_simp
  (try go_wp2_with fail)
  refine hK.out _ _ (by assumption) (fun _ => ?_)
  clear hK K
  try simp only [Act.put, List.setIfInBounds_toArray, List.set_cons_zero, List.set_cons_succ]
  refine wpAnyH_done (by kernel_rfl) ?_ _
  obtain ⟨y0, y1, y2, _⟩ := blk3 s1
  obtain ⟨v0, v1, v2, _⟩ := blk3 (s2.blk (t2.blk HV.out (by simp)) (by simp))
  go_wp2_with fail
  go_ret
  exact ⟨rfl, (tW.trans0 t2).trans s2 (fun b hb => .inr (by simp at hb; omega))⟩

set_option maxRecDepth 100000 in
set_option maxHeartbeats 6400000 in
theorem whole_ari4 (nk nn : Int) (nt : ByteArray) (p0 p1 : Int) (p2 : ByteArray) (q0 q1 : Int) (q2 : ByteArray) (wk wn : Int) (wt : ByteArray) (er : Int) (A : Option Addr) (m c g bc : Nat) (w : World) (h : ValsAt w (some ⟨g, 0, none⟩) [⟨p0, p1, p2⟩, ⟨q0, q1, q2⟩]) (hw : ((⟨wk, wn, wt⟩, er) : VD × Int) = arithV 37 ⟨p0, p1, p2⟩ ⟨q0, q1, q2⟩) :
    Calls Try.prog 43 #[.agg #[.int .i64 4, .string ⟨#[]⟩, .int .i64 nk, .int .i64 nn, .string nt, .string ⟨#[37]⟩, .slice A m c], .slice (some ⟨g, 0, none⟩) 2 bc, .agg #[.int .i64 wk, .int .i64 wn, .string wt], .int .i64 er] w fun e w' => e = .returned (.bool true) ∧ Touch [] w w' := by
  have heq := fun w' => eqIn_val ⟨wk, wn, wt⟩ ⟨wk, wn, wt⟩ w'
  rw [(eqV3_iff _ _).2 rfl] at heq
  simp only at heq
  have hgd := guard_val
  obtain ⟨W, hW⟩ : ∃ W, W = ((w.alloc (.cells #[.int .i64 4, .string ⟨#[]⟩, .int .i64 nk, .int .i64 nn, .string nt, .string ⟨#[37]⟩, .slice A m c] 33)).alloc (.cells #[.int .i64 wk, .int .i64 wn, .string wt] 30)).alloc (.cells #[.int .i64 0, .int .i64 0, .string ⟨#[]⟩] 30) := ⟨_, rfl⟩
  have tW : Touch [] w W := by rw [hW]; exact (((Touch.refl [] w).alloc _).alloc _).alloc _
  have hE : W.heap[w.heap.size]? = some (.cells #[.int .i64 4, .string ⟨#[]⟩, .int .i64 nk, .int .i64 nn, .string nt, .string ⟨#[37]⟩, .slice A m c] 33) := by rw [hW]; exact (((Touch.refl [] (w.alloc (.cells #[.int .i64 4, .string ⟨#[]⟩, .int .i64 nk, .int .i64 nn, .string nt, .string ⟨#[37]⟩, .slice A m c] 33))).alloc _).alloc _).blk (heap_alloc_new w (.cells #[.int .i64 4, .string ⟨#[]⟩, .int .i64 nk, .int .i64 nn, .string nt, .string ⟨#[37]⟩, .slice A m c] 33)) (by simp)
  have hV : W.heap[w.heap.size + 1]? = some (.cells #[.int .i64 wk, .int .i64 wn, .string wt] 30) := by
    have := ((Touch.refl [] ((w.alloc (.cells #[.int .i64 4, .string ⟨#[]⟩, .int .i64 nk, .int .i64 nn, .string nt, .string ⟨#[37]⟩, .slice A m c] 33)).alloc (.cells #[.int .i64 wk, .int .i64 wn, .string wt] 30))).alloc (.cells #[.int .i64 0, .int .i64 0, .string ⟨#[]⟩] 30)).blk (heap_alloc_new (w.alloc (.cells #[.int .i64 4, .string ⟨#[]⟩, .int .i64 nk, .int .i64 nn, .string nt, .string ⟨#[37]⟩, .slice A m c] 33)) (.cells #[.int .i64 wk, .int .i64 wn, .string wt] 30)) (by simp)
    rw [World.size_alloc] at this
    rw [hW]; exact this
  have hZ : W.heap[w.heap.size + 1 + 1]? = some (.cells #[.int .i64 0, .int .i64 0, .string ⟨#[]⟩] 30) := by
    have := heap_alloc_new ((w.alloc (.cells #[.int .i64 4, .string ⟨#[]⟩, .int .i64 nk, .int .i64 nn, .string nt, .string ⟨#[37]⟩, .slice A m c] 33)).alloc (.cells #[.int .i64 wk, .int .i64 wn, .string wt] 30)) (.cells #[.int .i64 0, .int .i64 0, .string ⟨#[]⟩] 30)
    rw [World.size_alloc, World.size_alloc] at this
    rw [hW]; exact this
  have hg := h.touch0 tW
  have hgl0 : g < w.heap.size := Rd.lt h (by rw [flat_length vdE 3 vdE_length]; simp) g (by simp [fpo])
  have HE := Lib.hid hE; have HV := Lib.hid hV; have HZ := Lib.hid hZ; have HG := Lib.hid hg; have HW := Lib.hid hW
  have hr : ValsAt (((w.alloc (.cells #[.int .i64 4, .string ⟨#[]⟩, .int .i64 nk, .int .i64 nn, .string nt, .string ⟨#[37]⟩, .slice A m c] 33)).alloc (.cells #[.int .i64 wk, .int .i64 wn, .string wt] 30)).alloc (.cells #[.int .i64 0, .int .i64 0, .string ⟨#[]⟩] 30)) (some ⟨g, 0, none⟩) [⟨p0, p1, p2⟩, ⟨q0, q1, q2⟩] := h.touch0 ((((Touch.refl [] w).alloc _).alloc _).alloc _)
  obtain ⟨g0, g1, g2⟩ := vals_at hr 0 (by simp)
  obtain ⟨g3, g4, g5⟩ := vals_at hr 1 (by simp)
  simp only [List.getElem_cons_zero, List.getElem_cons_succ, Nat.zero_mul, Nat.zero_add, Nat.one_mul, Nat.reduceAdd] at g0 g1 g2 g3 g4 g5
  clear hE hV hZ hg hW h hr
  have Har := Lib.hid fun w' => arith_any 37 (by decide) ⟨p0, p1, p2⟩ ⟨q0, q1, q2⟩ w'
  rw [← hw] at Har
  simp only [VD.val] at Har
  go_enter Try.func43, Try.ntmps43
  go_wp2_with fail
  rw [← HW.out]
  clear g0 g1 g2 g3 g4 g5
  obtain ⟨g0, g1, g2⟩ := vals_at (HG.out.touch0 (Touch.refl [] W).drew) 0 (by simp)
  obtain ⟨g3, g4, g5⟩ := vals_at (HG.out.touch0 (Touch.refl [] W).drew) 1 (by simp)
  simp only [List.getElem_cons_zero, List.getElem_cons_succ, Nat.zero_mul, Nat.zero_add, Nat.one_mul, Nat.reduceAdd] at g0 g1 g2 g3 g4 g5
  obtain ⟨_, _, _, _, _, e5, _, _⟩ := blk7 ((Touch.refl [] W).drew.blk HE.out (by simp))
  refine wp_region_held_drew (S := fun w' => w'.cell? ⟨g, 0, none⟩ = some (.int .i64 p0) ∧ w'.cell? ⟨g, 1, none⟩ = some (.int .i64 p1) ∧ w'.cell? ⟨g, 2, none⟩ = some (.string p2) ∧ w'.cell? ⟨g, 3, none⟩ = some (.int .i64 q0) ∧ w'.cell? ⟨g, 4, none⟩ = some (.int .i64 q1) ∧ w'.cell? ⟨g, 5, none⟩ = some (.string q2) ∧ w'.cell? ⟨w.heap.size, 5, none⟩ = some (.string ⟨#[37]⟩)) (by kernel_rfl) ⟨g0, g1, g2, g3, g4, g5, e5⟩ (fun hHeld => ?_)
  refine take_d (i := 0) (d := 96) (v := ?_) rfl rfl (by kernel_rfl) (by kernel_rfl) (by kernel_rfl) (fun _ _ _ h => h) (Or.inl ⟨by rfl, ?_⟩) (by assumption) ?_
  rotate_left
  · intro w hSw; (try dsimp only at hSw); go_simp; (try with_reducible rfl)
  try simp only [Act.put, List.setIfInBounds_toArray, List.set_cons_zero, List.set_cons_succ]
  refine take_d (i := 1) (d := 97) (v := ?_) rfl rfl (by kernel_rfl) (by kernel_rfl) (by kernel_rfl) (fun _ _ _ h => h) (Or.inl ⟨by rfl, ?_⟩) (by assumption) ?_
  rotate_left
  · intro w hSw; (try dsimp only at hSw); go_simp; (try with_reducible rfl)
  try simp only [Act.put, List.setIfInBounds_toArray, List.set_cons_zero, List.set_cons_succ]
  refine take_d (i := 2) (d := 98) (v := ?_) rfl rfl (by kernel_rfl) (by kernel_rfl) (by kernel_rfl) (fun _ _ _ h => h) (Or.inl ⟨by rfl, ?_⟩) (by assumption) ?_
  rotate_left
  · intro w hSw; (try dsimp only at hSw); go_simp; (try with_reducible rfl)
  try simp only [Act.put, List.setIfInBounds_toArray, List.set_cons_zero, List.set_cons_succ]
  refine take_d (i := 3) (d := 99) (v := ?_) rfl rfl (by kernel_rfl) (by kernel_rfl) (by kernel_rfl) (fun _ _ _ h => h) (Or.inl ⟨by rfl, ?_⟩) (by assumption) ?_
  rotate_left
  · intro w hSw; (try dsimp only at hSw); go_simp; (try with_reducible rfl)
  try simp only [Act.put, List.setIfInBounds_toArray, List.set_cons_zero, List.set_cons_succ]
  refine take_d (i := 4) (d := 100) (v := ?_) rfl rfl (by kernel_rfl) (by kernel_rfl) (by kernel_rfl) (fun _ _ _ h => h) (Or.inl ⟨by rfl, ?_⟩) (by assumption) ?_
  rotate_left
  · intro w hSw; (try dsimp only at hSw); go_simp; (try with_reducible rfl)
  try simp only [Act.put, List.setIfInBounds_toArray, List.set_cons_zero, List.set_cons_succ]
  refine take_d (i := 5) (d := 101) (v := ?_) rfl rfl (by kernel_rfl) (by kernel_rfl) (by kernel_rfl) (fun _ _ _ h => h) (Or.inl ⟨by rfl, ?_⟩) (by assumption) ?_
  rotate_left
  · intro w hSw; (try dsimp only at hSw); go_simp; (try with_reducible rfl)
  try simp only [Act.put, List.setIfInBounds_toArray, List.set_cons_zero, List.set_cons_succ]
  refine take_d (i := 6) (d := 102) (v := ?_) rfl rfl (by kernel_rfl) (by kernel_rfl) (by kernel_rfl) (fun _ _ _ h => h) (Or.inl ⟨by rfl, ?_⟩) (by assumption) ?_
  rotate_left
  · intro w hSw; (try dsimp only at hSw); go_simp; (try with_reducible rfl)
  try simp only [Act.put, List.setIfInBounds_toArray, List.set_cons_zero, List.set_cons_succ]
  refine take_d (i := 7) (d := 103) (v := ?_) rfl rfl (by kernel_rfl) (by kernel_rfl) (by kernel_rfl) (fun _ _ _ h => h) (Or.inl ⟨by rfl, ?_⟩) (by assumption) ?_
  rotate_left
  · intro w hSw; (try dsimp only at hSw); go_simp; (try with_reducible rfl)
  try simp only [Act.put, List.setIfInBounds_toArray, List.set_cons_zero, List.set_cons_succ]
  refine take_d (i := 8) (d := 104) (v := ?_) rfl rfl (by kernel_rfl) (by kernel_rfl) (by kernel_rfl) (fun _ _ _ h => h) (Or.inl ⟨by rfl, ?_⟩) (by assumption) ?_
  rotate_left
  · intro w hSw; (try dsimp only at hSw); go_simp; (try with_reducible rfl)
  try simp only [Act.put, List.setIfInBounds_toArray, List.set_cons_zero, List.set_cons_succ]
  refine wpAnyH_ready (rs := [9]) (by kernel_rfl) (by simp) ?_
  refine AllReadyH.cons rfl (fun K hK => ?_) AllReadyH.nil
  go_simp
  go_at_call 56
  refine (Har.out _).mono ?_
  rintro e w2 ⟨rfl, u2⟩
  have t2 := (Touch.refl [] W).drew.trans0 u2
  (try go_wp2_with fail)
  obtain ⟨l0, l1, l2⟩ := vals_at (HG.out.touch0 t2) 0 (by simp)
  obtain ⟨l3, l4, l5⟩ := vals_at (HG.out.touch0 t2) 1 (by simp)
  simp only [List.getElem_cons_zero, List.getElem_cons_succ, Nat.zero_mul, Nat.zero_add, Nat.one_mul, Nat.reduceAdd] at l0 l1 l2 l3 l4 l5
  obtain ⟨_, _, _, _, _, e5', _, _⟩ := blk7 (t2.blk HE.out (by simp))
  refine hK.out _ _ ⟨l0, l1, l2, l3, l4, l5, e5'⟩ (fun _hH => ?_)
  clear hK K
  try simp only [Act.put, List.setIfInBounds_toArray, List.set_cons_zero, List.set_cons_succ]
  refine take_d (i := 10) (d := 95) (v := ?_) rfl rfl (by kernel_rfl) (by kernel_rfl) (by kernel_rfl) (fun _ _ _ h => h) (Or.inl ⟨by rfl, ?_⟩) (by assumption) ?_
  rotate_left
  · intro w hSw; (try dsimp only at hSw); go_simp; (try with_reducible rfl)
  try simp only [Act.put, List.setIfInBounds_toArray, List.set_cons_zero, List.set_cons_succ]
  refine take_d (i := 11) (d := 106) (v := ?_) rfl rfl (by kernel_rfl) (by kernel_rfl) (by kernel_rfl) (fun _ _ _ h => h) (Or.inl ⟨by rfl, ?_⟩) (by assumption) ?_
  rotate_left
  · intro w hSw; (try dsimp only at hSw); go_simp; (try with_reducible rfl)
  try simp only [Act.put, List.setIfInBounds_toArray, List.set_cons_zero, List.set_cons_succ]
  refine take_d (i := 12) (d := 107) (v := ?_) rfl rfl (by kernel_rfl) (by kernel_rfl) (by kernel_rfl) (fun _ _ _ h => h) (Or.inl ⟨by rfl, ?_⟩) (by assumption) ?_
  rotate_left
  · intro w hSw; (try dsimp only at hSw); go_simp; (try with_reducible rfl)
  try simp only [Act.put, List.setIfInBounds_toArray, List.set_cons_zero, List.set_cons_succ]
  obtain ⟨z0, z1, z2, f0, f1, f2⟩ := blk3 (t2.blk HZ.out (by simp))
  obtain ⟨s1, s2⟩ := out3 (t2.blk HZ.out (by simp)) (.int .i64 wk) (.int .i64 wn) (.string wt)
  have hgS := RdK.touch (HG.out.touch0 t2) s2 (fun b hb hm => by simp [fpo] at hb hm; omega)
  obtain ⟨k0, k1, k2⟩ := vals_at hgS 0 (by simp)
  obtain ⟨k3, k4, k5⟩ := vals_at hgS 1 (by simp)
  simp only [List.getElem_cons_zero, List.getElem_cons_succ, Nat.zero_mul, Nat.zero_add, Nat.one_mul, Nat.reduceAdd] at k0 k1 k2 k3 k4 k5
  obtain ⟨_, _, _, _, _, e5s, _, _⟩ := blk7 (s2.blk (t2.blk HE.out (by simp)) (by simp; omega))
  refine wpAnyH_ready (rs := [13]) (by kernel_rfl) (by simp) ?_
  refine AllReadyH.cons rfl (fun K hK => ?_) AllReadyH.nil
  go_simp
  (try go_wp2_with fail)
  refine hK.out _ _ ⟨k0, k1, k2, k3, k4, k5, e5s⟩ (fun _hH => ?_)
  clear hK K
  try simp only [Act.put, List.setIfInBounds_toArray, List.set_cons_zero, List.set_cons_succ]
  refine wpAnyH_ready (rs := [14]) (by kernel_rfl) (by simp) ?_
  refine AllReadyH.cons rfl (fun K hK => ?_) AllReadyH.nil
  go_simp
  (try go_wp2_with fail)
  refine hK.out _ _ (by assumption) (fun _ => ?_)
  clear hK K
  try simp only [Act.put, List.setIfInBounds_toArray, List.set_cons_zero, List.set_cons_succ]
  refine wpAnyH_done (by kernel_rfl) ?_ _
  obtain ⟨y0, y1, y2, _⟩ := blk3 s1
  obtain ⟨v0, v1, v2, _⟩ := blk3 (s2.blk (t2.blk HV.out (by simp)) (by simp))
  go_wp2_with fail
  go_ret
  exact ⟨rfl, (tW.trans0 t2).trans s2 (fun b hb => .inr (by simp at hb; omega))⟩

set_option maxRecDepth 100000 in
set_option maxHeartbeats 6400000 in
theorem whole_cmp0 (nk nn : Int) (nt : ByteArray) (p0 p1 : Int) (p2 : ByteArray) (q0 q1 : Int) (q2 : ByteArray) (wk wn : Int) (wt : ByteArray) (A : Option Addr) (m c g bc : Nat) (w : World) (h : ValsAt w (some ⟨g, 0, none⟩) [⟨p0, p1, p2⟩, ⟨q0, q1, q2⟩]) (hw : (⟨wk, wn, wt⟩ : VD) = compareV 1 ⟨p0, p1, p2⟩ ⟨q0, q1, q2⟩) :
    Calls Try.prog 43 #[.agg #[.int .i64 4, .string ⟨#[]⟩, .int .i64 nk, .int .i64 nn, .string nt, .string ⟨#[61]⟩, .slice A m c], .slice (some ⟨g, 0, none⟩) 2 bc, .agg #[.int .i64 wk, .int .i64 wn, .string wt], .int .i64 0] w fun e w' => e = .returned (.bool true) ∧ Touch [] w w' := by
  have heq := fun w' => eqIn_val ⟨wk, wn, wt⟩ ⟨wk, wn, wt⟩ w'
  rw [(eqV3_iff _ _).2 rfl] at heq
  simp only at heq
  have hgd := guard_val
  obtain ⟨W, hW⟩ : ∃ W, W = ((w.alloc (.cells #[.int .i64 4, .string ⟨#[]⟩, .int .i64 nk, .int .i64 nn, .string nt, .string ⟨#[61]⟩, .slice A m c] 33)).alloc (.cells #[.int .i64 wk, .int .i64 wn, .string wt] 30)).alloc (.cells #[.int .i64 0, .int .i64 0, .string ⟨#[]⟩] 30) := ⟨_, rfl⟩
  have tW : Touch [] w W := by rw [hW]; exact (((Touch.refl [] w).alloc _).alloc _).alloc _
  have hE : W.heap[w.heap.size]? = some (.cells #[.int .i64 4, .string ⟨#[]⟩, .int .i64 nk, .int .i64 nn, .string nt, .string ⟨#[61]⟩, .slice A m c] 33) := by rw [hW]; exact (((Touch.refl [] (w.alloc (.cells #[.int .i64 4, .string ⟨#[]⟩, .int .i64 nk, .int .i64 nn, .string nt, .string ⟨#[61]⟩, .slice A m c] 33))).alloc _).alloc _).blk (heap_alloc_new w (.cells #[.int .i64 4, .string ⟨#[]⟩, .int .i64 nk, .int .i64 nn, .string nt, .string ⟨#[61]⟩, .slice A m c] 33)) (by simp)
  have hV : W.heap[w.heap.size + 1]? = some (.cells #[.int .i64 wk, .int .i64 wn, .string wt] 30) := by
    have := ((Touch.refl [] ((w.alloc (.cells #[.int .i64 4, .string ⟨#[]⟩, .int .i64 nk, .int .i64 nn, .string nt, .string ⟨#[61]⟩, .slice A m c] 33)).alloc (.cells #[.int .i64 wk, .int .i64 wn, .string wt] 30))).alloc (.cells #[.int .i64 0, .int .i64 0, .string ⟨#[]⟩] 30)).blk (heap_alloc_new (w.alloc (.cells #[.int .i64 4, .string ⟨#[]⟩, .int .i64 nk, .int .i64 nn, .string nt, .string ⟨#[61]⟩, .slice A m c] 33)) (.cells #[.int .i64 wk, .int .i64 wn, .string wt] 30)) (by simp)
    rw [World.size_alloc] at this
    rw [hW]; exact this
  have hZ : W.heap[w.heap.size + 1 + 1]? = some (.cells #[.int .i64 0, .int .i64 0, .string ⟨#[]⟩] 30) := by
    have := heap_alloc_new ((w.alloc (.cells #[.int .i64 4, .string ⟨#[]⟩, .int .i64 nk, .int .i64 nn, .string nt, .string ⟨#[61]⟩, .slice A m c] 33)).alloc (.cells #[.int .i64 wk, .int .i64 wn, .string wt] 30)) (.cells #[.int .i64 0, .int .i64 0, .string ⟨#[]⟩] 30)
    rw [World.size_alloc, World.size_alloc] at this
    rw [hW]; exact this
  have hg := h.touch0 tW
  have hgl0 : g < w.heap.size := Rd.lt h (by rw [flat_length vdE 3 vdE_length]; simp) g (by simp [fpo])
  have HE := Lib.hid hE; have HV := Lib.hid hV; have HZ := Lib.hid hZ; have HG := Lib.hid hg; have HW := Lib.hid hW
  have hr : ValsAt (((w.alloc (.cells #[.int .i64 4, .string ⟨#[]⟩, .int .i64 nk, .int .i64 nn, .string nt, .string ⟨#[61]⟩, .slice A m c] 33)).alloc (.cells #[.int .i64 wk, .int .i64 wn, .string wt] 30)).alloc (.cells #[.int .i64 0, .int .i64 0, .string ⟨#[]⟩] 30)) (some ⟨g, 0, none⟩) [⟨p0, p1, p2⟩, ⟨q0, q1, q2⟩] := h.touch0 ((((Touch.refl [] w).alloc _).alloc _).alloc _)
  obtain ⟨g0, g1, g2⟩ := vals_at hr 0 (by simp)
  obtain ⟨g3, g4, g5⟩ := vals_at hr 1 (by simp)
  simp only [List.getElem_cons_zero, List.getElem_cons_succ, Nat.zero_mul, Nat.zero_add, Nat.one_mul, Nat.reduceAdd] at g0 g1 g2 g3 g4 g5
  clear hE hV hZ hg hW h hr
  have Hcm := Lib.hid fun w' => compare_any 1 (by decide) ⟨p0, p1, p2⟩ ⟨q0, q1, q2⟩ w'
  rw [← hw] at Hcm
  simp only [VD.val] at Hcm
  have hWs : W.heap.size = w.heap.size + 1 + 1 + 1 := by rw [HW.out]; simp
  have hM0 : MapAt Try.prog 9 (W.alloc (.map #[] 0)) (w.heap.size + 1 + 1 + 1) [] := by rw [← hWs]; exact MapAt.made W
  have T0 := (Touch.refl [] W).alloc (.map #[] 0)
  go_enter Try.func43, Try.ntmps43
  go_upto_region 15 with (fail)
  rw [← HW.out]
  clear g0 g1 g2 g3 g4 g5
  refine wp_region_lit ?_
  refine wpList_makeMap_is rfl 111 rfl ?_
  rw [hWs]
  try simp only [Act.put, List.setIfInBounds_toArray, List.set_cons_zero, List.set_cons_succ]
  have hk0 := Go.WideMaps.keyOf_string_mk Try.underlying9 (s := ⟨#[61]⟩) (by decide)
  obtain ⟨m1, r1, hM1, tm1⟩ := hM0.put_new (string_keyed Try.underlying9) Try.underlying111 hk0 (by simp) (.int .i64 1)
  have T1 := T0.trans tm1 (fun b hb => .inr (by simp at hb; omega))
  refine wpList_insert_is rfl (.tmp 78) (.const (.string ⟨#[61]⟩)) (.const (.int .i64 1)) 111 rfl _ _ _ rfl rfl rfl r1 ?_
  try simp only [Act.put]
  have hk1 := Go.WideMaps.keyOf_string_mk Try.underlying9 (s := ⟨#[33, 61]⟩) (by decide)
  obtain ⟨m2, r2, hM2, tm2⟩ := hM1.put_new (string_keyed Try.underlying9) Try.underlying111 hk1 (by simp) (.int .i64 2)
  have T2 := T1.trans tm2 (fun b hb => .inr (by simp at hb; omega))
  refine wpList_insert_is rfl (.tmp 78) (.const (.string ⟨#[33, 61]⟩)) (.const (.int .i64 2)) 111 rfl _ _ _ rfl rfl rfl r2 ?_
  try simp only [Act.put]
  have hk2 := Go.WideMaps.keyOf_string_mk Try.underlying9 (s := ⟨#[60]⟩) (by decide)
  obtain ⟨m3, r3, hM3, tm3⟩ := hM2.put_new (string_keyed Try.underlying9) Try.underlying111 hk2 (by simp) (.int .i64 3)
  have T3 := T2.trans tm3 (fun b hb => .inr (by simp at hb; omega))
  refine wpList_insert_is rfl (.tmp 78) (.const (.string ⟨#[60]⟩)) (.const (.int .i64 3)) 111 rfl _ _ _ rfl rfl rfl r3 ?_
  try simp only [Act.put]
  have hk3 := Go.WideMaps.keyOf_string_mk Try.underlying9 (s := ⟨#[60, 61]⟩) (by decide)
  obtain ⟨m4, r4, hM4, tm4⟩ := hM3.put_new (string_keyed Try.underlying9) Try.underlying111 hk3 (by simp) (.int .i64 4)
  have T4 := T3.trans tm4 (fun b hb => .inr (by simp at hb; omega))
  refine wpList_insert_is rfl (.tmp 78) (.const (.string ⟨#[60, 61]⟩)) (.const (.int .i64 4)) 111 rfl _ _ _ rfl rfl rfl r4 ?_
  try simp only [Act.put]
  have hk4 := Go.WideMaps.keyOf_string_mk Try.underlying9 (s := ⟨#[62]⟩) (by decide)
  obtain ⟨m5, r5, hM5, tm5⟩ := hM4.put_new (string_keyed Try.underlying9) Try.underlying111 hk4 (by simp) (.int .i64 5)
  have T5 := T4.trans tm5 (fun b hb => .inr (by simp at hb; omega))
  refine wpList_insert_is rfl (.tmp 78) (.const (.string ⟨#[62]⟩)) (.const (.int .i64 5)) 111 rfl _ _ _ rfl rfl rfl r5 ?_
  try simp only [Act.put]
  have hk5 := Go.WideMaps.keyOf_string_mk Try.underlying9 (s := ⟨#[62, 61]⟩) (by decide)
  obtain ⟨m6, r6, hM6, tm6⟩ := hM5.put_new (string_keyed Try.underlying9) Try.underlying111 hk5 (by simp) (.int .i64 6)
  have T6 := T5.trans tm6 (fun b hb => .inr (by simp at hb; omega))
  refine wpList_insert_is rfl (.tmp 78) (.const (.string ⟨#[62, 61]⟩)) (.const (.int .i64 6)) 111 rfl _ _ _ rfl rfl rfl r6 ?_
  try simp only [Act.put]
  obtain ⟨e0, e1, e2, e3, e4, e5, e6, _⟩ := blk7 (T6.blk HE.out (by simp))
  go_wp2_with (at_lookup; refine stop ?_)
  refine go ?_
  refine wpList_lookup_is rfl (.tmp 79) (.tmp 81) 111 false rfl _ _ (.int .i64 1) rfl rfl (hM6.hit (string_keyed Try.underlying9) Try.underlying111 hk0 (by simp) false) ?_
  clear e0 e1 e2 e3 e4 e5 e6
  go_wp2_with fail
  obtain ⟨g0, g1, g2⟩ := vals_at (HG.out.touch0 T6.drew) 0 (by simp)
  obtain ⟨g3, g4, g5⟩ := vals_at (HG.out.touch0 T6.drew) 1 (by simp)
  simp only [List.getElem_cons_zero, List.getElem_cons_succ, Nat.zero_mul, Nat.zero_add, Nat.one_mul, Nat.reduceAdd] at g0 g1 g2 g3 g4 g5
  refine wp_region_held_drew (S := fun w' => w'.cell? ⟨g, 0, none⟩ = some (.int .i64 p0) ∧ w'.cell? ⟨g, 1, none⟩ = some (.int .i64 p1) ∧ w'.cell? ⟨g, 2, none⟩ = some (.string p2) ∧ w'.cell? ⟨g, 3, none⟩ = some (.int .i64 q0) ∧ w'.cell? ⟨g, 4, none⟩ = some (.int .i64 q1) ∧ w'.cell? ⟨g, 5, none⟩ = some (.string q2)) (by kernel_rfl) ⟨g0, g1, g2, g3, g4, g5⟩ (fun hHeld => ?_)
  refine take_d (i := 0) (d := 83) (v := ?_) rfl rfl (by kernel_rfl) (by kernel_rfl) (by kernel_rfl) (fun _ _ _ h => h) (Or.inl ⟨by rfl, ?_⟩) (by assumption) ?_
  rotate_left
  · intro w hSw; (try dsimp only at hSw); go_simp; (try with_reducible rfl)
  try simp only [Act.put, List.setIfInBounds_toArray, List.set_cons_zero, List.set_cons_succ]
  refine take_d (i := 1) (d := 84) (v := ?_) rfl rfl (by kernel_rfl) (by kernel_rfl) (by kernel_rfl) (fun _ _ _ h => h) (Or.inl ⟨by rfl, ?_⟩) (by assumption) ?_
  rotate_left
  · intro w hSw; (try dsimp only at hSw); go_simp; (try with_reducible rfl)
  try simp only [Act.put, List.setIfInBounds_toArray, List.set_cons_zero, List.set_cons_succ]
  refine take_d (i := 2) (d := 85) (v := ?_) rfl rfl (by kernel_rfl) (by kernel_rfl) (by kernel_rfl) (fun _ _ _ h => h) (Or.inl ⟨by rfl, ?_⟩) (by assumption) ?_
  rotate_left
  · intro w hSw; (try dsimp only at hSw); go_simp; (try with_reducible rfl)
  try simp only [Act.put, List.setIfInBounds_toArray, List.set_cons_zero, List.set_cons_succ]
  refine take_d (i := 3) (d := 86) (v := ?_) rfl rfl (by kernel_rfl) (by kernel_rfl) (by kernel_rfl) (fun _ _ _ h => h) (Or.inl ⟨by rfl, ?_⟩) (by assumption) ?_
  rotate_left
  · intro w hSw; (try dsimp only at hSw); go_simp; (try with_reducible rfl)
  try simp only [Act.put, List.setIfInBounds_toArray, List.set_cons_zero, List.set_cons_succ]
  refine take_d (i := 4) (d := 87) (v := ?_) rfl rfl (by kernel_rfl) (by kernel_rfl) (by kernel_rfl) (fun _ _ _ h => h) (Or.inl ⟨by rfl, ?_⟩) (by assumption) ?_
  rotate_left
  · intro w hSw; (try dsimp only at hSw); go_simp; (try with_reducible rfl)
  try simp only [Act.put, List.setIfInBounds_toArray, List.set_cons_zero, List.set_cons_succ]
  refine take_d (i := 5) (d := 88) (v := ?_) rfl rfl (by kernel_rfl) (by kernel_rfl) (by kernel_rfl) (fun _ _ _ h => h) (Or.inl ⟨by rfl, ?_⟩) (by assumption) ?_
  rotate_left
  · intro w hSw; (try dsimp only at hSw); go_simp; (try with_reducible rfl)
  try simp only [Act.put, List.setIfInBounds_toArray, List.set_cons_zero, List.set_cons_succ]
  refine take_d (i := 6) (d := 89) (v := ?_) rfl rfl (by kernel_rfl) (by kernel_rfl) (by kernel_rfl) (fun _ _ _ h => h) (Or.inl ⟨by rfl, ?_⟩) (by assumption) ?_
  rotate_left
  · intro w hSw; (try dsimp only at hSw); go_simp; (try with_reducible rfl)
  try simp only [Act.put, List.setIfInBounds_toArray, List.set_cons_zero, List.set_cons_succ]
  refine wpAnyH_ready (rs := [7]) (by kernel_rfl) (by simp) ?_
  refine AllReadyH.cons rfl (fun K hK => ?_) AllReadyH.nil
  go_simp
  go_at_call 55
  refine (Hcm.out _).mono ?_
  rintro e w2 ⟨rfl, u2⟩
  have t2 := T6.drew.trans0 u2
  (try go_wp2_with fail)
  obtain ⟨l0, l1, l2⟩ := vals_at (HG.out.touch0 t2) 0 (by simp)
  obtain ⟨l3, l4, l5⟩ := vals_at (HG.out.touch0 t2) 1 (by simp)
  simp only [List.getElem_cons_zero, List.getElem_cons_succ, Nat.zero_mul, Nat.zero_add, Nat.one_mul, Nat.reduceAdd] at l0 l1 l2 l3 l4 l5
  refine hK.out _ _ ⟨l0, l1, l2, l3, l4, l5⟩ (fun _hH => ?_)
  clear hK K
  try simp only [Act.put, List.setIfInBounds_toArray, List.set_cons_zero, List.set_cons_succ]
  obtain ⟨z0, z1, z2, f0, f1, f2⟩ := blk3 (t2.blk HZ.out (by simp))
  obtain ⟨s1, s2⟩ := out3 (t2.blk HZ.out (by simp)) (.int .i64 wk) (.int .i64 wn) (.string wt)
  have hgS := RdK.touch (HG.out.touch0 t2) s2 (fun b hb hm => by simp [fpo] at hb hm; omega)
  obtain ⟨k0, k1, k2⟩ := vals_at hgS 0 (by simp)
  obtain ⟨k3, k4, k5⟩ := vals_at hgS 1 (by simp)
  simp only [List.getElem_cons_zero, List.getElem_cons_succ, Nat.zero_mul, Nat.zero_add, Nat.one_mul, Nat.reduceAdd] at k0 k1 k2 k3 k4 k5
  refine wpAnyH_ready (rs := [8]) (by kernel_rfl) (by simp) ?_
  refine AllReadyH.cons rfl (fun K hK => ?_) AllReadyH.nil
  go_simp
  (try go_wp2_with fail)
  refine hK.out _ _ ⟨k0, k1, k2, k3, k4, k5⟩ (fun _hH => ?_)
  clear hK K
  try simp only [Act.put, List.setIfInBounds_toArray, List.set_cons_zero, List.set_cons_succ]
  refine wpAnyH_done (by kernel_rfl) ?_ _
  obtain ⟨y0, y1, y2, _⟩ := blk3 s1
  obtain ⟨v0, v1, v2, _⟩ := blk3 (s2.blk (t2.blk HV.out (by simp)) (by simp))
  go_wp2_with fail
  go_ret
  exact ⟨rfl, (tW.trans0 t2).trans s2 (fun b hb => .inr (by simp at hb; omega))⟩

set_option maxRecDepth 100000 in
set_option maxHeartbeats 6400000 in
theorem whole_cmp1 (nk nn : Int) (nt : ByteArray) (p0 p1 : Int) (p2 : ByteArray) (q0 q1 : Int) (q2 : ByteArray) (wk wn : Int) (wt : ByteArray) (A : Option Addr) (m c g bc : Nat) (w : World) (h : ValsAt w (some ⟨g, 0, none⟩) [⟨p0, p1, p2⟩, ⟨q0, q1, q2⟩]) (hw : (⟨wk, wn, wt⟩ : VD) = compareV 2 ⟨p0, p1, p2⟩ ⟨q0, q1, q2⟩) :
    Calls Try.prog 43 #[.agg #[.int .i64 4, .string ⟨#[]⟩, .int .i64 nk, .int .i64 nn, .string nt, .string ⟨#[33, 61]⟩, .slice A m c], .slice (some ⟨g, 0, none⟩) 2 bc, .agg #[.int .i64 wk, .int .i64 wn, .string wt], .int .i64 0] w fun e w' => e = .returned (.bool true) ∧ Touch [] w w' := by
  have heq := fun w' => eqIn_val ⟨wk, wn, wt⟩ ⟨wk, wn, wt⟩ w'
  rw [(eqV3_iff _ _).2 rfl] at heq
  simp only at heq
  have hgd := guard_val
  obtain ⟨W, hW⟩ : ∃ W, W = ((w.alloc (.cells #[.int .i64 4, .string ⟨#[]⟩, .int .i64 nk, .int .i64 nn, .string nt, .string ⟨#[33, 61]⟩, .slice A m c] 33)).alloc (.cells #[.int .i64 wk, .int .i64 wn, .string wt] 30)).alloc (.cells #[.int .i64 0, .int .i64 0, .string ⟨#[]⟩] 30) := ⟨_, rfl⟩
  have tW : Touch [] w W := by rw [hW]; exact (((Touch.refl [] w).alloc _).alloc _).alloc _
  have hE : W.heap[w.heap.size]? = some (.cells #[.int .i64 4, .string ⟨#[]⟩, .int .i64 nk, .int .i64 nn, .string nt, .string ⟨#[33, 61]⟩, .slice A m c] 33) := by rw [hW]; exact (((Touch.refl [] (w.alloc (.cells #[.int .i64 4, .string ⟨#[]⟩, .int .i64 nk, .int .i64 nn, .string nt, .string ⟨#[33, 61]⟩, .slice A m c] 33))).alloc _).alloc _).blk (heap_alloc_new w (.cells #[.int .i64 4, .string ⟨#[]⟩, .int .i64 nk, .int .i64 nn, .string nt, .string ⟨#[33, 61]⟩, .slice A m c] 33)) (by simp)
  have hV : W.heap[w.heap.size + 1]? = some (.cells #[.int .i64 wk, .int .i64 wn, .string wt] 30) := by
    have := ((Touch.refl [] ((w.alloc (.cells #[.int .i64 4, .string ⟨#[]⟩, .int .i64 nk, .int .i64 nn, .string nt, .string ⟨#[33, 61]⟩, .slice A m c] 33)).alloc (.cells #[.int .i64 wk, .int .i64 wn, .string wt] 30))).alloc (.cells #[.int .i64 0, .int .i64 0, .string ⟨#[]⟩] 30)).blk (heap_alloc_new (w.alloc (.cells #[.int .i64 4, .string ⟨#[]⟩, .int .i64 nk, .int .i64 nn, .string nt, .string ⟨#[33, 61]⟩, .slice A m c] 33)) (.cells #[.int .i64 wk, .int .i64 wn, .string wt] 30)) (by simp)
    rw [World.size_alloc] at this
    rw [hW]; exact this
  have hZ : W.heap[w.heap.size + 1 + 1]? = some (.cells #[.int .i64 0, .int .i64 0, .string ⟨#[]⟩] 30) := by
    have := heap_alloc_new ((w.alloc (.cells #[.int .i64 4, .string ⟨#[]⟩, .int .i64 nk, .int .i64 nn, .string nt, .string ⟨#[33, 61]⟩, .slice A m c] 33)).alloc (.cells #[.int .i64 wk, .int .i64 wn, .string wt] 30)) (.cells #[.int .i64 0, .int .i64 0, .string ⟨#[]⟩] 30)
    rw [World.size_alloc, World.size_alloc] at this
    rw [hW]; exact this
  have hg := h.touch0 tW
  have hgl0 : g < w.heap.size := Rd.lt h (by rw [flat_length vdE 3 vdE_length]; simp) g (by simp [fpo])
  have HE := Lib.hid hE; have HV := Lib.hid hV; have HZ := Lib.hid hZ; have HG := Lib.hid hg; have HW := Lib.hid hW
  have hr : ValsAt (((w.alloc (.cells #[.int .i64 4, .string ⟨#[]⟩, .int .i64 nk, .int .i64 nn, .string nt, .string ⟨#[33, 61]⟩, .slice A m c] 33)).alloc (.cells #[.int .i64 wk, .int .i64 wn, .string wt] 30)).alloc (.cells #[.int .i64 0, .int .i64 0, .string ⟨#[]⟩] 30)) (some ⟨g, 0, none⟩) [⟨p0, p1, p2⟩, ⟨q0, q1, q2⟩] := h.touch0 ((((Touch.refl [] w).alloc _).alloc _).alloc _)
  obtain ⟨g0, g1, g2⟩ := vals_at hr 0 (by simp)
  obtain ⟨g3, g4, g5⟩ := vals_at hr 1 (by simp)
  simp only [List.getElem_cons_zero, List.getElem_cons_succ, Nat.zero_mul, Nat.zero_add, Nat.one_mul, Nat.reduceAdd] at g0 g1 g2 g3 g4 g5
  clear hE hV hZ hg hW h hr
  have Hcm := Lib.hid fun w' => compare_any 2 (by decide) ⟨p0, p1, p2⟩ ⟨q0, q1, q2⟩ w'
  rw [← hw] at Hcm
  simp only [VD.val] at Hcm
  have hWs : W.heap.size = w.heap.size + 1 + 1 + 1 := by rw [HW.out]; simp
  have hM0 : MapAt Try.prog 9 (W.alloc (.map #[] 0)) (w.heap.size + 1 + 1 + 1) [] := by rw [← hWs]; exact MapAt.made W
  have T0 := (Touch.refl [] W).alloc (.map #[] 0)
  go_enter Try.func43, Try.ntmps43
  go_upto_region 15 with (fail)
  rw [← HW.out]
  clear g0 g1 g2 g3 g4 g5
  refine wp_region_lit ?_
  refine wpList_makeMap_is rfl 111 rfl ?_
  rw [hWs]
  try simp only [Act.put, List.setIfInBounds_toArray, List.set_cons_zero, List.set_cons_succ]
  have hk0 := Go.WideMaps.keyOf_string_mk Try.underlying9 (s := ⟨#[61]⟩) (by decide)
  obtain ⟨m1, r1, hM1, tm1⟩ := hM0.put_new (string_keyed Try.underlying9) Try.underlying111 hk0 (by simp) (.int .i64 1)
  have T1 := T0.trans tm1 (fun b hb => .inr (by simp at hb; omega))
  refine wpList_insert_is rfl (.tmp 78) (.const (.string ⟨#[61]⟩)) (.const (.int .i64 1)) 111 rfl _ _ _ rfl rfl rfl r1 ?_
  try simp only [Act.put]
  have hk1 := Go.WideMaps.keyOf_string_mk Try.underlying9 (s := ⟨#[33, 61]⟩) (by decide)
  obtain ⟨m2, r2, hM2, tm2⟩ := hM1.put_new (string_keyed Try.underlying9) Try.underlying111 hk1 (by simp) (.int .i64 2)
  have T2 := T1.trans tm2 (fun b hb => .inr (by simp at hb; omega))
  refine wpList_insert_is rfl (.tmp 78) (.const (.string ⟨#[33, 61]⟩)) (.const (.int .i64 2)) 111 rfl _ _ _ rfl rfl rfl r2 ?_
  try simp only [Act.put]
  have hk2 := Go.WideMaps.keyOf_string_mk Try.underlying9 (s := ⟨#[60]⟩) (by decide)
  obtain ⟨m3, r3, hM3, tm3⟩ := hM2.put_new (string_keyed Try.underlying9) Try.underlying111 hk2 (by simp) (.int .i64 3)
  have T3 := T2.trans tm3 (fun b hb => .inr (by simp at hb; omega))
  refine wpList_insert_is rfl (.tmp 78) (.const (.string ⟨#[60]⟩)) (.const (.int .i64 3)) 111 rfl _ _ _ rfl rfl rfl r3 ?_
  try simp only [Act.put]
  have hk3 := Go.WideMaps.keyOf_string_mk Try.underlying9 (s := ⟨#[60, 61]⟩) (by decide)
  obtain ⟨m4, r4, hM4, tm4⟩ := hM3.put_new (string_keyed Try.underlying9) Try.underlying111 hk3 (by simp) (.int .i64 4)
  have T4 := T3.trans tm4 (fun b hb => .inr (by simp at hb; omega))
  refine wpList_insert_is rfl (.tmp 78) (.const (.string ⟨#[60, 61]⟩)) (.const (.int .i64 4)) 111 rfl _ _ _ rfl rfl rfl r4 ?_
  try simp only [Act.put]
  have hk4 := Go.WideMaps.keyOf_string_mk Try.underlying9 (s := ⟨#[62]⟩) (by decide)
  obtain ⟨m5, r5, hM5, tm5⟩ := hM4.put_new (string_keyed Try.underlying9) Try.underlying111 hk4 (by simp) (.int .i64 5)
  have T5 := T4.trans tm5 (fun b hb => .inr (by simp at hb; omega))
  refine wpList_insert_is rfl (.tmp 78) (.const (.string ⟨#[62]⟩)) (.const (.int .i64 5)) 111 rfl _ _ _ rfl rfl rfl r5 ?_
  try simp only [Act.put]
  have hk5 := Go.WideMaps.keyOf_string_mk Try.underlying9 (s := ⟨#[62, 61]⟩) (by decide)
  obtain ⟨m6, r6, hM6, tm6⟩ := hM5.put_new (string_keyed Try.underlying9) Try.underlying111 hk5 (by simp) (.int .i64 6)
  have T6 := T5.trans tm6 (fun b hb => .inr (by simp at hb; omega))
  refine wpList_insert_is rfl (.tmp 78) (.const (.string ⟨#[62, 61]⟩)) (.const (.int .i64 6)) 111 rfl _ _ _ rfl rfl rfl r6 ?_
  try simp only [Act.put]
  obtain ⟨e0, e1, e2, e3, e4, e5, e6, _⟩ := blk7 (T6.blk HE.out (by simp))
  go_wp2_with (at_lookup; refine stop ?_)
  refine go ?_
  refine wpList_lookup_is rfl (.tmp 79) (.tmp 81) 111 false rfl _ _ (.int .i64 2) rfl rfl (hM6.hit (string_keyed Try.underlying9) Try.underlying111 hk1 (by simp) false) ?_
  clear e0 e1 e2 e3 e4 e5 e6
  go_wp2_with fail
  obtain ⟨g0, g1, g2⟩ := vals_at (HG.out.touch0 T6.drew) 0 (by simp)
  obtain ⟨g3, g4, g5⟩ := vals_at (HG.out.touch0 T6.drew) 1 (by simp)
  simp only [List.getElem_cons_zero, List.getElem_cons_succ, Nat.zero_mul, Nat.zero_add, Nat.one_mul, Nat.reduceAdd] at g0 g1 g2 g3 g4 g5
  refine wp_region_held_drew (S := fun w' => w'.cell? ⟨g, 0, none⟩ = some (.int .i64 p0) ∧ w'.cell? ⟨g, 1, none⟩ = some (.int .i64 p1) ∧ w'.cell? ⟨g, 2, none⟩ = some (.string p2) ∧ w'.cell? ⟨g, 3, none⟩ = some (.int .i64 q0) ∧ w'.cell? ⟨g, 4, none⟩ = some (.int .i64 q1) ∧ w'.cell? ⟨g, 5, none⟩ = some (.string q2)) (by kernel_rfl) ⟨g0, g1, g2, g3, g4, g5⟩ (fun hHeld => ?_)
  refine take_d (i := 0) (d := 83) (v := ?_) rfl rfl (by kernel_rfl) (by kernel_rfl) (by kernel_rfl) (fun _ _ _ h => h) (Or.inl ⟨by rfl, ?_⟩) (by assumption) ?_
  rotate_left
  · intro w hSw; (try dsimp only at hSw); go_simp; (try with_reducible rfl)
  try simp only [Act.put, List.setIfInBounds_toArray, List.set_cons_zero, List.set_cons_succ]
  refine take_d (i := 1) (d := 84) (v := ?_) rfl rfl (by kernel_rfl) (by kernel_rfl) (by kernel_rfl) (fun _ _ _ h => h) (Or.inl ⟨by rfl, ?_⟩) (by assumption) ?_
  rotate_left
  · intro w hSw; (try dsimp only at hSw); go_simp; (try with_reducible rfl)
  try simp only [Act.put, List.setIfInBounds_toArray, List.set_cons_zero, List.set_cons_succ]
  refine take_d (i := 2) (d := 85) (v := ?_) rfl rfl (by kernel_rfl) (by kernel_rfl) (by kernel_rfl) (fun _ _ _ h => h) (Or.inl ⟨by rfl, ?_⟩) (by assumption) ?_
  rotate_left
  · intro w hSw; (try dsimp only at hSw); go_simp; (try with_reducible rfl)
  try simp only [Act.put, List.setIfInBounds_toArray, List.set_cons_zero, List.set_cons_succ]
  refine take_d (i := 3) (d := 86) (v := ?_) rfl rfl (by kernel_rfl) (by kernel_rfl) (by kernel_rfl) (fun _ _ _ h => h) (Or.inl ⟨by rfl, ?_⟩) (by assumption) ?_
  rotate_left
  · intro w hSw; (try dsimp only at hSw); go_simp; (try with_reducible rfl)
  try simp only [Act.put, List.setIfInBounds_toArray, List.set_cons_zero, List.set_cons_succ]
  refine take_d (i := 4) (d := 87) (v := ?_) rfl rfl (by kernel_rfl) (by kernel_rfl) (by kernel_rfl) (fun _ _ _ h => h) (Or.inl ⟨by rfl, ?_⟩) (by assumption) ?_
  rotate_left
  · intro w hSw; (try dsimp only at hSw); go_simp; (try with_reducible rfl)
  try simp only [Act.put, List.setIfInBounds_toArray, List.set_cons_zero, List.set_cons_succ]
  refine take_d (i := 5) (d := 88) (v := ?_) rfl rfl (by kernel_rfl) (by kernel_rfl) (by kernel_rfl) (fun _ _ _ h => h) (Or.inl ⟨by rfl, ?_⟩) (by assumption) ?_
  rotate_left
  · intro w hSw; (try dsimp only at hSw); go_simp; (try with_reducible rfl)
  try simp only [Act.put, List.setIfInBounds_toArray, List.set_cons_zero, List.set_cons_succ]
  refine take_d (i := 6) (d := 89) (v := ?_) rfl rfl (by kernel_rfl) (by kernel_rfl) (by kernel_rfl) (fun _ _ _ h => h) (Or.inl ⟨by rfl, ?_⟩) (by assumption) ?_
  rotate_left
  · intro w hSw; (try dsimp only at hSw); go_simp; (try with_reducible rfl)
  try simp only [Act.put, List.setIfInBounds_toArray, List.set_cons_zero, List.set_cons_succ]
  refine wpAnyH_ready (rs := [7]) (by kernel_rfl) (by simp) ?_
  refine AllReadyH.cons rfl (fun K hK => ?_) AllReadyH.nil
  go_simp
  go_at_call 55
  refine (Hcm.out _).mono ?_
  rintro e w2 ⟨rfl, u2⟩
  have t2 := T6.drew.trans0 u2
  (try go_wp2_with fail)
  obtain ⟨l0, l1, l2⟩ := vals_at (HG.out.touch0 t2) 0 (by simp)
  obtain ⟨l3, l4, l5⟩ := vals_at (HG.out.touch0 t2) 1 (by simp)
  simp only [List.getElem_cons_zero, List.getElem_cons_succ, Nat.zero_mul, Nat.zero_add, Nat.one_mul, Nat.reduceAdd] at l0 l1 l2 l3 l4 l5
  refine hK.out _ _ ⟨l0, l1, l2, l3, l4, l5⟩ (fun _hH => ?_)
  clear hK K
  try simp only [Act.put, List.setIfInBounds_toArray, List.set_cons_zero, List.set_cons_succ]
  obtain ⟨z0, z1, z2, f0, f1, f2⟩ := blk3 (t2.blk HZ.out (by simp))
  obtain ⟨s1, s2⟩ := out3 (t2.blk HZ.out (by simp)) (.int .i64 wk) (.int .i64 wn) (.string wt)
  have hgS := RdK.touch (HG.out.touch0 t2) s2 (fun b hb hm => by simp [fpo] at hb hm; omega)
  obtain ⟨k0, k1, k2⟩ := vals_at hgS 0 (by simp)
  obtain ⟨k3, k4, k5⟩ := vals_at hgS 1 (by simp)
  simp only [List.getElem_cons_zero, List.getElem_cons_succ, Nat.zero_mul, Nat.zero_add, Nat.one_mul, Nat.reduceAdd] at k0 k1 k2 k3 k4 k5
  refine wpAnyH_ready (rs := [8]) (by kernel_rfl) (by simp) ?_
  refine AllReadyH.cons rfl (fun K hK => ?_) AllReadyH.nil
  go_simp
  (try go_wp2_with fail)
  refine hK.out _ _ ⟨k0, k1, k2, k3, k4, k5⟩ (fun _hH => ?_)
  clear hK K
  try simp only [Act.put, List.setIfInBounds_toArray, List.set_cons_zero, List.set_cons_succ]
  refine wpAnyH_done (by kernel_rfl) ?_ _
  obtain ⟨y0, y1, y2, _⟩ := blk3 s1
  obtain ⟨v0, v1, v2, _⟩ := blk3 (s2.blk (t2.blk HV.out (by simp)) (by simp))
  go_wp2_with fail
  go_ret
  exact ⟨rfl, (tW.trans0 t2).trans s2 (fun b hb => .inr (by simp at hb; omega))⟩

set_option maxRecDepth 100000 in
set_option maxHeartbeats 6400000 in
theorem whole_cmp2 (nk nn : Int) (nt : ByteArray) (p0 p1 : Int) (p2 : ByteArray) (q0 q1 : Int) (q2 : ByteArray) (wk wn : Int) (wt : ByteArray) (A : Option Addr) (m c g bc : Nat) (w : World) (h : ValsAt w (some ⟨g, 0, none⟩) [⟨p0, p1, p2⟩, ⟨q0, q1, q2⟩]) (hw : (⟨wk, wn, wt⟩ : VD) = compareV 3 ⟨p0, p1, p2⟩ ⟨q0, q1, q2⟩) :
    Calls Try.prog 43 #[.agg #[.int .i64 4, .string ⟨#[]⟩, .int .i64 nk, .int .i64 nn, .string nt, .string ⟨#[60]⟩, .slice A m c], .slice (some ⟨g, 0, none⟩) 2 bc, .agg #[.int .i64 wk, .int .i64 wn, .string wt], .int .i64 0] w fun e w' => e = .returned (.bool true) ∧ Touch [] w w' := by
  have heq := fun w' => eqIn_val ⟨wk, wn, wt⟩ ⟨wk, wn, wt⟩ w'
  rw [(eqV3_iff _ _).2 rfl] at heq
  simp only at heq
  have hgd := guard_val
  obtain ⟨W, hW⟩ : ∃ W, W = ((w.alloc (.cells #[.int .i64 4, .string ⟨#[]⟩, .int .i64 nk, .int .i64 nn, .string nt, .string ⟨#[60]⟩, .slice A m c] 33)).alloc (.cells #[.int .i64 wk, .int .i64 wn, .string wt] 30)).alloc (.cells #[.int .i64 0, .int .i64 0, .string ⟨#[]⟩] 30) := ⟨_, rfl⟩
  have tW : Touch [] w W := by rw [hW]; exact (((Touch.refl [] w).alloc _).alloc _).alloc _
  have hE : W.heap[w.heap.size]? = some (.cells #[.int .i64 4, .string ⟨#[]⟩, .int .i64 nk, .int .i64 nn, .string nt, .string ⟨#[60]⟩, .slice A m c] 33) := by rw [hW]; exact (((Touch.refl [] (w.alloc (.cells #[.int .i64 4, .string ⟨#[]⟩, .int .i64 nk, .int .i64 nn, .string nt, .string ⟨#[60]⟩, .slice A m c] 33))).alloc _).alloc _).blk (heap_alloc_new w (.cells #[.int .i64 4, .string ⟨#[]⟩, .int .i64 nk, .int .i64 nn, .string nt, .string ⟨#[60]⟩, .slice A m c] 33)) (by simp)
  have hV : W.heap[w.heap.size + 1]? = some (.cells #[.int .i64 wk, .int .i64 wn, .string wt] 30) := by
    have := ((Touch.refl [] ((w.alloc (.cells #[.int .i64 4, .string ⟨#[]⟩, .int .i64 nk, .int .i64 nn, .string nt, .string ⟨#[60]⟩, .slice A m c] 33)).alloc (.cells #[.int .i64 wk, .int .i64 wn, .string wt] 30))).alloc (.cells #[.int .i64 0, .int .i64 0, .string ⟨#[]⟩] 30)).blk (heap_alloc_new (w.alloc (.cells #[.int .i64 4, .string ⟨#[]⟩, .int .i64 nk, .int .i64 nn, .string nt, .string ⟨#[60]⟩, .slice A m c] 33)) (.cells #[.int .i64 wk, .int .i64 wn, .string wt] 30)) (by simp)
    rw [World.size_alloc] at this
    rw [hW]; exact this
  have hZ : W.heap[w.heap.size + 1 + 1]? = some (.cells #[.int .i64 0, .int .i64 0, .string ⟨#[]⟩] 30) := by
    have := heap_alloc_new ((w.alloc (.cells #[.int .i64 4, .string ⟨#[]⟩, .int .i64 nk, .int .i64 nn, .string nt, .string ⟨#[60]⟩, .slice A m c] 33)).alloc (.cells #[.int .i64 wk, .int .i64 wn, .string wt] 30)) (.cells #[.int .i64 0, .int .i64 0, .string ⟨#[]⟩] 30)
    rw [World.size_alloc, World.size_alloc] at this
    rw [hW]; exact this
  have hg := h.touch0 tW
  have hgl0 : g < w.heap.size := Rd.lt h (by rw [flat_length vdE 3 vdE_length]; simp) g (by simp [fpo])
  have HE := Lib.hid hE; have HV := Lib.hid hV; have HZ := Lib.hid hZ; have HG := Lib.hid hg; have HW := Lib.hid hW
  have hr : ValsAt (((w.alloc (.cells #[.int .i64 4, .string ⟨#[]⟩, .int .i64 nk, .int .i64 nn, .string nt, .string ⟨#[60]⟩, .slice A m c] 33)).alloc (.cells #[.int .i64 wk, .int .i64 wn, .string wt] 30)).alloc (.cells #[.int .i64 0, .int .i64 0, .string ⟨#[]⟩] 30)) (some ⟨g, 0, none⟩) [⟨p0, p1, p2⟩, ⟨q0, q1, q2⟩] := h.touch0 ((((Touch.refl [] w).alloc _).alloc _).alloc _)
  obtain ⟨g0, g1, g2⟩ := vals_at hr 0 (by simp)
  obtain ⟨g3, g4, g5⟩ := vals_at hr 1 (by simp)
  simp only [List.getElem_cons_zero, List.getElem_cons_succ, Nat.zero_mul, Nat.zero_add, Nat.one_mul, Nat.reduceAdd] at g0 g1 g2 g3 g4 g5
  clear hE hV hZ hg hW h hr
  have Hcm := Lib.hid fun w' => compare_any 3 (by decide) ⟨p0, p1, p2⟩ ⟨q0, q1, q2⟩ w'
  rw [← hw] at Hcm
  simp only [VD.val] at Hcm
  have hWs : W.heap.size = w.heap.size + 1 + 1 + 1 := by rw [HW.out]; simp
  have hM0 : MapAt Try.prog 9 (W.alloc (.map #[] 0)) (w.heap.size + 1 + 1 + 1) [] := by rw [← hWs]; exact MapAt.made W
  have T0 := (Touch.refl [] W).alloc (.map #[] 0)
  go_enter Try.func43, Try.ntmps43
  go_upto_region 15 with (fail)
  rw [← HW.out]
  clear g0 g1 g2 g3 g4 g5
  refine wp_region_lit ?_
  refine wpList_makeMap_is rfl 111 rfl ?_
  rw [hWs]
  try simp only [Act.put, List.setIfInBounds_toArray, List.set_cons_zero, List.set_cons_succ]
  have hk0 := Go.WideMaps.keyOf_string_mk Try.underlying9 (s := ⟨#[61]⟩) (by decide)
  obtain ⟨m1, r1, hM1, tm1⟩ := hM0.put_new (string_keyed Try.underlying9) Try.underlying111 hk0 (by simp) (.int .i64 1)
  have T1 := T0.trans tm1 (fun b hb => .inr (by simp at hb; omega))
  refine wpList_insert_is rfl (.tmp 78) (.const (.string ⟨#[61]⟩)) (.const (.int .i64 1)) 111 rfl _ _ _ rfl rfl rfl r1 ?_
  try simp only [Act.put]
  have hk1 := Go.WideMaps.keyOf_string_mk Try.underlying9 (s := ⟨#[33, 61]⟩) (by decide)
  obtain ⟨m2, r2, hM2, tm2⟩ := hM1.put_new (string_keyed Try.underlying9) Try.underlying111 hk1 (by simp) (.int .i64 2)
  have T2 := T1.trans tm2 (fun b hb => .inr (by simp at hb; omega))
  refine wpList_insert_is rfl (.tmp 78) (.const (.string ⟨#[33, 61]⟩)) (.const (.int .i64 2)) 111 rfl _ _ _ rfl rfl rfl r2 ?_
  try simp only [Act.put]
  have hk2 := Go.WideMaps.keyOf_string_mk Try.underlying9 (s := ⟨#[60]⟩) (by decide)
  obtain ⟨m3, r3, hM3, tm3⟩ := hM2.put_new (string_keyed Try.underlying9) Try.underlying111 hk2 (by simp) (.int .i64 3)
  have T3 := T2.trans tm3 (fun b hb => .inr (by simp at hb; omega))
  refine wpList_insert_is rfl (.tmp 78) (.const (.string ⟨#[60]⟩)) (.const (.int .i64 3)) 111 rfl _ _ _ rfl rfl rfl r3 ?_
  try simp only [Act.put]
  have hk3 := Go.WideMaps.keyOf_string_mk Try.underlying9 (s := ⟨#[60, 61]⟩) (by decide)
  obtain ⟨m4, r4, hM4, tm4⟩ := hM3.put_new (string_keyed Try.underlying9) Try.underlying111 hk3 (by simp) (.int .i64 4)
  have T4 := T3.trans tm4 (fun b hb => .inr (by simp at hb; omega))
  refine wpList_insert_is rfl (.tmp 78) (.const (.string ⟨#[60, 61]⟩)) (.const (.int .i64 4)) 111 rfl _ _ _ rfl rfl rfl r4 ?_
  try simp only [Act.put]
  have hk4 := Go.WideMaps.keyOf_string_mk Try.underlying9 (s := ⟨#[62]⟩) (by decide)
  obtain ⟨m5, r5, hM5, tm5⟩ := hM4.put_new (string_keyed Try.underlying9) Try.underlying111 hk4 (by simp) (.int .i64 5)
  have T5 := T4.trans tm5 (fun b hb => .inr (by simp at hb; omega))
  refine wpList_insert_is rfl (.tmp 78) (.const (.string ⟨#[62]⟩)) (.const (.int .i64 5)) 111 rfl _ _ _ rfl rfl rfl r5 ?_
  try simp only [Act.put]
  have hk5 := Go.WideMaps.keyOf_string_mk Try.underlying9 (s := ⟨#[62, 61]⟩) (by decide)
  obtain ⟨m6, r6, hM6, tm6⟩ := hM5.put_new (string_keyed Try.underlying9) Try.underlying111 hk5 (by simp) (.int .i64 6)
  have T6 := T5.trans tm6 (fun b hb => .inr (by simp at hb; omega))
  refine wpList_insert_is rfl (.tmp 78) (.const (.string ⟨#[62, 61]⟩)) (.const (.int .i64 6)) 111 rfl _ _ _ rfl rfl rfl r6 ?_
  try simp only [Act.put]
  obtain ⟨e0, e1, e2, e3, e4, e5, e6, _⟩ := blk7 (T6.blk HE.out (by simp))
  go_wp2_with (at_lookup; refine stop ?_)
  refine go ?_
  refine wpList_lookup_is rfl (.tmp 79) (.tmp 81) 111 false rfl _ _ (.int .i64 3) rfl rfl (hM6.hit (string_keyed Try.underlying9) Try.underlying111 hk2 (by simp) false) ?_
  clear e0 e1 e2 e3 e4 e5 e6
  go_wp2_with fail
  obtain ⟨g0, g1, g2⟩ := vals_at (HG.out.touch0 T6.drew) 0 (by simp)
  obtain ⟨g3, g4, g5⟩ := vals_at (HG.out.touch0 T6.drew) 1 (by simp)
  simp only [List.getElem_cons_zero, List.getElem_cons_succ, Nat.zero_mul, Nat.zero_add, Nat.one_mul, Nat.reduceAdd] at g0 g1 g2 g3 g4 g5
  refine wp_region_held_drew (S := fun w' => w'.cell? ⟨g, 0, none⟩ = some (.int .i64 p0) ∧ w'.cell? ⟨g, 1, none⟩ = some (.int .i64 p1) ∧ w'.cell? ⟨g, 2, none⟩ = some (.string p2) ∧ w'.cell? ⟨g, 3, none⟩ = some (.int .i64 q0) ∧ w'.cell? ⟨g, 4, none⟩ = some (.int .i64 q1) ∧ w'.cell? ⟨g, 5, none⟩ = some (.string q2)) (by kernel_rfl) ⟨g0, g1, g2, g3, g4, g5⟩ (fun hHeld => ?_)
  refine take_d (i := 0) (d := 83) (v := ?_) rfl rfl (by kernel_rfl) (by kernel_rfl) (by kernel_rfl) (fun _ _ _ h => h) (Or.inl ⟨by rfl, ?_⟩) (by assumption) ?_
  rotate_left
  · intro w hSw; (try dsimp only at hSw); go_simp; (try with_reducible rfl)
  try simp only [Act.put, List.setIfInBounds_toArray, List.set_cons_zero, List.set_cons_succ]
  refine take_d (i := 1) (d := 84) (v := ?_) rfl rfl (by kernel_rfl) (by kernel_rfl) (by kernel_rfl) (fun _ _ _ h => h) (Or.inl ⟨by rfl, ?_⟩) (by assumption) ?_
  rotate_left
  · intro w hSw; (try dsimp only at hSw); go_simp; (try with_reducible rfl)
  try simp only [Act.put, List.setIfInBounds_toArray, List.set_cons_zero, List.set_cons_succ]
  refine take_d (i := 2) (d := 85) (v := ?_) rfl rfl (by kernel_rfl) (by kernel_rfl) (by kernel_rfl) (fun _ _ _ h => h) (Or.inl ⟨by rfl, ?_⟩) (by assumption) ?_
  rotate_left
  · intro w hSw; (try dsimp only at hSw); go_simp; (try with_reducible rfl)
  try simp only [Act.put, List.setIfInBounds_toArray, List.set_cons_zero, List.set_cons_succ]
  refine take_d (i := 3) (d := 86) (v := ?_) rfl rfl (by kernel_rfl) (by kernel_rfl) (by kernel_rfl) (fun _ _ _ h => h) (Or.inl ⟨by rfl, ?_⟩) (by assumption) ?_
  rotate_left
  · intro w hSw; (try dsimp only at hSw); go_simp; (try with_reducible rfl)
  try simp only [Act.put, List.setIfInBounds_toArray, List.set_cons_zero, List.set_cons_succ]
  refine take_d (i := 4) (d := 87) (v := ?_) rfl rfl (by kernel_rfl) (by kernel_rfl) (by kernel_rfl) (fun _ _ _ h => h) (Or.inl ⟨by rfl, ?_⟩) (by assumption) ?_
  rotate_left
  · intro w hSw; (try dsimp only at hSw); go_simp; (try with_reducible rfl)
  try simp only [Act.put, List.setIfInBounds_toArray, List.set_cons_zero, List.set_cons_succ]
  refine take_d (i := 5) (d := 88) (v := ?_) rfl rfl (by kernel_rfl) (by kernel_rfl) (by kernel_rfl) (fun _ _ _ h => h) (Or.inl ⟨by rfl, ?_⟩) (by assumption) ?_
  rotate_left
  · intro w hSw; (try dsimp only at hSw); go_simp; (try with_reducible rfl)
  try simp only [Act.put, List.setIfInBounds_toArray, List.set_cons_zero, List.set_cons_succ]
  refine take_d (i := 6) (d := 89) (v := ?_) rfl rfl (by kernel_rfl) (by kernel_rfl) (by kernel_rfl) (fun _ _ _ h => h) (Or.inl ⟨by rfl, ?_⟩) (by assumption) ?_
  rotate_left
  · intro w hSw; (try dsimp only at hSw); go_simp; (try with_reducible rfl)
  try simp only [Act.put, List.setIfInBounds_toArray, List.set_cons_zero, List.set_cons_succ]
  refine wpAnyH_ready (rs := [7]) (by kernel_rfl) (by simp) ?_
  refine AllReadyH.cons rfl (fun K hK => ?_) AllReadyH.nil
  go_simp
  go_at_call 55
  refine (Hcm.out _).mono ?_
  rintro e w2 ⟨rfl, u2⟩
  have t2 := T6.drew.trans0 u2
  (try go_wp2_with fail)
  obtain ⟨l0, l1, l2⟩ := vals_at (HG.out.touch0 t2) 0 (by simp)
  obtain ⟨l3, l4, l5⟩ := vals_at (HG.out.touch0 t2) 1 (by simp)
  simp only [List.getElem_cons_zero, List.getElem_cons_succ, Nat.zero_mul, Nat.zero_add, Nat.one_mul, Nat.reduceAdd] at l0 l1 l2 l3 l4 l5
  refine hK.out _ _ ⟨l0, l1, l2, l3, l4, l5⟩ (fun _hH => ?_)
  clear hK K
  try simp only [Act.put, List.setIfInBounds_toArray, List.set_cons_zero, List.set_cons_succ]
  obtain ⟨z0, z1, z2, f0, f1, f2⟩ := blk3 (t2.blk HZ.out (by simp))
  obtain ⟨s1, s2⟩ := out3 (t2.blk HZ.out (by simp)) (.int .i64 wk) (.int .i64 wn) (.string wt)
  have hgS := RdK.touch (HG.out.touch0 t2) s2 (fun b hb hm => by simp [fpo] at hb hm; omega)
  obtain ⟨k0, k1, k2⟩ := vals_at hgS 0 (by simp)
  obtain ⟨k3, k4, k5⟩ := vals_at hgS 1 (by simp)
  simp only [List.getElem_cons_zero, List.getElem_cons_succ, Nat.zero_mul, Nat.zero_add, Nat.one_mul, Nat.reduceAdd] at k0 k1 k2 k3 k4 k5
  refine wpAnyH_ready (rs := [8]) (by kernel_rfl) (by simp) ?_
  refine AllReadyH.cons rfl (fun K hK => ?_) AllReadyH.nil
  go_simp
  (try go_wp2_with fail)
  refine hK.out _ _ ⟨k0, k1, k2, k3, k4, k5⟩ (fun _hH => ?_)
  clear hK K
  try simp only [Act.put, List.setIfInBounds_toArray, List.set_cons_zero, List.set_cons_succ]
  refine wpAnyH_done (by kernel_rfl) ?_ _
  obtain ⟨y0, y1, y2, _⟩ := blk3 s1
  obtain ⟨v0, v1, v2, _⟩ := blk3 (s2.blk (t2.blk HV.out (by simp)) (by simp))
  go_wp2_with fail
  go_ret
  exact ⟨rfl, (tW.trans0 t2).trans s2 (fun b hb => .inr (by simp at hb; omega))⟩

set_option maxRecDepth 100000 in
set_option maxHeartbeats 6400000 in
theorem whole_cmp3 (nk nn : Int) (nt : ByteArray) (p0 p1 : Int) (p2 : ByteArray) (q0 q1 : Int) (q2 : ByteArray) (wk wn : Int) (wt : ByteArray) (A : Option Addr) (m c g bc : Nat) (w : World) (h : ValsAt w (some ⟨g, 0, none⟩) [⟨p0, p1, p2⟩, ⟨q0, q1, q2⟩]) (hw : (⟨wk, wn, wt⟩ : VD) = compareV 4 ⟨p0, p1, p2⟩ ⟨q0, q1, q2⟩) :
    Calls Try.prog 43 #[.agg #[.int .i64 4, .string ⟨#[]⟩, .int .i64 nk, .int .i64 nn, .string nt, .string ⟨#[60, 61]⟩, .slice A m c], .slice (some ⟨g, 0, none⟩) 2 bc, .agg #[.int .i64 wk, .int .i64 wn, .string wt], .int .i64 0] w fun e w' => e = .returned (.bool true) ∧ Touch [] w w' := by
  have heq := fun w' => eqIn_val ⟨wk, wn, wt⟩ ⟨wk, wn, wt⟩ w'
  rw [(eqV3_iff _ _).2 rfl] at heq
  simp only at heq
  have hgd := guard_val
  obtain ⟨W, hW⟩ : ∃ W, W = ((w.alloc (.cells #[.int .i64 4, .string ⟨#[]⟩, .int .i64 nk, .int .i64 nn, .string nt, .string ⟨#[60, 61]⟩, .slice A m c] 33)).alloc (.cells #[.int .i64 wk, .int .i64 wn, .string wt] 30)).alloc (.cells #[.int .i64 0, .int .i64 0, .string ⟨#[]⟩] 30) := ⟨_, rfl⟩
  have tW : Touch [] w W := by rw [hW]; exact (((Touch.refl [] w).alloc _).alloc _).alloc _
  have hE : W.heap[w.heap.size]? = some (.cells #[.int .i64 4, .string ⟨#[]⟩, .int .i64 nk, .int .i64 nn, .string nt, .string ⟨#[60, 61]⟩, .slice A m c] 33) := by rw [hW]; exact (((Touch.refl [] (w.alloc (.cells #[.int .i64 4, .string ⟨#[]⟩, .int .i64 nk, .int .i64 nn, .string nt, .string ⟨#[60, 61]⟩, .slice A m c] 33))).alloc _).alloc _).blk (heap_alloc_new w (.cells #[.int .i64 4, .string ⟨#[]⟩, .int .i64 nk, .int .i64 nn, .string nt, .string ⟨#[60, 61]⟩, .slice A m c] 33)) (by simp)
  have hV : W.heap[w.heap.size + 1]? = some (.cells #[.int .i64 wk, .int .i64 wn, .string wt] 30) := by
    have := ((Touch.refl [] ((w.alloc (.cells #[.int .i64 4, .string ⟨#[]⟩, .int .i64 nk, .int .i64 nn, .string nt, .string ⟨#[60, 61]⟩, .slice A m c] 33)).alloc (.cells #[.int .i64 wk, .int .i64 wn, .string wt] 30))).alloc (.cells #[.int .i64 0, .int .i64 0, .string ⟨#[]⟩] 30)).blk (heap_alloc_new (w.alloc (.cells #[.int .i64 4, .string ⟨#[]⟩, .int .i64 nk, .int .i64 nn, .string nt, .string ⟨#[60, 61]⟩, .slice A m c] 33)) (.cells #[.int .i64 wk, .int .i64 wn, .string wt] 30)) (by simp)
    rw [World.size_alloc] at this
    rw [hW]; exact this
  have hZ : W.heap[w.heap.size + 1 + 1]? = some (.cells #[.int .i64 0, .int .i64 0, .string ⟨#[]⟩] 30) := by
    have := heap_alloc_new ((w.alloc (.cells #[.int .i64 4, .string ⟨#[]⟩, .int .i64 nk, .int .i64 nn, .string nt, .string ⟨#[60, 61]⟩, .slice A m c] 33)).alloc (.cells #[.int .i64 wk, .int .i64 wn, .string wt] 30)) (.cells #[.int .i64 0, .int .i64 0, .string ⟨#[]⟩] 30)
    rw [World.size_alloc, World.size_alloc] at this
    rw [hW]; exact this
  have hg := h.touch0 tW
  have hgl0 : g < w.heap.size := Rd.lt h (by rw [flat_length vdE 3 vdE_length]; simp) g (by simp [fpo])
  have HE := Lib.hid hE; have HV := Lib.hid hV; have HZ := Lib.hid hZ; have HG := Lib.hid hg; have HW := Lib.hid hW
  have hr : ValsAt (((w.alloc (.cells #[.int .i64 4, .string ⟨#[]⟩, .int .i64 nk, .int .i64 nn, .string nt, .string ⟨#[60, 61]⟩, .slice A m c] 33)).alloc (.cells #[.int .i64 wk, .int .i64 wn, .string wt] 30)).alloc (.cells #[.int .i64 0, .int .i64 0, .string ⟨#[]⟩] 30)) (some ⟨g, 0, none⟩) [⟨p0, p1, p2⟩, ⟨q0, q1, q2⟩] := h.touch0 ((((Touch.refl [] w).alloc _).alloc _).alloc _)
  obtain ⟨g0, g1, g2⟩ := vals_at hr 0 (by simp)
  obtain ⟨g3, g4, g5⟩ := vals_at hr 1 (by simp)
  simp only [List.getElem_cons_zero, List.getElem_cons_succ, Nat.zero_mul, Nat.zero_add, Nat.one_mul, Nat.reduceAdd] at g0 g1 g2 g3 g4 g5
  clear hE hV hZ hg hW h hr
  have Hcm := Lib.hid fun w' => compare_any 4 (by decide) ⟨p0, p1, p2⟩ ⟨q0, q1, q2⟩ w'
  rw [← hw] at Hcm
  simp only [VD.val] at Hcm
  have hWs : W.heap.size = w.heap.size + 1 + 1 + 1 := by rw [HW.out]; simp
  have hM0 : MapAt Try.prog 9 (W.alloc (.map #[] 0)) (w.heap.size + 1 + 1 + 1) [] := by rw [← hWs]; exact MapAt.made W
  have T0 := (Touch.refl [] W).alloc (.map #[] 0)
  go_enter Try.func43, Try.ntmps43
  go_upto_region 15 with (fail)
  rw [← HW.out]
  clear g0 g1 g2 g3 g4 g5
  refine wp_region_lit ?_
  refine wpList_makeMap_is rfl 111 rfl ?_
  rw [hWs]
  try simp only [Act.put, List.setIfInBounds_toArray, List.set_cons_zero, List.set_cons_succ]
  have hk0 := Go.WideMaps.keyOf_string_mk Try.underlying9 (s := ⟨#[61]⟩) (by decide)
  obtain ⟨m1, r1, hM1, tm1⟩ := hM0.put_new (string_keyed Try.underlying9) Try.underlying111 hk0 (by simp) (.int .i64 1)
  have T1 := T0.trans tm1 (fun b hb => .inr (by simp at hb; omega))
  refine wpList_insert_is rfl (.tmp 78) (.const (.string ⟨#[61]⟩)) (.const (.int .i64 1)) 111 rfl _ _ _ rfl rfl rfl r1 ?_
  try simp only [Act.put]
  have hk1 := Go.WideMaps.keyOf_string_mk Try.underlying9 (s := ⟨#[33, 61]⟩) (by decide)
  obtain ⟨m2, r2, hM2, tm2⟩ := hM1.put_new (string_keyed Try.underlying9) Try.underlying111 hk1 (by simp) (.int .i64 2)
  have T2 := T1.trans tm2 (fun b hb => .inr (by simp at hb; omega))
  refine wpList_insert_is rfl (.tmp 78) (.const (.string ⟨#[33, 61]⟩)) (.const (.int .i64 2)) 111 rfl _ _ _ rfl rfl rfl r2 ?_
  try simp only [Act.put]
  have hk2 := Go.WideMaps.keyOf_string_mk Try.underlying9 (s := ⟨#[60]⟩) (by decide)
  obtain ⟨m3, r3, hM3, tm3⟩ := hM2.put_new (string_keyed Try.underlying9) Try.underlying111 hk2 (by simp) (.int .i64 3)
  have T3 := T2.trans tm3 (fun b hb => .inr (by simp at hb; omega))
  refine wpList_insert_is rfl (.tmp 78) (.const (.string ⟨#[60]⟩)) (.const (.int .i64 3)) 111 rfl _ _ _ rfl rfl rfl r3 ?_
  try simp only [Act.put]
  have hk3 := Go.WideMaps.keyOf_string_mk Try.underlying9 (s := ⟨#[60, 61]⟩) (by decide)
  obtain ⟨m4, r4, hM4, tm4⟩ := hM3.put_new (string_keyed Try.underlying9) Try.underlying111 hk3 (by simp) (.int .i64 4)
  have T4 := T3.trans tm4 (fun b hb => .inr (by simp at hb; omega))
  refine wpList_insert_is rfl (.tmp 78) (.const (.string ⟨#[60, 61]⟩)) (.const (.int .i64 4)) 111 rfl _ _ _ rfl rfl rfl r4 ?_
  try simp only [Act.put]
  have hk4 := Go.WideMaps.keyOf_string_mk Try.underlying9 (s := ⟨#[62]⟩) (by decide)
  obtain ⟨m5, r5, hM5, tm5⟩ := hM4.put_new (string_keyed Try.underlying9) Try.underlying111 hk4 (by simp) (.int .i64 5)
  have T5 := T4.trans tm5 (fun b hb => .inr (by simp at hb; omega))
  refine wpList_insert_is rfl (.tmp 78) (.const (.string ⟨#[62]⟩)) (.const (.int .i64 5)) 111 rfl _ _ _ rfl rfl rfl r5 ?_
  try simp only [Act.put]
  have hk5 := Go.WideMaps.keyOf_string_mk Try.underlying9 (s := ⟨#[62, 61]⟩) (by decide)
  obtain ⟨m6, r6, hM6, tm6⟩ := hM5.put_new (string_keyed Try.underlying9) Try.underlying111 hk5 (by simp) (.int .i64 6)
  have T6 := T5.trans tm6 (fun b hb => .inr (by simp at hb; omega))
  refine wpList_insert_is rfl (.tmp 78) (.const (.string ⟨#[62, 61]⟩)) (.const (.int .i64 6)) 111 rfl _ _ _ rfl rfl rfl r6 ?_
  try simp only [Act.put]
  obtain ⟨e0, e1, e2, e3, e4, e5, e6, _⟩ := blk7 (T6.blk HE.out (by simp))
  go_wp2_with (at_lookup; refine stop ?_)
  refine go ?_
  refine wpList_lookup_is rfl (.tmp 79) (.tmp 81) 111 false rfl _ _ (.int .i64 4) rfl rfl (hM6.hit (string_keyed Try.underlying9) Try.underlying111 hk3 (by simp) false) ?_
  clear e0 e1 e2 e3 e4 e5 e6
  go_wp2_with fail
  obtain ⟨g0, g1, g2⟩ := vals_at (HG.out.touch0 T6.drew) 0 (by simp)
  obtain ⟨g3, g4, g5⟩ := vals_at (HG.out.touch0 T6.drew) 1 (by simp)
  simp only [List.getElem_cons_zero, List.getElem_cons_succ, Nat.zero_mul, Nat.zero_add, Nat.one_mul, Nat.reduceAdd] at g0 g1 g2 g3 g4 g5
  refine wp_region_held_drew (S := fun w' => w'.cell? ⟨g, 0, none⟩ = some (.int .i64 p0) ∧ w'.cell? ⟨g, 1, none⟩ = some (.int .i64 p1) ∧ w'.cell? ⟨g, 2, none⟩ = some (.string p2) ∧ w'.cell? ⟨g, 3, none⟩ = some (.int .i64 q0) ∧ w'.cell? ⟨g, 4, none⟩ = some (.int .i64 q1) ∧ w'.cell? ⟨g, 5, none⟩ = some (.string q2)) (by kernel_rfl) ⟨g0, g1, g2, g3, g4, g5⟩ (fun hHeld => ?_)
  refine take_d (i := 0) (d := 83) (v := ?_) rfl rfl (by kernel_rfl) (by kernel_rfl) (by kernel_rfl) (fun _ _ _ h => h) (Or.inl ⟨by rfl, ?_⟩) (by assumption) ?_
  rotate_left
  · intro w hSw; (try dsimp only at hSw); go_simp; (try with_reducible rfl)
  try simp only [Act.put, List.setIfInBounds_toArray, List.set_cons_zero, List.set_cons_succ]
  refine take_d (i := 1) (d := 84) (v := ?_) rfl rfl (by kernel_rfl) (by kernel_rfl) (by kernel_rfl) (fun _ _ _ h => h) (Or.inl ⟨by rfl, ?_⟩) (by assumption) ?_
  rotate_left
  · intro w hSw; (try dsimp only at hSw); go_simp; (try with_reducible rfl)
  try simp only [Act.put, List.setIfInBounds_toArray, List.set_cons_zero, List.set_cons_succ]
  refine take_d (i := 2) (d := 85) (v := ?_) rfl rfl (by kernel_rfl) (by kernel_rfl) (by kernel_rfl) (fun _ _ _ h => h) (Or.inl ⟨by rfl, ?_⟩) (by assumption) ?_
  rotate_left
  · intro w hSw; (try dsimp only at hSw); go_simp; (try with_reducible rfl)
  try simp only [Act.put, List.setIfInBounds_toArray, List.set_cons_zero, List.set_cons_succ]
  refine take_d (i := 3) (d := 86) (v := ?_) rfl rfl (by kernel_rfl) (by kernel_rfl) (by kernel_rfl) (fun _ _ _ h => h) (Or.inl ⟨by rfl, ?_⟩) (by assumption) ?_
  rotate_left
  · intro w hSw; (try dsimp only at hSw); go_simp; (try with_reducible rfl)
  try simp only [Act.put, List.setIfInBounds_toArray, List.set_cons_zero, List.set_cons_succ]
  refine take_d (i := 4) (d := 87) (v := ?_) rfl rfl (by kernel_rfl) (by kernel_rfl) (by kernel_rfl) (fun _ _ _ h => h) (Or.inl ⟨by rfl, ?_⟩) (by assumption) ?_
  rotate_left
  · intro w hSw; (try dsimp only at hSw); go_simp; (try with_reducible rfl)
  try simp only [Act.put, List.setIfInBounds_toArray, List.set_cons_zero, List.set_cons_succ]
  refine take_d (i := 5) (d := 88) (v := ?_) rfl rfl (by kernel_rfl) (by kernel_rfl) (by kernel_rfl) (fun _ _ _ h => h) (Or.inl ⟨by rfl, ?_⟩) (by assumption) ?_
  rotate_left
  · intro w hSw; (try dsimp only at hSw); go_simp; (try with_reducible rfl)
  try simp only [Act.put, List.setIfInBounds_toArray, List.set_cons_zero, List.set_cons_succ]
  refine take_d (i := 6) (d := 89) (v := ?_) rfl rfl (by kernel_rfl) (by kernel_rfl) (by kernel_rfl) (fun _ _ _ h => h) (Or.inl ⟨by rfl, ?_⟩) (by assumption) ?_
  rotate_left
  · intro w hSw; (try dsimp only at hSw); go_simp; (try with_reducible rfl)
  try simp only [Act.put, List.setIfInBounds_toArray, List.set_cons_zero, List.set_cons_succ]
  refine wpAnyH_ready (rs := [7]) (by kernel_rfl) (by simp) ?_
  refine AllReadyH.cons rfl (fun K hK => ?_) AllReadyH.nil
  go_simp
  go_at_call 55
  refine (Hcm.out _).mono ?_
  rintro e w2 ⟨rfl, u2⟩
  have t2 := T6.drew.trans0 u2
  (try go_wp2_with fail)
  obtain ⟨l0, l1, l2⟩ := vals_at (HG.out.touch0 t2) 0 (by simp)
  obtain ⟨l3, l4, l5⟩ := vals_at (HG.out.touch0 t2) 1 (by simp)
  simp only [List.getElem_cons_zero, List.getElem_cons_succ, Nat.zero_mul, Nat.zero_add, Nat.one_mul, Nat.reduceAdd] at l0 l1 l2 l3 l4 l5
  refine hK.out _ _ ⟨l0, l1, l2, l3, l4, l5⟩ (fun _hH => ?_)
  clear hK K
  try simp only [Act.put, List.setIfInBounds_toArray, List.set_cons_zero, List.set_cons_succ]
  obtain ⟨z0, z1, z2, f0, f1, f2⟩ := blk3 (t2.blk HZ.out (by simp))
  obtain ⟨s1, s2⟩ := out3 (t2.blk HZ.out (by simp)) (.int .i64 wk) (.int .i64 wn) (.string wt)
  have hgS := RdK.touch (HG.out.touch0 t2) s2 (fun b hb hm => by simp [fpo] at hb hm; omega)
  obtain ⟨k0, k1, k2⟩ := vals_at hgS 0 (by simp)
  obtain ⟨k3, k4, k5⟩ := vals_at hgS 1 (by simp)
  simp only [List.getElem_cons_zero, List.getElem_cons_succ, Nat.zero_mul, Nat.zero_add, Nat.one_mul, Nat.reduceAdd] at k0 k1 k2 k3 k4 k5
  refine wpAnyH_ready (rs := [8]) (by kernel_rfl) (by simp) ?_
  refine AllReadyH.cons rfl (fun K hK => ?_) AllReadyH.nil
  go_simp
  (try go_wp2_with fail)
  refine hK.out _ _ ⟨k0, k1, k2, k3, k4, k5⟩ (fun _hH => ?_)
  clear hK K
  try simp only [Act.put, List.setIfInBounds_toArray, List.set_cons_zero, List.set_cons_succ]
  refine wpAnyH_done (by kernel_rfl) ?_ _
  obtain ⟨y0, y1, y2, _⟩ := blk3 s1
  obtain ⟨v0, v1, v2, _⟩ := blk3 (s2.blk (t2.blk HV.out (by simp)) (by simp))
  go_wp2_with fail
  go_ret
  exact ⟨rfl, (tW.trans0 t2).trans s2 (fun b hb => .inr (by simp at hb; omega))⟩

set_option maxRecDepth 100000 in
set_option maxHeartbeats 6400000 in
theorem whole_cmp4 (nk nn : Int) (nt : ByteArray) (p0 p1 : Int) (p2 : ByteArray) (q0 q1 : Int) (q2 : ByteArray) (wk wn : Int) (wt : ByteArray) (A : Option Addr) (m c g bc : Nat) (w : World) (h : ValsAt w (some ⟨g, 0, none⟩) [⟨p0, p1, p2⟩, ⟨q0, q1, q2⟩]) (hw : (⟨wk, wn, wt⟩ : VD) = compareV 5 ⟨p0, p1, p2⟩ ⟨q0, q1, q2⟩) :
    Calls Try.prog 43 #[.agg #[.int .i64 4, .string ⟨#[]⟩, .int .i64 nk, .int .i64 nn, .string nt, .string ⟨#[62]⟩, .slice A m c], .slice (some ⟨g, 0, none⟩) 2 bc, .agg #[.int .i64 wk, .int .i64 wn, .string wt], .int .i64 0] w fun e w' => e = .returned (.bool true) ∧ Touch [] w w' := by
  have heq := fun w' => eqIn_val ⟨wk, wn, wt⟩ ⟨wk, wn, wt⟩ w'
  rw [(eqV3_iff _ _).2 rfl] at heq
  simp only at heq
  have hgd := guard_val
  obtain ⟨W, hW⟩ : ∃ W, W = ((w.alloc (.cells #[.int .i64 4, .string ⟨#[]⟩, .int .i64 nk, .int .i64 nn, .string nt, .string ⟨#[62]⟩, .slice A m c] 33)).alloc (.cells #[.int .i64 wk, .int .i64 wn, .string wt] 30)).alloc (.cells #[.int .i64 0, .int .i64 0, .string ⟨#[]⟩] 30) := ⟨_, rfl⟩
  have tW : Touch [] w W := by rw [hW]; exact (((Touch.refl [] w).alloc _).alloc _).alloc _
  have hE : W.heap[w.heap.size]? = some (.cells #[.int .i64 4, .string ⟨#[]⟩, .int .i64 nk, .int .i64 nn, .string nt, .string ⟨#[62]⟩, .slice A m c] 33) := by rw [hW]; exact (((Touch.refl [] (w.alloc (.cells #[.int .i64 4, .string ⟨#[]⟩, .int .i64 nk, .int .i64 nn, .string nt, .string ⟨#[62]⟩, .slice A m c] 33))).alloc _).alloc _).blk (heap_alloc_new w (.cells #[.int .i64 4, .string ⟨#[]⟩, .int .i64 nk, .int .i64 nn, .string nt, .string ⟨#[62]⟩, .slice A m c] 33)) (by simp)
  have hV : W.heap[w.heap.size + 1]? = some (.cells #[.int .i64 wk, .int .i64 wn, .string wt] 30) := by
    have := ((Touch.refl [] ((w.alloc (.cells #[.int .i64 4, .string ⟨#[]⟩, .int .i64 nk, .int .i64 nn, .string nt, .string ⟨#[62]⟩, .slice A m c] 33)).alloc (.cells #[.int .i64 wk, .int .i64 wn, .string wt] 30))).alloc (.cells #[.int .i64 0, .int .i64 0, .string ⟨#[]⟩] 30)).blk (heap_alloc_new (w.alloc (.cells #[.int .i64 4, .string ⟨#[]⟩, .int .i64 nk, .int .i64 nn, .string nt, .string ⟨#[62]⟩, .slice A m c] 33)) (.cells #[.int .i64 wk, .int .i64 wn, .string wt] 30)) (by simp)
    rw [World.size_alloc] at this
    rw [hW]; exact this
  have hZ : W.heap[w.heap.size + 1 + 1]? = some (.cells #[.int .i64 0, .int .i64 0, .string ⟨#[]⟩] 30) := by
    have := heap_alloc_new ((w.alloc (.cells #[.int .i64 4, .string ⟨#[]⟩, .int .i64 nk, .int .i64 nn, .string nt, .string ⟨#[62]⟩, .slice A m c] 33)).alloc (.cells #[.int .i64 wk, .int .i64 wn, .string wt] 30)) (.cells #[.int .i64 0, .int .i64 0, .string ⟨#[]⟩] 30)
    rw [World.size_alloc, World.size_alloc] at this
    rw [hW]; exact this
  have hg := h.touch0 tW
  have hgl0 : g < w.heap.size := Rd.lt h (by rw [flat_length vdE 3 vdE_length]; simp) g (by simp [fpo])
  have HE := Lib.hid hE; have HV := Lib.hid hV; have HZ := Lib.hid hZ; have HG := Lib.hid hg; have HW := Lib.hid hW
  have hr : ValsAt (((w.alloc (.cells #[.int .i64 4, .string ⟨#[]⟩, .int .i64 nk, .int .i64 nn, .string nt, .string ⟨#[62]⟩, .slice A m c] 33)).alloc (.cells #[.int .i64 wk, .int .i64 wn, .string wt] 30)).alloc (.cells #[.int .i64 0, .int .i64 0, .string ⟨#[]⟩] 30)) (some ⟨g, 0, none⟩) [⟨p0, p1, p2⟩, ⟨q0, q1, q2⟩] := h.touch0 ((((Touch.refl [] w).alloc _).alloc _).alloc _)
  obtain ⟨g0, g1, g2⟩ := vals_at hr 0 (by simp)
  obtain ⟨g3, g4, g5⟩ := vals_at hr 1 (by simp)
  simp only [List.getElem_cons_zero, List.getElem_cons_succ, Nat.zero_mul, Nat.zero_add, Nat.one_mul, Nat.reduceAdd] at g0 g1 g2 g3 g4 g5
  clear hE hV hZ hg hW h hr
  have Hcm := Lib.hid fun w' => compare_any 5 (by decide) ⟨p0, p1, p2⟩ ⟨q0, q1, q2⟩ w'
  rw [← hw] at Hcm
  simp only [VD.val] at Hcm
  have hWs : W.heap.size = w.heap.size + 1 + 1 + 1 := by rw [HW.out]; simp
  have hM0 : MapAt Try.prog 9 (W.alloc (.map #[] 0)) (w.heap.size + 1 + 1 + 1) [] := by rw [← hWs]; exact MapAt.made W
  have T0 := (Touch.refl [] W).alloc (.map #[] 0)
  go_enter Try.func43, Try.ntmps43
  go_upto_region 15 with (fail)
  rw [← HW.out]
  clear g0 g1 g2 g3 g4 g5
  refine wp_region_lit ?_
  refine wpList_makeMap_is rfl 111 rfl ?_
  rw [hWs]
  try simp only [Act.put, List.setIfInBounds_toArray, List.set_cons_zero, List.set_cons_succ]
  have hk0 := Go.WideMaps.keyOf_string_mk Try.underlying9 (s := ⟨#[61]⟩) (by decide)
  obtain ⟨m1, r1, hM1, tm1⟩ := hM0.put_new (string_keyed Try.underlying9) Try.underlying111 hk0 (by simp) (.int .i64 1)
  have T1 := T0.trans tm1 (fun b hb => .inr (by simp at hb; omega))
  refine wpList_insert_is rfl (.tmp 78) (.const (.string ⟨#[61]⟩)) (.const (.int .i64 1)) 111 rfl _ _ _ rfl rfl rfl r1 ?_
  try simp only [Act.put]
  have hk1 := Go.WideMaps.keyOf_string_mk Try.underlying9 (s := ⟨#[33, 61]⟩) (by decide)
  obtain ⟨m2, r2, hM2, tm2⟩ := hM1.put_new (string_keyed Try.underlying9) Try.underlying111 hk1 (by simp) (.int .i64 2)
  have T2 := T1.trans tm2 (fun b hb => .inr (by simp at hb; omega))
  refine wpList_insert_is rfl (.tmp 78) (.const (.string ⟨#[33, 61]⟩)) (.const (.int .i64 2)) 111 rfl _ _ _ rfl rfl rfl r2 ?_
  try simp only [Act.put]
  have hk2 := Go.WideMaps.keyOf_string_mk Try.underlying9 (s := ⟨#[60]⟩) (by decide)
  obtain ⟨m3, r3, hM3, tm3⟩ := hM2.put_new (string_keyed Try.underlying9) Try.underlying111 hk2 (by simp) (.int .i64 3)
  have T3 := T2.trans tm3 (fun b hb => .inr (by simp at hb; omega))
  refine wpList_insert_is rfl (.tmp 78) (.const (.string ⟨#[60]⟩)) (.const (.int .i64 3)) 111 rfl _ _ _ rfl rfl rfl r3 ?_
  try simp only [Act.put]
  have hk3 := Go.WideMaps.keyOf_string_mk Try.underlying9 (s := ⟨#[60, 61]⟩) (by decide)
  obtain ⟨m4, r4, hM4, tm4⟩ := hM3.put_new (string_keyed Try.underlying9) Try.underlying111 hk3 (by simp) (.int .i64 4)
  have T4 := T3.trans tm4 (fun b hb => .inr (by simp at hb; omega))
  refine wpList_insert_is rfl (.tmp 78) (.const (.string ⟨#[60, 61]⟩)) (.const (.int .i64 4)) 111 rfl _ _ _ rfl rfl rfl r4 ?_
  try simp only [Act.put]
  have hk4 := Go.WideMaps.keyOf_string_mk Try.underlying9 (s := ⟨#[62]⟩) (by decide)
  obtain ⟨m5, r5, hM5, tm5⟩ := hM4.put_new (string_keyed Try.underlying9) Try.underlying111 hk4 (by simp) (.int .i64 5)
  have T5 := T4.trans tm5 (fun b hb => .inr (by simp at hb; omega))
  refine wpList_insert_is rfl (.tmp 78) (.const (.string ⟨#[62]⟩)) (.const (.int .i64 5)) 111 rfl _ _ _ rfl rfl rfl r5 ?_
  try simp only [Act.put]
  have hk5 := Go.WideMaps.keyOf_string_mk Try.underlying9 (s := ⟨#[62, 61]⟩) (by decide)
  obtain ⟨m6, r6, hM6, tm6⟩ := hM5.put_new (string_keyed Try.underlying9) Try.underlying111 hk5 (by simp) (.int .i64 6)
  have T6 := T5.trans tm6 (fun b hb => .inr (by simp at hb; omega))
  refine wpList_insert_is rfl (.tmp 78) (.const (.string ⟨#[62, 61]⟩)) (.const (.int .i64 6)) 111 rfl _ _ _ rfl rfl rfl r6 ?_
  try simp only [Act.put]
  obtain ⟨e0, e1, e2, e3, e4, e5, e6, _⟩ := blk7 (T6.blk HE.out (by simp))
  go_wp2_with (at_lookup; refine stop ?_)
  refine go ?_
  refine wpList_lookup_is rfl (.tmp 79) (.tmp 81) 111 false rfl _ _ (.int .i64 5) rfl rfl (hM6.hit (string_keyed Try.underlying9) Try.underlying111 hk4 (by simp) false) ?_
  clear e0 e1 e2 e3 e4 e5 e6
  go_wp2_with fail
  obtain ⟨g0, g1, g2⟩ := vals_at (HG.out.touch0 T6.drew) 0 (by simp)
  obtain ⟨g3, g4, g5⟩ := vals_at (HG.out.touch0 T6.drew) 1 (by simp)
  simp only [List.getElem_cons_zero, List.getElem_cons_succ, Nat.zero_mul, Nat.zero_add, Nat.one_mul, Nat.reduceAdd] at g0 g1 g2 g3 g4 g5
  refine wp_region_held_drew (S := fun w' => w'.cell? ⟨g, 0, none⟩ = some (.int .i64 p0) ∧ w'.cell? ⟨g, 1, none⟩ = some (.int .i64 p1) ∧ w'.cell? ⟨g, 2, none⟩ = some (.string p2) ∧ w'.cell? ⟨g, 3, none⟩ = some (.int .i64 q0) ∧ w'.cell? ⟨g, 4, none⟩ = some (.int .i64 q1) ∧ w'.cell? ⟨g, 5, none⟩ = some (.string q2)) (by kernel_rfl) ⟨g0, g1, g2, g3, g4, g5⟩ (fun hHeld => ?_)
  refine take_d (i := 0) (d := 83) (v := ?_) rfl rfl (by kernel_rfl) (by kernel_rfl) (by kernel_rfl) (fun _ _ _ h => h) (Or.inl ⟨by rfl, ?_⟩) (by assumption) ?_
  rotate_left
  · intro w hSw; (try dsimp only at hSw); go_simp; (try with_reducible rfl)
  try simp only [Act.put, List.setIfInBounds_toArray, List.set_cons_zero, List.set_cons_succ]
  refine take_d (i := 1) (d := 84) (v := ?_) rfl rfl (by kernel_rfl) (by kernel_rfl) (by kernel_rfl) (fun _ _ _ h => h) (Or.inl ⟨by rfl, ?_⟩) (by assumption) ?_
  rotate_left
  · intro w hSw; (try dsimp only at hSw); go_simp; (try with_reducible rfl)
  try simp only [Act.put, List.setIfInBounds_toArray, List.set_cons_zero, List.set_cons_succ]
  refine take_d (i := 2) (d := 85) (v := ?_) rfl rfl (by kernel_rfl) (by kernel_rfl) (by kernel_rfl) (fun _ _ _ h => h) (Or.inl ⟨by rfl, ?_⟩) (by assumption) ?_
  rotate_left
  · intro w hSw; (try dsimp only at hSw); go_simp; (try with_reducible rfl)
  try simp only [Act.put, List.setIfInBounds_toArray, List.set_cons_zero, List.set_cons_succ]
  refine take_d (i := 3) (d := 86) (v := ?_) rfl rfl (by kernel_rfl) (by kernel_rfl) (by kernel_rfl) (fun _ _ _ h => h) (Or.inl ⟨by rfl, ?_⟩) (by assumption) ?_
  rotate_left
  · intro w hSw; (try dsimp only at hSw); go_simp; (try with_reducible rfl)
  try simp only [Act.put, List.setIfInBounds_toArray, List.set_cons_zero, List.set_cons_succ]
  refine take_d (i := 4) (d := 87) (v := ?_) rfl rfl (by kernel_rfl) (by kernel_rfl) (by kernel_rfl) (fun _ _ _ h => h) (Or.inl ⟨by rfl, ?_⟩) (by assumption) ?_
  rotate_left
  · intro w hSw; (try dsimp only at hSw); go_simp; (try with_reducible rfl)
  try simp only [Act.put, List.setIfInBounds_toArray, List.set_cons_zero, List.set_cons_succ]
  refine take_d (i := 5) (d := 88) (v := ?_) rfl rfl (by kernel_rfl) (by kernel_rfl) (by kernel_rfl) (fun _ _ _ h => h) (Or.inl ⟨by rfl, ?_⟩) (by assumption) ?_
  rotate_left
  · intro w hSw; (try dsimp only at hSw); go_simp; (try with_reducible rfl)
  try simp only [Act.put, List.setIfInBounds_toArray, List.set_cons_zero, List.set_cons_succ]
  refine take_d (i := 6) (d := 89) (v := ?_) rfl rfl (by kernel_rfl) (by kernel_rfl) (by kernel_rfl) (fun _ _ _ h => h) (Or.inl ⟨by rfl, ?_⟩) (by assumption) ?_
  rotate_left
  · intro w hSw; (try dsimp only at hSw); go_simp; (try with_reducible rfl)
  try simp only [Act.put, List.setIfInBounds_toArray, List.set_cons_zero, List.set_cons_succ]
  refine wpAnyH_ready (rs := [7]) (by kernel_rfl) (by simp) ?_
  refine AllReadyH.cons rfl (fun K hK => ?_) AllReadyH.nil
  go_simp
  go_at_call 55
  refine (Hcm.out _).mono ?_
  rintro e w2 ⟨rfl, u2⟩
  have t2 := T6.drew.trans0 u2
  (try go_wp2_with fail)
  obtain ⟨l0, l1, l2⟩ := vals_at (HG.out.touch0 t2) 0 (by simp)
  obtain ⟨l3, l4, l5⟩ := vals_at (HG.out.touch0 t2) 1 (by simp)
  simp only [List.getElem_cons_zero, List.getElem_cons_succ, Nat.zero_mul, Nat.zero_add, Nat.one_mul, Nat.reduceAdd] at l0 l1 l2 l3 l4 l5
  refine hK.out _ _ ⟨l0, l1, l2, l3, l4, l5⟩ (fun _hH => ?_)
  clear hK K
  try simp only [Act.put, List.setIfInBounds_toArray, List.set_cons_zero, List.set_cons_succ]
  obtain ⟨z0, z1, z2, f0, f1, f2⟩ := blk3 (t2.blk HZ.out (by simp))
  obtain ⟨s1, s2⟩ := out3 (t2.blk HZ.out (by simp)) (.int .i64 wk) (.int .i64 wn) (.string wt)
  have hgS := RdK.touch (HG.out.touch0 t2) s2 (fun b hb hm => by simp [fpo] at hb hm; omega)
  obtain ⟨k0, k1, k2⟩ := vals_at hgS 0 (by simp)
  obtain ⟨k3, k4, k5⟩ := vals_at hgS 1 (by simp)
  simp only [List.getElem_cons_zero, List.getElem_cons_succ, Nat.zero_mul, Nat.zero_add, Nat.one_mul, Nat.reduceAdd] at k0 k1 k2 k3 k4 k5
  refine wpAnyH_ready (rs := [8]) (by kernel_rfl) (by simp) ?_
  refine AllReadyH.cons rfl (fun K hK => ?_) AllReadyH.nil
  go_simp
  (try go_wp2_with fail)
  refine hK.out _ _ ⟨k0, k1, k2, k3, k4, k5⟩ (fun _hH => ?_)
  clear hK K
  try simp only [Act.put, List.setIfInBounds_toArray, List.set_cons_zero, List.set_cons_succ]
  refine wpAnyH_done (by kernel_rfl) ?_ _
  obtain ⟨y0, y1, y2, _⟩ := blk3 s1
  obtain ⟨v0, v1, v2, _⟩ := blk3 (s2.blk (t2.blk HV.out (by simp)) (by simp))
  go_wp2_with fail
  go_ret
  exact ⟨rfl, (tW.trans0 t2).trans s2 (fun b hb => .inr (by simp at hb; omega))⟩

set_option maxRecDepth 100000 in
set_option maxHeartbeats 6400000 in
theorem whole_cmp5 (nk nn : Int) (nt : ByteArray) (p0 p1 : Int) (p2 : ByteArray) (q0 q1 : Int) (q2 : ByteArray) (wk wn : Int) (wt : ByteArray) (A : Option Addr) (m c g bc : Nat) (w : World) (h : ValsAt w (some ⟨g, 0, none⟩) [⟨p0, p1, p2⟩, ⟨q0, q1, q2⟩]) (hw : (⟨wk, wn, wt⟩ : VD) = compareV 6 ⟨p0, p1, p2⟩ ⟨q0, q1, q2⟩) :
    Calls Try.prog 43 #[.agg #[.int .i64 4, .string ⟨#[]⟩, .int .i64 nk, .int .i64 nn, .string nt, .string ⟨#[62, 61]⟩, .slice A m c], .slice (some ⟨g, 0, none⟩) 2 bc, .agg #[.int .i64 wk, .int .i64 wn, .string wt], .int .i64 0] w fun e w' => e = .returned (.bool true) ∧ Touch [] w w' := by
  have heq := fun w' => eqIn_val ⟨wk, wn, wt⟩ ⟨wk, wn, wt⟩ w'
  rw [(eqV3_iff _ _).2 rfl] at heq
  simp only at heq
  have hgd := guard_val
  obtain ⟨W, hW⟩ : ∃ W, W = ((w.alloc (.cells #[.int .i64 4, .string ⟨#[]⟩, .int .i64 nk, .int .i64 nn, .string nt, .string ⟨#[62, 61]⟩, .slice A m c] 33)).alloc (.cells #[.int .i64 wk, .int .i64 wn, .string wt] 30)).alloc (.cells #[.int .i64 0, .int .i64 0, .string ⟨#[]⟩] 30) := ⟨_, rfl⟩
  have tW : Touch [] w W := by rw [hW]; exact (((Touch.refl [] w).alloc _).alloc _).alloc _
  have hE : W.heap[w.heap.size]? = some (.cells #[.int .i64 4, .string ⟨#[]⟩, .int .i64 nk, .int .i64 nn, .string nt, .string ⟨#[62, 61]⟩, .slice A m c] 33) := by rw [hW]; exact (((Touch.refl [] (w.alloc (.cells #[.int .i64 4, .string ⟨#[]⟩, .int .i64 nk, .int .i64 nn, .string nt, .string ⟨#[62, 61]⟩, .slice A m c] 33))).alloc _).alloc _).blk (heap_alloc_new w (.cells #[.int .i64 4, .string ⟨#[]⟩, .int .i64 nk, .int .i64 nn, .string nt, .string ⟨#[62, 61]⟩, .slice A m c] 33)) (by simp)
  have hV : W.heap[w.heap.size + 1]? = some (.cells #[.int .i64 wk, .int .i64 wn, .string wt] 30) := by
    have := ((Touch.refl [] ((w.alloc (.cells #[.int .i64 4, .string ⟨#[]⟩, .int .i64 nk, .int .i64 nn, .string nt, .string ⟨#[62, 61]⟩, .slice A m c] 33)).alloc (.cells #[.int .i64 wk, .int .i64 wn, .string wt] 30))).alloc (.cells #[.int .i64 0, .int .i64 0, .string ⟨#[]⟩] 30)).blk (heap_alloc_new (w.alloc (.cells #[.int .i64 4, .string ⟨#[]⟩, .int .i64 nk, .int .i64 nn, .string nt, .string ⟨#[62, 61]⟩, .slice A m c] 33)) (.cells #[.int .i64 wk, .int .i64 wn, .string wt] 30)) (by simp)
    rw [World.size_alloc] at this
    rw [hW]; exact this
  have hZ : W.heap[w.heap.size + 1 + 1]? = some (.cells #[.int .i64 0, .int .i64 0, .string ⟨#[]⟩] 30) := by
    have := heap_alloc_new ((w.alloc (.cells #[.int .i64 4, .string ⟨#[]⟩, .int .i64 nk, .int .i64 nn, .string nt, .string ⟨#[62, 61]⟩, .slice A m c] 33)).alloc (.cells #[.int .i64 wk, .int .i64 wn, .string wt] 30)) (.cells #[.int .i64 0, .int .i64 0, .string ⟨#[]⟩] 30)
    rw [World.size_alloc, World.size_alloc] at this
    rw [hW]; exact this
  have hg := h.touch0 tW
  have hgl0 : g < w.heap.size := Rd.lt h (by rw [flat_length vdE 3 vdE_length]; simp) g (by simp [fpo])
  have HE := Lib.hid hE; have HV := Lib.hid hV; have HZ := Lib.hid hZ; have HG := Lib.hid hg; have HW := Lib.hid hW
  have hr : ValsAt (((w.alloc (.cells #[.int .i64 4, .string ⟨#[]⟩, .int .i64 nk, .int .i64 nn, .string nt, .string ⟨#[62, 61]⟩, .slice A m c] 33)).alloc (.cells #[.int .i64 wk, .int .i64 wn, .string wt] 30)).alloc (.cells #[.int .i64 0, .int .i64 0, .string ⟨#[]⟩] 30)) (some ⟨g, 0, none⟩) [⟨p0, p1, p2⟩, ⟨q0, q1, q2⟩] := h.touch0 ((((Touch.refl [] w).alloc _).alloc _).alloc _)
  obtain ⟨g0, g1, g2⟩ := vals_at hr 0 (by simp)
  obtain ⟨g3, g4, g5⟩ := vals_at hr 1 (by simp)
  simp only [List.getElem_cons_zero, List.getElem_cons_succ, Nat.zero_mul, Nat.zero_add, Nat.one_mul, Nat.reduceAdd] at g0 g1 g2 g3 g4 g5
  clear hE hV hZ hg hW h hr
  have Hcm := Lib.hid fun w' => compare_any 6 (by decide) ⟨p0, p1, p2⟩ ⟨q0, q1, q2⟩ w'
  rw [← hw] at Hcm
  simp only [VD.val] at Hcm
  have hWs : W.heap.size = w.heap.size + 1 + 1 + 1 := by rw [HW.out]; simp
  have hM0 : MapAt Try.prog 9 (W.alloc (.map #[] 0)) (w.heap.size + 1 + 1 + 1) [] := by rw [← hWs]; exact MapAt.made W
  have T0 := (Touch.refl [] W).alloc (.map #[] 0)
  go_enter Try.func43, Try.ntmps43
  go_upto_region 15 with (fail)
  rw [← HW.out]
  clear g0 g1 g2 g3 g4 g5
  refine wp_region_lit ?_
  refine wpList_makeMap_is rfl 111 rfl ?_
  rw [hWs]
  try simp only [Act.put, List.setIfInBounds_toArray, List.set_cons_zero, List.set_cons_succ]
  have hk0 := Go.WideMaps.keyOf_string_mk Try.underlying9 (s := ⟨#[61]⟩) (by decide)
  obtain ⟨m1, r1, hM1, tm1⟩ := hM0.put_new (string_keyed Try.underlying9) Try.underlying111 hk0 (by simp) (.int .i64 1)
  have T1 := T0.trans tm1 (fun b hb => .inr (by simp at hb; omega))
  refine wpList_insert_is rfl (.tmp 78) (.const (.string ⟨#[61]⟩)) (.const (.int .i64 1)) 111 rfl _ _ _ rfl rfl rfl r1 ?_
  try simp only [Act.put]
  have hk1 := Go.WideMaps.keyOf_string_mk Try.underlying9 (s := ⟨#[33, 61]⟩) (by decide)
  obtain ⟨m2, r2, hM2, tm2⟩ := hM1.put_new (string_keyed Try.underlying9) Try.underlying111 hk1 (by simp) (.int .i64 2)
  have T2 := T1.trans tm2 (fun b hb => .inr (by simp at hb; omega))
  refine wpList_insert_is rfl (.tmp 78) (.const (.string ⟨#[33, 61]⟩)) (.const (.int .i64 2)) 111 rfl _ _ _ rfl rfl rfl r2 ?_
  try simp only [Act.put]
  have hk2 := Go.WideMaps.keyOf_string_mk Try.underlying9 (s := ⟨#[60]⟩) (by decide)
  obtain ⟨m3, r3, hM3, tm3⟩ := hM2.put_new (string_keyed Try.underlying9) Try.underlying111 hk2 (by simp) (.int .i64 3)
  have T3 := T2.trans tm3 (fun b hb => .inr (by simp at hb; omega))
  refine wpList_insert_is rfl (.tmp 78) (.const (.string ⟨#[60]⟩)) (.const (.int .i64 3)) 111 rfl _ _ _ rfl rfl rfl r3 ?_
  try simp only [Act.put]
  have hk3 := Go.WideMaps.keyOf_string_mk Try.underlying9 (s := ⟨#[60, 61]⟩) (by decide)
  obtain ⟨m4, r4, hM4, tm4⟩ := hM3.put_new (string_keyed Try.underlying9) Try.underlying111 hk3 (by simp) (.int .i64 4)
  have T4 := T3.trans tm4 (fun b hb => .inr (by simp at hb; omega))
  refine wpList_insert_is rfl (.tmp 78) (.const (.string ⟨#[60, 61]⟩)) (.const (.int .i64 4)) 111 rfl _ _ _ rfl rfl rfl r4 ?_
  try simp only [Act.put]
  have hk4 := Go.WideMaps.keyOf_string_mk Try.underlying9 (s := ⟨#[62]⟩) (by decide)
  obtain ⟨m5, r5, hM5, tm5⟩ := hM4.put_new (string_keyed Try.underlying9) Try.underlying111 hk4 (by simp) (.int .i64 5)
  have T5 := T4.trans tm5 (fun b hb => .inr (by simp at hb; omega))
  refine wpList_insert_is rfl (.tmp 78) (.const (.string ⟨#[62]⟩)) (.const (.int .i64 5)) 111 rfl _ _ _ rfl rfl rfl r5 ?_
  try simp only [Act.put]
  have hk5 := Go.WideMaps.keyOf_string_mk Try.underlying9 (s := ⟨#[62, 61]⟩) (by decide)
  obtain ⟨m6, r6, hM6, tm6⟩ := hM5.put_new (string_keyed Try.underlying9) Try.underlying111 hk5 (by simp) (.int .i64 6)
  have T6 := T5.trans tm6 (fun b hb => .inr (by simp at hb; omega))
  refine wpList_insert_is rfl (.tmp 78) (.const (.string ⟨#[62, 61]⟩)) (.const (.int .i64 6)) 111 rfl _ _ _ rfl rfl rfl r6 ?_
  try simp only [Act.put]
  obtain ⟨e0, e1, e2, e3, e4, e5, e6, _⟩ := blk7 (T6.blk HE.out (by simp))
  go_wp2_with (at_lookup; refine stop ?_)
  refine go ?_
  refine wpList_lookup_is rfl (.tmp 79) (.tmp 81) 111 false rfl _ _ (.int .i64 6) rfl rfl (hM6.hit (string_keyed Try.underlying9) Try.underlying111 hk5 (by simp) false) ?_
  clear e0 e1 e2 e3 e4 e5 e6
  go_wp2_with fail
  obtain ⟨g0, g1, g2⟩ := vals_at (HG.out.touch0 T6.drew) 0 (by simp)
  obtain ⟨g3, g4, g5⟩ := vals_at (HG.out.touch0 T6.drew) 1 (by simp)
  simp only [List.getElem_cons_zero, List.getElem_cons_succ, Nat.zero_mul, Nat.zero_add, Nat.one_mul, Nat.reduceAdd] at g0 g1 g2 g3 g4 g5
  refine wp_region_held_drew (S := fun w' => w'.cell? ⟨g, 0, none⟩ = some (.int .i64 p0) ∧ w'.cell? ⟨g, 1, none⟩ = some (.int .i64 p1) ∧ w'.cell? ⟨g, 2, none⟩ = some (.string p2) ∧ w'.cell? ⟨g, 3, none⟩ = some (.int .i64 q0) ∧ w'.cell? ⟨g, 4, none⟩ = some (.int .i64 q1) ∧ w'.cell? ⟨g, 5, none⟩ = some (.string q2)) (by kernel_rfl) ⟨g0, g1, g2, g3, g4, g5⟩ (fun hHeld => ?_)
  refine take_d (i := 0) (d := 83) (v := ?_) rfl rfl (by kernel_rfl) (by kernel_rfl) (by kernel_rfl) (fun _ _ _ h => h) (Or.inl ⟨by rfl, ?_⟩) (by assumption) ?_
  rotate_left
  · intro w hSw; (try dsimp only at hSw); go_simp; (try with_reducible rfl)
  try simp only [Act.put, List.setIfInBounds_toArray, List.set_cons_zero, List.set_cons_succ]
  refine take_d (i := 1) (d := 84) (v := ?_) rfl rfl (by kernel_rfl) (by kernel_rfl) (by kernel_rfl) (fun _ _ _ h => h) (Or.inl ⟨by rfl, ?_⟩) (by assumption) ?_
  rotate_left
  · intro w hSw; (try dsimp only at hSw); go_simp; (try with_reducible rfl)
  try simp only [Act.put, List.setIfInBounds_toArray, List.set_cons_zero, List.set_cons_succ]
  refine take_d (i := 2) (d := 85) (v := ?_) rfl rfl (by kernel_rfl) (by kernel_rfl) (by kernel_rfl) (fun _ _ _ h => h) (Or.inl ⟨by rfl, ?_⟩) (by assumption) ?_
  rotate_left
  · intro w hSw; (try dsimp only at hSw); go_simp; (try with_reducible rfl)
  try simp only [Act.put, List.setIfInBounds_toArray, List.set_cons_zero, List.set_cons_succ]
  refine take_d (i := 3) (d := 86) (v := ?_) rfl rfl (by kernel_rfl) (by kernel_rfl) (by kernel_rfl) (fun _ _ _ h => h) (Or.inl ⟨by rfl, ?_⟩) (by assumption) ?_
  rotate_left
  · intro w hSw; (try dsimp only at hSw); go_simp; (try with_reducible rfl)
  try simp only [Act.put, List.setIfInBounds_toArray, List.set_cons_zero, List.set_cons_succ]
  refine take_d (i := 4) (d := 87) (v := ?_) rfl rfl (by kernel_rfl) (by kernel_rfl) (by kernel_rfl) (fun _ _ _ h => h) (Or.inl ⟨by rfl, ?_⟩) (by assumption) ?_
  rotate_left
  · intro w hSw; (try dsimp only at hSw); go_simp; (try with_reducible rfl)
  try simp only [Act.put, List.setIfInBounds_toArray, List.set_cons_zero, List.set_cons_succ]
  refine take_d (i := 5) (d := 88) (v := ?_) rfl rfl (by kernel_rfl) (by kernel_rfl) (by kernel_rfl) (fun _ _ _ h => h) (Or.inl ⟨by rfl, ?_⟩) (by assumption) ?_
  rotate_left
  · intro w hSw; (try dsimp only at hSw); go_simp; (try with_reducible rfl)
  try simp only [Act.put, List.setIfInBounds_toArray, List.set_cons_zero, List.set_cons_succ]
  refine take_d (i := 6) (d := 89) (v := ?_) rfl rfl (by kernel_rfl) (by kernel_rfl) (by kernel_rfl) (fun _ _ _ h => h) (Or.inl ⟨by rfl, ?_⟩) (by assumption) ?_
  rotate_left
  · intro w hSw; (try dsimp only at hSw); go_simp; (try with_reducible rfl)
  try simp only [Act.put, List.setIfInBounds_toArray, List.set_cons_zero, List.set_cons_succ]
  refine wpAnyH_ready (rs := [7]) (by kernel_rfl) (by simp) ?_
  refine AllReadyH.cons rfl (fun K hK => ?_) AllReadyH.nil
  go_simp
  go_at_call 55
  refine (Hcm.out _).mono ?_
  rintro e w2 ⟨rfl, u2⟩
  have t2 := T6.drew.trans0 u2
  (try go_wp2_with fail)
  obtain ⟨l0, l1, l2⟩ := vals_at (HG.out.touch0 t2) 0 (by simp)
  obtain ⟨l3, l4, l5⟩ := vals_at (HG.out.touch0 t2) 1 (by simp)
  simp only [List.getElem_cons_zero, List.getElem_cons_succ, Nat.zero_mul, Nat.zero_add, Nat.one_mul, Nat.reduceAdd] at l0 l1 l2 l3 l4 l5
  refine hK.out _ _ ⟨l0, l1, l2, l3, l4, l5⟩ (fun _hH => ?_)
  clear hK K
  try simp only [Act.put, List.setIfInBounds_toArray, List.set_cons_zero, List.set_cons_succ]
  obtain ⟨z0, z1, z2, f0, f1, f2⟩ := blk3 (t2.blk HZ.out (by simp))
  obtain ⟨s1, s2⟩ := out3 (t2.blk HZ.out (by simp)) (.int .i64 wk) (.int .i64 wn) (.string wt)
  have hgS := RdK.touch (HG.out.touch0 t2) s2 (fun b hb hm => by simp [fpo] at hb hm; omega)
  obtain ⟨k0, k1, k2⟩ := vals_at hgS 0 (by simp)
  obtain ⟨k3, k4, k5⟩ := vals_at hgS 1 (by simp)
  simp only [List.getElem_cons_zero, List.getElem_cons_succ, Nat.zero_mul, Nat.zero_add, Nat.one_mul, Nat.reduceAdd] at k0 k1 k2 k3 k4 k5
  refine wpAnyH_ready (rs := [8]) (by kernel_rfl) (by simp) ?_
  refine AllReadyH.cons rfl (fun K hK => ?_) AllReadyH.nil
  go_simp
  (try go_wp2_with fail)
  refine hK.out _ _ ⟨k0, k1, k2, k3, k4, k5⟩ (fun _hH => ?_)
  clear hK K
  try simp only [Act.put, List.setIfInBounds_toArray, List.set_cons_zero, List.set_cons_succ]
  refine wpAnyH_done (by kernel_rfl) ?_ _
  obtain ⟨y0, y1, y2, _⟩ := blk3 s1
  obtain ⟨v0, v1, v2, _⟩ := blk3 (s2.blk (t2.blk HV.out (by simp)) (by simp))
  go_wp2_with fail
  go_ret
  exact ⟨rfl, (tW.trans0 t2).trans s2 (fun b hb => .inr (by simp at hb; omega))⟩

set_option maxRecDepth 100000 in
set_option maxHeartbeats 6400000 in
theorem whole_catO (nk nn : Int) (nt : ByteArray) (p0 p1 : Int) (p2 : ByteArray) (q0 q1 : Int) (q2 : ByteArray) (hp : p0 ≠ 0) (hq : q0 ≠ 0) (hs1 : p2.size ≤ 64) (hs2 : q2.size ≤ 64) (h64 : 64 < p2.size + q2.size) (wk wn : Int) (wt : ByteArray) (A : Option Addr) (m c g bc : Nat) (w : World) (h : ValsAt w (some ⟨g, 0, none⟩) [⟨p0, p1, p2⟩, ⟨q0, q1, q2⟩]) (hw : (⟨wk, wn, wt⟩ : VD) = zeroV) :
    Calls Try.prog 43 #[.agg #[.int .i64 5, .string ⟨#[99, 97, 116]⟩, .int .i64 nk, .int .i64 nn, .string nt, .string ⟨#[]⟩, .slice A m c], .slice (some ⟨g, 0, none⟩) 2 bc, .agg #[.int .i64 wk, .int .i64 wn, .string wt], .int .i64 10] w fun e w' => e = .returned (.bool true) ∧ Touch [] w w' := by
  have heq := fun w' => eqIn_val ⟨wk, wn, wt⟩ ⟨wk, wn, wt⟩ w'
  rw [(eqV3_iff _ _).2 rfl] at heq
  simp only at heq
  have hgd := guard_val
  obtain ⟨W, hW⟩ : ∃ W, W = ((w.alloc (.cells #[.int .i64 5, .string ⟨#[99, 97, 116]⟩, .int .i64 nk, .int .i64 nn, .string nt, .string ⟨#[]⟩, .slice A m c] 33)).alloc (.cells #[.int .i64 wk, .int .i64 wn, .string wt] 30)).alloc (.cells #[.int .i64 0, .int .i64 0, .string ⟨#[]⟩] 30) := ⟨_, rfl⟩
  have tW : Touch [] w W := by rw [hW]; exact (((Touch.refl [] w).alloc _).alloc _).alloc _
  have hE : W.heap[w.heap.size]? = some (.cells #[.int .i64 5, .string ⟨#[99, 97, 116]⟩, .int .i64 nk, .int .i64 nn, .string nt, .string ⟨#[]⟩, .slice A m c] 33) := by rw [hW]; exact (((Touch.refl [] (w.alloc (.cells #[.int .i64 5, .string ⟨#[99, 97, 116]⟩, .int .i64 nk, .int .i64 nn, .string nt, .string ⟨#[]⟩, .slice A m c] 33))).alloc _).alloc _).blk (heap_alloc_new w (.cells #[.int .i64 5, .string ⟨#[99, 97, 116]⟩, .int .i64 nk, .int .i64 nn, .string nt, .string ⟨#[]⟩, .slice A m c] 33)) (by simp)
  have hV : W.heap[w.heap.size + 1]? = some (.cells #[.int .i64 wk, .int .i64 wn, .string wt] 30) := by
    have := ((Touch.refl [] ((w.alloc (.cells #[.int .i64 5, .string ⟨#[99, 97, 116]⟩, .int .i64 nk, .int .i64 nn, .string nt, .string ⟨#[]⟩, .slice A m c] 33)).alloc (.cells #[.int .i64 wk, .int .i64 wn, .string wt] 30))).alloc (.cells #[.int .i64 0, .int .i64 0, .string ⟨#[]⟩] 30)).blk (heap_alloc_new (w.alloc (.cells #[.int .i64 5, .string ⟨#[99, 97, 116]⟩, .int .i64 nk, .int .i64 nn, .string nt, .string ⟨#[]⟩, .slice A m c] 33)) (.cells #[.int .i64 wk, .int .i64 wn, .string wt] 30)) (by simp)
    rw [World.size_alloc] at this
    rw [hW]; exact this
  have hZ : W.heap[w.heap.size + 1 + 1]? = some (.cells #[.int .i64 0, .int .i64 0, .string ⟨#[]⟩] 30) := by
    have := heap_alloc_new ((w.alloc (.cells #[.int .i64 5, .string ⟨#[99, 97, 116]⟩, .int .i64 nk, .int .i64 nn, .string nt, .string ⟨#[]⟩, .slice A m c] 33)).alloc (.cells #[.int .i64 wk, .int .i64 wn, .string wt] 30)) (.cells #[.int .i64 0, .int .i64 0, .string ⟨#[]⟩] 30)
    rw [World.size_alloc, World.size_alloc] at this
    rw [hW]; exact this
  have hg := h.touch0 tW
  have hgl0 : g < w.heap.size := Rd.lt h (by rw [flat_length vdE 3 vdE_length]; simp) g (by simp [fpo])
  have HE := Lib.hid hE; have HV := Lib.hid hV; have HZ := Lib.hid hZ; have HG := Lib.hid hg; have HW := Lib.hid hW
  have hr : ValsAt (((w.alloc (.cells #[.int .i64 5, .string ⟨#[99, 97, 116]⟩, .int .i64 nk, .int .i64 nn, .string nt, .string ⟨#[]⟩, .slice A m c] 33)).alloc (.cells #[.int .i64 wk, .int .i64 wn, .string wt] 30)).alloc (.cells #[.int .i64 0, .int .i64 0, .string ⟨#[]⟩] 30)) (some ⟨g, 0, none⟩) [⟨p0, p1, p2⟩, ⟨q0, q1, q2⟩] := h.touch0 ((((Touch.refl [] w).alloc _).alloc _).alloc _)
  obtain ⟨g0, g1, g2⟩ := vals_at hr 0 (by simp)
  obtain ⟨g3, g4, g5⟩ := vals_at hr 1 (by simp)
  simp only [List.getElem_cons_zero, List.getElem_cons_succ, Nat.zero_mul, Nat.zero_add, Nat.one_mul, Nat.reduceAdd] at g0 g1 g2 g3 g4 g5
  clear hE hV hZ hg hW h hr
  have hq0 : (p0 == 0) = false := by simpa using hp
  have hq1 : (q0 == 0) = false := by simpa using hq
  have hwr : IntKind.i64.wrap ((p2.size : Int) + (q2.size : Int)) = (p2.size : Int) + (q2.size : Int) := IntWalk.i64_in _ (by omega)
  have h64I : (64 : Int) < (p2.size : Int) + (q2.size : Int) := by omega
  have hmx : ¬ 9223372036854775807 < p2.size + q2.size := by omega
  go_enter Try.func43, Try.ntmps43
  go_wp2_with fail
  rw [← HW.out]
  clear g0 g1 g2 g3 g4 g5
  obtain ⟨g0', g1', g2'⟩ := vals_at HG.out 0 (by simp)
  obtain ⟨g3', g4', g5'⟩ := vals_at HG.out 1 (by simp)
  simp only [List.getElem_cons_zero, List.getElem_cons_succ, Nat.zero_mul, Nat.zero_add, Nat.one_mul, Nat.reduceAdd] at g2' g5'
  have g2 := TW.cell g2'
  have g5 := TW.cell g5'
  clear g0' g1' g2' g3' g4' g5'
  refine wp_region_tw W (Touch.refl _ _) (by kernel_rfl) (by kernel_rfl) ?_
  repeat (go_big_quiet_step (fail))
  refine wpQuiet_nil ?_
  rintro _ ⟨y, rfl⟩
  clear g2 g5
  cases hw
  simp only [S] at heq HV ⊢
  obtain ⟨z0, z1, z2, _⟩ := blk3 (y.t.blk HZ.out (by simp))
  obtain ⟨v0, v1, v2, _⟩ := blk3 (y.t.blk HV.out (by simp))
  go_wp2_with fail
  go_ret
  exact ⟨rfl, tW.trans0 y.t⟩

set_option maxRecDepth 100000 in
set_option maxHeartbeats 6400000 in
theorem whole_catT (nk nn : Int) (nt : ByteArray) (p0 p1 : Int) (p2 : ByteArray) (q0 q1 : Int) (q2 : ByteArray) (hp : p0 ≠ 0) (hq : q0 ≠ 0) (hs1 : p2.size ≤ 64) (hs2 : q2.size ≤ 64) (h64 : ¬ 64 < p2.size + q2.size) (wk wn : Int) (wt : ByteArray) (A : Option Addr) (m c g bc : Nat) (w : World) (h : ValsAt w (some ⟨g, 0, none⟩) [⟨p0, p1, p2⟩, ⟨q0, q1, q2⟩]) (hw : (⟨wk, wn, wt⟩ : VD) = ⟨2, 0, p2 ++ q2⟩) :
    Calls Try.prog 43 #[.agg #[.int .i64 5, .string ⟨#[99, 97, 116]⟩, .int .i64 nk, .int .i64 nn, .string nt, .string ⟨#[]⟩, .slice A m c], .slice (some ⟨g, 0, none⟩) 2 bc, .agg #[.int .i64 wk, .int .i64 wn, .string wt], .int .i64 0] w fun e w' => e = .returned (.bool true) ∧ Touch [] w w' := by
  have heq := fun w' => eqIn_val ⟨wk, wn, wt⟩ ⟨wk, wn, wt⟩ w'
  rw [(eqV3_iff _ _).2 rfl] at heq
  simp only at heq
  have hgd := guard_val
  obtain ⟨W, hW⟩ : ∃ W, W = ((w.alloc (.cells #[.int .i64 5, .string ⟨#[99, 97, 116]⟩, .int .i64 nk, .int .i64 nn, .string nt, .string ⟨#[]⟩, .slice A m c] 33)).alloc (.cells #[.int .i64 wk, .int .i64 wn, .string wt] 30)).alloc (.cells #[.int .i64 0, .int .i64 0, .string ⟨#[]⟩] 30) := ⟨_, rfl⟩
  have tW : Touch [] w W := by rw [hW]; exact (((Touch.refl [] w).alloc _).alloc _).alloc _
  have hE : W.heap[w.heap.size]? = some (.cells #[.int .i64 5, .string ⟨#[99, 97, 116]⟩, .int .i64 nk, .int .i64 nn, .string nt, .string ⟨#[]⟩, .slice A m c] 33) := by rw [hW]; exact (((Touch.refl [] (w.alloc (.cells #[.int .i64 5, .string ⟨#[99, 97, 116]⟩, .int .i64 nk, .int .i64 nn, .string nt, .string ⟨#[]⟩, .slice A m c] 33))).alloc _).alloc _).blk (heap_alloc_new w (.cells #[.int .i64 5, .string ⟨#[99, 97, 116]⟩, .int .i64 nk, .int .i64 nn, .string nt, .string ⟨#[]⟩, .slice A m c] 33)) (by simp)
  have hV : W.heap[w.heap.size + 1]? = some (.cells #[.int .i64 wk, .int .i64 wn, .string wt] 30) := by
    have := ((Touch.refl [] ((w.alloc (.cells #[.int .i64 5, .string ⟨#[99, 97, 116]⟩, .int .i64 nk, .int .i64 nn, .string nt, .string ⟨#[]⟩, .slice A m c] 33)).alloc (.cells #[.int .i64 wk, .int .i64 wn, .string wt] 30))).alloc (.cells #[.int .i64 0, .int .i64 0, .string ⟨#[]⟩] 30)).blk (heap_alloc_new (w.alloc (.cells #[.int .i64 5, .string ⟨#[99, 97, 116]⟩, .int .i64 nk, .int .i64 nn, .string nt, .string ⟨#[]⟩, .slice A m c] 33)) (.cells #[.int .i64 wk, .int .i64 wn, .string wt] 30)) (by simp)
    rw [World.size_alloc] at this
    rw [hW]; exact this
  have hZ : W.heap[w.heap.size + 1 + 1]? = some (.cells #[.int .i64 0, .int .i64 0, .string ⟨#[]⟩] 30) := by
    have := heap_alloc_new ((w.alloc (.cells #[.int .i64 5, .string ⟨#[99, 97, 116]⟩, .int .i64 nk, .int .i64 nn, .string nt, .string ⟨#[]⟩, .slice A m c] 33)).alloc (.cells #[.int .i64 wk, .int .i64 wn, .string wt] 30)) (.cells #[.int .i64 0, .int .i64 0, .string ⟨#[]⟩] 30)
    rw [World.size_alloc, World.size_alloc] at this
    rw [hW]; exact this
  have hg := h.touch0 tW
  have hgl0 : g < w.heap.size := Rd.lt h (by rw [flat_length vdE 3 vdE_length]; simp) g (by simp [fpo])
  have HE := Lib.hid hE; have HV := Lib.hid hV; have HZ := Lib.hid hZ; have HG := Lib.hid hg; have HW := Lib.hid hW
  have hr : ValsAt (((w.alloc (.cells #[.int .i64 5, .string ⟨#[99, 97, 116]⟩, .int .i64 nk, .int .i64 nn, .string nt, .string ⟨#[]⟩, .slice A m c] 33)).alloc (.cells #[.int .i64 wk, .int .i64 wn, .string wt] 30)).alloc (.cells #[.int .i64 0, .int .i64 0, .string ⟨#[]⟩] 30)) (some ⟨g, 0, none⟩) [⟨p0, p1, p2⟩, ⟨q0, q1, q2⟩] := h.touch0 ((((Touch.refl [] w).alloc _).alloc _).alloc _)
  obtain ⟨g0, g1, g2⟩ := vals_at hr 0 (by simp)
  obtain ⟨g3, g4, g5⟩ := vals_at hr 1 (by simp)
  simp only [List.getElem_cons_zero, List.getElem_cons_succ, Nat.zero_mul, Nat.zero_add, Nat.one_mul, Nat.reduceAdd] at g0 g1 g2 g3 g4 g5
  clear hE hV hZ hg hW h hr
  have hq0 : (p0 == 0) = false := by simpa using hp
  have hq1 : (q0 == 0) = false := by simpa using hq
  have hwr : IntKind.i64.wrap ((p2.size : Int) + (q2.size : Int)) = (p2.size : Int) + (q2.size : Int) := IntWalk.i64_in _ (by omega)
  have h64I : ¬ (64 : Int) < (p2.size : Int) + (q2.size : Int) := by omega
  have hmx : ¬ 9223372036854775807 < p2.size + q2.size := by omega
  have Htx := Lib.hid fun w' => text_any (p2 ++ q2) w'
  rw [← hw] at Htx
  simp only [VD.val] at Htx
  go_enter Try.func43, Try.ntmps43
  go_wp2_with fail
  rw [← HW.out]
  clear g0 g1 g2 g3 g4 g5
  obtain ⟨g0', g1', g2'⟩ := vals_at HG.out 0 (by simp)
  obtain ⟨g3', g4', g5'⟩ := vals_at HG.out 1 (by simp)
  simp only [List.getElem_cons_zero, List.getElem_cons_succ, Nat.zero_mul, Nat.zero_add, Nat.one_mul, Nat.reduceAdd] at g2' g5'
  have g2 := TW.cell g2'
  have g5 := TW.cell g5'
  clear g0' g1' g2' g3' g4' g5'
  refine wp_region_tw W (Touch.refl _ _) (by kernel_rfl) (by kernel_rfl) ?_
  repeat (go_big_quiet_step (fail))
  refine wpQuiet_nil ?_
  rintro _ ⟨y, rfl⟩
  clear g2 g5
  go_wp2_with fail
  obtain ⟨g0, g1, g2⟩ := vals_at (HG.out.touch0 y.t.drew) 0 (by simp)
  obtain ⟨g3, g4, g5⟩ := vals_at (HG.out.touch0 y.t.drew) 1 (by simp)
  simp only [List.getElem_cons_zero, List.getElem_cons_succ, Nat.zero_mul, Nat.zero_add, Nat.one_mul, Nat.reduceAdd] at g0 g1 g2 g3 g4 g5
  refine wp_region_held_drew (S := fun w' => w'.cell? ⟨g, 0, none⟩ = some (.int .i64 p0) ∧ w'.cell? ⟨g, 1, none⟩ = some (.int .i64 p1) ∧ w'.cell? ⟨g, 2, none⟩ = some (.string p2) ∧ w'.cell? ⟨g, 3, none⟩ = some (.int .i64 q0) ∧ w'.cell? ⟨g, 4, none⟩ = some (.int .i64 q1) ∧ w'.cell? ⟨g, 5, none⟩ = some (.string q2)) (by kernel_rfl) ⟨g0, g1, g2, g3, g4, g5⟩ (fun hHeld => ?_)
  refine take_d (i := 0) (d := 13) (v := ?_) rfl rfl (by kernel_rfl) (by kernel_rfl) (by kernel_rfl) (fun _ _ _ h => h) (Or.inl ⟨by rfl, ?_⟩) (by assumption) ?_
  rotate_left
  · intro w hSw; (try dsimp only at hSw); go_simp; (try with_reducible rfl)
  try simp only [Act.put, List.setIfInBounds_toArray, List.set_cons_zero, List.set_cons_succ]
  refine take_d (i := 1) (d := 14) (v := ?_) rfl rfl (by kernel_rfl) (by kernel_rfl) (by kernel_rfl) (fun _ _ _ h => h) (Or.inl ⟨by rfl, ?_⟩) (by assumption) ?_
  rotate_left
  · intro w hSw; (try dsimp only at hSw); go_simp; (try with_reducible rfl)
  try simp only [Act.put, List.setIfInBounds_toArray, List.set_cons_zero, List.set_cons_succ]
  refine take_d (i := 2) (d := 15) (v := ?_) rfl rfl (by kernel_rfl) (by kernel_rfl) (by kernel_rfl) (fun _ _ _ h => h) (Or.inl ⟨by rfl, ?_⟩) (by assumption) ?_
  rotate_left
  · intro w hSw; (try dsimp only at hSw); go_simp; (try with_reducible rfl)
  try simp only [Act.put, List.setIfInBounds_toArray, List.set_cons_zero, List.set_cons_succ]
  refine take_d (i := 3) (d := 16) (v := ?_) rfl rfl (by kernel_rfl) (by kernel_rfl) (by kernel_rfl) (fun _ _ _ h => h) (Or.inl ⟨by rfl, ?_⟩) (by assumption) ?_
  rotate_left
  · intro w hSw; (try dsimp only at hSw); go_simp; (try with_reducible rfl)
  try simp only [Act.put, List.setIfInBounds_toArray, List.set_cons_zero, List.set_cons_succ]
  refine take_d (i := 4) (d := 17) (v := ?_) rfl rfl (by kernel_rfl) (by kernel_rfl) (by kernel_rfl) (fun _ _ _ h => h) (Or.inl ⟨by rfl, ?_⟩) (by assumption) ?_
  rotate_left
  · intro w hSw; (try dsimp only at hSw); go_simp; (try with_reducible rfl)
  try simp only [Act.put, List.setIfInBounds_toArray, List.set_cons_zero, List.set_cons_succ]
  refine take_d (i := 5) (d := 18) (v := ?_) rfl rfl (by kernel_rfl) (by kernel_rfl) (by kernel_rfl) (fun _ _ _ h => h) (Or.inl ⟨by rfl, ?_⟩) (by assumption) ?_
  rotate_left
  · intro w hSw; (try dsimp only at hSw); go_simp; (try with_reducible rfl)
  try simp only [Act.put, List.setIfInBounds_toArray, List.set_cons_zero, List.set_cons_succ]
  refine take_d (i := 6) (d := 19) (v := ?_) rfl rfl (by kernel_rfl) (by kernel_rfl) (by kernel_rfl) (fun _ _ _ h => h) (Or.inl ⟨by rfl, ?_⟩) (by assumption) ?_
  rotate_left
  · intro w hSw; (try dsimp only at hSw); go_simp; (try with_reducible rfl)
  try simp only [Act.put, List.setIfInBounds_toArray, List.set_cons_zero, List.set_cons_succ]
  refine take_d (i := 7) (d := 20) (v := ?_) rfl rfl (by kernel_rfl) (by kernel_rfl) (by kernel_rfl) (fun _ _ _ h => h) (Or.inl ⟨by rfl, ?_⟩) (by assumption) ?_
  rotate_left
  · intro w hSw; (try dsimp only at hSw); go_simp; (try with_reducible rfl)
  try simp only [Act.put, List.setIfInBounds_toArray, List.set_cons_zero, List.set_cons_succ]
  refine take_d (i := 8) (d := 21) (v := ?_) rfl rfl (by kernel_rfl) (by kernel_rfl) (by kernel_rfl) (fun _ _ _ h => h) (Or.inl ⟨by rfl, ?_⟩) (by assumption) ?_
  rotate_left
  · intro w hSw; (try dsimp only at hSw); go_simp; (try with_reducible rfl)
  try simp only [Act.put, List.setIfInBounds_toArray, List.set_cons_zero, List.set_cons_succ]
  refine wpAnyH_ready (rs := [9]) (by kernel_rfl) (by simp) ?_
  refine AllReadyH.cons rfl (fun K hK => ?_) AllReadyH.nil
  go_simp
  go_at_call 64
  refine (Htx.out _).mono ?_
  rintro e w2 ⟨rfl, u2⟩
  have t2 := y.t.drew.trans0 u2
  (try go_wp2_with fail)
  obtain ⟨l0, l1, l2⟩ := vals_at (HG.out.touch0 t2) 0 (by simp)
  obtain ⟨l3, l4, l5⟩ := vals_at (HG.out.touch0 t2) 1 (by simp)
  simp only [List.getElem_cons_zero, List.getElem_cons_succ, Nat.zero_mul, Nat.zero_add, Nat.one_mul, Nat.reduceAdd] at l0 l1 l2 l3 l4 l5
  refine hK.out _ _ ⟨l0, l1, l2, l3, l4, l5⟩ (fun _hH => ?_)
  clear hK K
  try simp only [Act.put, List.setIfInBounds_toArray, List.set_cons_zero, List.set_cons_succ]
  obtain ⟨z0, z1, z2, f0, f1, f2⟩ := blk3 (t2.blk HZ.out (by simp))
  obtain ⟨s1, s2⟩ := out3 (t2.blk HZ.out (by simp)) (.int .i64 wk) (.int .i64 wn) (.string wt)
  have hgS := RdK.touch (HG.out.touch0 t2) s2 (fun b hb hm => by simp [fpo] at hb hm; omega)
  obtain ⟨k0, k1, k2⟩ := vals_at hgS 0 (by simp)
  obtain ⟨k3, k4, k5⟩ := vals_at hgS 1 (by simp)
  simp only [List.getElem_cons_zero, List.getElem_cons_succ, Nat.zero_mul, Nat.zero_add, Nat.one_mul, Nat.reduceAdd] at k0 k1 k2 k3 k4 k5
  refine wpAnyH_ready (rs := [10]) (by kernel_rfl) (by simp) ?_
  refine AllReadyH.cons rfl (fun K hK => ?_) AllReadyH.nil
  go_simp
  (try go_wp2_with fail)
  refine hK.out _ _ ⟨k0, k1, k2, k3, k4, k5⟩ (fun _hH => ?_)
  clear hK K
  try simp only [Act.put, List.setIfInBounds_toArray, List.set_cons_zero, List.set_cons_succ]
  refine wpAnyH_done (by kernel_rfl) ?_ _
  obtain ⟨y0, y1, y2, _⟩ := blk3 s1
  obtain ⟨v0, v1, v2, _⟩ := blk3 (s2.blk (t2.blk HV.out (by simp)) (by simp))
  go_wp2_with fail
  go_ret
  exact ⟨rfl, (tW.trans0 t2).trans s2 (fun b hb => .inr (by simp at hb; omega))⟩
end Go.Proofs.Ytlkckkagoommaaa
