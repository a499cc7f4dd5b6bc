/- Part 8 of the texts of this proof, one behind the other; each begins with its own sentence. No condition beyond those that its theorems state. -/
import Derived.Test.YtafoklilkdnepaaGreatDoorRm7
import Derived.Laws.StructEq
/- What evaluating a plan leaves in memory; relop.Plan.eval at scans. For every sources. -/
namespace Go.Proofs.YtafoklilkdnepaaGreatDoor
open Go.RowKit

theorem cmpI_zero (a b : Int) (h : Lib.compareInt a b = 0) : a = b := by
  unfold Lib.compareInt at h
  by_cases h1 : a < b
  · rw [if_pos h1] at h; cases h
  · rw [if_neg h1] at h
    by_cases h2 : a = b
    · exact h2
    · exfalso
      split at h <;> first | omega | cases h
theorem cmpB_zero : ∀ a b : List UInt8, Lib.compareBytes a b = 0 → a = b
  | [], [] => fun _ => rfl
  | [], _ :: _ => fun h => by simp [Lib.compareBytes] at h
  | _ :: _, [] => fun h => by simp [Lib.compareBytes] at h
  | x :: a, y :: b => fun h => by
    rw [Lib.compareBytes] at h
    by_cases h1 : x < y
    · rw [if_pos h1] at h; cases h
    · rw [if_neg h1] at h
      by_cases h2 : y < x
      · rw [if_pos h2] at h; cases h
      · rw [if_neg h2] at h
        have h3 := mt UInt8.lt_iff_toNat_lt.2 h1
        have h4 := mt UInt8.lt_iff_toNat_lt.2 h2
        have e : x = y := UInt8.toNat_inj.1 (by omega)
        rw [e, cmpB_zero a b h]
theorem cmpVV_if (a b : VD) : cmpVV a b = if Lib.compareInt a.kind b.kind = 0 then (if Lib.compareInt a.num b.num = 0 then Lib.compareBytes a.text.data.toList b.text.data.toList else Lib.compareInt a.num b.num) else Lib.compareInt a.kind b.kind := by
  unfold cmpVV
  simp only [orV]
  split
  · split
    · by_cases h : Lib.compareBytes a.text.data.toList b.text.data.toList = 0
      · rw [if_pos h, h]
      · rw [if_neg h]
    · rfl
  · rfl
theorem cmpVV_zero (a b : VD) (h : cmpVV a b = 0) : a = b := by
  rw [cmpVV_if] at h
  by_cases h1 : Lib.compareInt a.kind b.kind = 0
  · rw [if_pos h1] at h
    by_cases h2 : Lib.compareInt a.num b.num = 0
    · rw [if_pos h2] at h
      obtain ⟨ak, an, at_⟩ := a
      obtain ⟨bk, bn, bt⟩ := b
      dsimp only at h1 h2 h
      rw [cmpI_zero _ _ h1, cmpI_zero _ _ h2, bs_eq (cmpB_zero _ _ h)]
    · rw [if_neg h2] at h; exact absurd h h2
  · rw [if_neg h1] at h; exact absurd h h1
theorem cmpRV_zero : ∀ (a b : List VD), cmpRV a b = 0 → a = b := by
  intro a
  induction a with
  | nil => intro b h; cases b with
    | nil => rfl
    | cons y b => simp [cmpRV] at h
  | cons x a ih =>
    intro b h
    cases b with
    | nil => simp [cmpRV] at h
    | cons y b =>
      rw [cmpRV] at h
      by_cases hv : cmpVV x y = 0
      · rw [if_pos hv] at h
        rw [ih b h, cmpVV_zero x y hv]
      · rw [if_neg hv] at h; exact absurd h hv
theorem sorted_unique : ∀ {l1 l2 : List (List VD)}, l1.Perm l2 → l1.Pairwise (fun a b => cmpRV a b ≤ 0) → l2.Pairwise (fun a b => cmpRV a b ≤ 0) → l1 = l2
  | [], l2, h, _, _ => (List.nil_perm.1 h).symm
  | a :: l1, [], h, _, _ => absurd h.length_eq (by simp)
  | a :: l1, b :: l2, h, h1, h2 => by
    have hab : a = b := by
      rw [List.pairwise_cons] at h1 h2
      have ha : a ∈ b :: l2 := h.mem_iff.1 List.mem_cons_self
      have hb : b ∈ a :: l1 := h.mem_iff.2 List.mem_cons_self
      rcases List.mem_cons.1 ha with q | q
      · exact q
      · rcases List.mem_cons.1 hb with q2 | q2
        · exact q2.symm
        · have e1 := h2.1 a q
          have e2 := h1.1 b q2
          have e3 := cmpRV_neg a b
          exact cmpRV_zero a b (by omega)
    subst hab
    rw [sorted_unique (List.Perm.cons_inv h) (List.pairwise_cons.1 h1).2 (List.pairwise_cons.1 h2).2]
/-- rows in their order -/
def sortR (rows : List (List VD)) : List (List VD) := rows.mergeSort fun a b => decide (cmpRV a b ≤ 0)
theorem sortR_of {rows out : List (List VD)} (h : SortedOf rows out) : out = sortR rows := by
  have hp : (sortR rows).Perm rows := List.mergeSort_perm _ _
  have hs : (sortR rows).Pairwise fun a b => cmpRV a b ≤ 0 := by
    have := List.pairwise_mergeSort (le := fun a b : List VD => decide (cmpRV a b ≤ 0))
      (fun a b c h1 h2 => by
        have := tr_row a b c (of_decide_eq_true h1) (of_decide_eq_true h2)
        exact decide_eq_true this.1)
      (fun a b => by
        have := cmpRV_neg a b
        by_cases q : cmpRV a b ≤ 0
        · simp [q]
        · simp; right; omega) rows
    exact this.imp fun h => of_decide_eq_true h
  exact sorted_unique (h.1.trans hp.symm) h.2 hs
/-- a table of the calls' own, all of whose blocks lie between two bounds -/
structure TabU (lo hi : Nat) (w : World) (s r : SL) (cs : List CD) (rows : List (List VD)) : Prop where
  n : s.n = cs.length
  le : s.n ≤ s.c
  cols : ColsAt w s.A cs
  cf : ∀ b ∈ fpo s.A, lo ≤ b ∧ b < hi
  m : r.n = rows.length
  rws : ∃ sl, SlsAt w sl rows ∧ OwnK 33 1 slE w r.A r.c sl ∧ ∀ s ∈ sl, ∀ b ∈ fpo s.A, b ∉ fpo r.A ∧ lo ≤ b ∧ b < hi
  rf : ∀ b ∈ fpo r.A, lo ≤ b ∧ b < hi
  apart : ∀ b ∈ fpo s.A, b ∉ fpo r.A
theorem TabU.of {base : Nat} {w : World} {s r : SL} {cs : List CD} {rows : List (List VD)} (h : NewTab base w s r cs rows) : TabU base w.heap.size w s r cs rows := by
  obtain ⟨sl, h1, h2, h3⟩ := h.rws
  exact ⟨h.n, h.le, h.cols, h.cf, h.m, ⟨sl, h1, h2, fun s hs b hb => ⟨(h3 s hs b hb).1, (h3 s hs b hb).2.2, (h3 s hs b hb).2.1⟩⟩, fun b hb => ⟨h.rf b hb, h2.lt b hb⟩, h.apart⟩
theorem TabU.touch {lo hi : Nat} {w w' : World} {s r : SL} {cs : List CD} {rows : List (List VD)} {fp : List Nat} (h : TabU lo hi w s r cs rows) (ht : Touch fp w w') (hf : ∀ b ∈ fp, b < lo ∨ hi ≤ b) : TabU lo hi w' s r cs rows := by
  obtain ⟨sl, h1, h2, h3⟩ := h.rws
  refine ⟨h.n, h.le, RdK.touch h.cols ht (fun b hb hm => ?_), h.cf, h.m, ⟨sl, h1.touch ht (fun s hs b hb hm => ?_), h2.touch ht (fun b hb hm => ?_), h3⟩, h.rf, h.apart⟩
  · have := h.cf b hb; have := hf b hm; omega
  · have := (h3 s hs b hb).2; have := hf b hm; omega
  · have := h.rf b hb; have := hf b hm; omega
theorem TabU.tab {lo hi : Nat} {w : World} {s r : SL} {cs : List CD} {rows : List (List VD)} (h : TabU lo hi w s r cs rows) : TabAt w s r cs rows := by
  obtain ⟨sl, h1, h2, _⟩ := h.rws
  exact ⟨h.n, h.le, h.cols, h.m, sl, h1, h2.rd⟩
/-- what an evaluation tells: an error, or a table in new memory -/
def EvPost (v : Int × List CD × List (List VD)) (w : World) (e : Ending) (w' : World) : Prop := ∃ s r : SL, e = .returned (.tuple #[.agg #[.slice s.A s.n s.c, .slice r.A r.n r.c], .int .i64 v.1]) ∧ NewTab w.heap.size w' s r v.2.1 v.2.2 ∧ Touch [] w w'
theorem NewTab.nil (base : Nat) (w : World) : NewTab base w ⟨none, 0, 0⟩ ⟨none, 0, 0⟩ [] [] := ⟨rfl, Nat.le_refl _, RdK.nil _ _ _, by simp [fpo], rfl, OwnR.nil _ _ _, by simp [fpo], by simp [fpo]⟩
theorem EvPost.err {w w' : World} (k : Int) (ht : Touch [] w w') : EvPost (k, [], []) w (.returned (.tuple #[.agg #[.slice none 0 0, .slice none 0 0], .int .i64 k])) w' :=
  ⟨⟨none, 0, 0⟩, ⟨none, 0, 0⟩, rfl, NewTab.nil _ _, ht⟩
/-- what a plan's evaluation tells, wherever it is asked for -/
def EvalC (w : World) (I : Option Addr) (ic n : Nat) (x : PC) (v : Int × List CD × List (List VD)) : Prop := ∀ w', Touch [] w w' → Calls Tryz.prog 30 #[x.val, .slice I n ic] w' (EvPost v w')

set_option maxRecDepth 40000 in
set_option maxHeartbeats 6400000 in
theorem eval_scan (x : PC) (hk0 : x.kind = 1) (ha0 : x.args.n = 0) (I : Option Addr) (ic n : Nat) (l : List SrcD) (hn : l.length = n) (hl : n ≤ 1000000) (k : Nat) (hkl : k < l.length) (hs : srcI l x.name = some k) (hcl : l[k].cs.length ≤ 1000000) (hrl : l[k].rows.length ≤ 1000000) (hrr : RowsLe l[k].rows) (w : World) (h : SrcsAt w I l) :
    Calls Tryz.prog 30 #[x.val, .slice I n ic] w (EvPost (0, l[k].cs, l[k].rows) w) := by
  obtain ⟨k0, k1, ⟨A2, n2, c2'⟩, ⟨⟨ck, cn, ⟨cvk, cvn, cvt⟩, cop⟩, CA, cnn, cc⟩, ⟨NA, nn, nc⟩, ⟨EA, en, ec⟩, ⟨OA, ol, oc⟩, ⟨GA, gn, gc⟩, ⟨BA, bn, bc⟩, count⟩ := x
  dsimp only at hk0 ha0 hs ⊢
  subst hk0 ha0
  simp only [PC.val]
  obtain ⟨PO, hPO⟩ : ∃ PO, PO = EvPost (0, l[k].cs, l[k].rows) w := ⟨_, rfl⟩
  rw [← hPO]
  have HPO := Lib.hid hPO
  obtain ⟨W, hW⟩ : ∃ W, W = (w.alloc (.cells #[.int .i64 1, .string k1, .slice A2 0 c2', .int .i64 ck, .string cn, .int .i64 cvk, .int .i64 cvn, .string cvt, .string cop, .slice CA cnn cc, .slice NA nn nc, .slice EA en ec, .slice OA ol oc, .slice GA gn gc, .slice BA bn bc, .int .i64 count] 49)).alloc (.cells #[.slice none 0 0, .slice none 0 0] 27) := ⟨_, rfl⟩
  have t0 : Touch [] w W := hW ▸ ((Touch.refl [] w).alloc _).alloc _
  have hb0 := hW ▸ ((Touch.refl [] (w.alloc (.cells #[.int .i64 1, .string k1, .slice A2 0 c2', .int .i64 ck, .string cn, .int .i64 cvk, .int .i64 cvn, .string cvt, .string cop, .slice CA cnn cc, .slice NA nn nc, .slice EA en ec, .slice OA ol oc, .slice GA gn gc, .slice BA bn bc, .int .i64 count] 49))).alloc (.cells #[.slice none 0 0, .slice none 0 0] 27)).blk (heap_alloc_new w _) (by simp)
  have hbt : W.heap[w.heap.size + 1]? = some (.cells #[.slice none 0 0, .slice none 0 0] 27 (0, 0)) := by
    have := heap_alloc_new (w.alloc (.cells #[.int .i64 1, .string k1, .slice A2 0 c2', .int .i64 ck, .string cn, .int .i64 cvk, .int .i64 cvn, .string cvt, .string cop, .slice CA cnn cc, .slice NA nn nc, .slice EA en ec, .slice OA ol oc, .slice GA gn gc, .slice BA bn bc, .int .i64 count] 49)) (.cells #[.slice none 0 0, .slice none 0 0] 27)
    rw [World.size_alloc] at this
    exact hW ▸ this
  have hWs : W.heap.size = w.heap.size + 2 := by rw [hW]; simp
  have q0 : W.cell? ⟨w.heap.size, 0, none⟩ = some (.int .i64 1) := cell_blk hb0 rfl
  have q1 : W.cell? ⟨w.heap.size, 1, none⟩ = some (.string k1) := cell_blk hb0 rfl
  have q2 : W.cell? ⟨w.heap.size, 2, none⟩ = some (.slice A2 0 c2') := cell_blk hb0 rfl
  have HW := Lib.hid hW
  have HT0 := Lib.hid (And.intro t0 (And.intro hbt hWs))
  have Hs := Lib.hid (source_yes I ic n l hn k1 W (h.touch0 t0) (by omega) k hkl hs)
  have Hcp := Lib.hid fun (s1 r1 : SL) w' (t : TabAt w' s1 r1 l[k].cs l[k].rows) => copy_any s1 r1 _ _ hcl hrl hrr w' t
  clear hs h hb0 hbt hW t0 hPO hcl hrl hrr hWs
  go_enter Tryz.func30, Tryz.ntmps30
  go_wp2_with fail
  rw [← HW.out]
  refine wp_loop_rounds 1 ?_
  rw [rounds_succ]
  go_wp2_with fail
  refine Hs.out.mono ?_
  rintro e w1 ⟨s1, r1, rfl, htab, t1⟩
  obtain ⟨SA, sn, sc⟩ := s1
  obtain ⟨RA, rn, rc⟩ := r1
  have ta := (Touch.refl [] w1).alloc (.cells #[.slice SA sn sc, .slice RA rn rc] 27)
  have hcp := Hcp.out _ _ _ (htab.touch0 ta)
  have HX := Lib.hid (And.intro (t1.trans0 ta) (ta.blk (t1.blk HT0.out.2.1 (by simp)) (by simp)))
  have Hc2 := Lib.hid hcp
  clear t1 ta hcp htab Hs
  go_wp2_with fail
  refine Hc2.out.mono ?_
  rintro e w2 ⟨⟨sA, sn', sc'⟩, ⟨rA, rn', rc'⟩, rfl, hnt, t2⟩
  obtain ⟨z0, z1, y0, y1⟩ := blk2 (t2.blk HX.out.2 (by simp))
  have HY := Lib.hid (And.intro hnt (And.intro t2 (t2.blk HX.out.2 (by simp))))
  clear hnt t2
  go_wp2_with fail
  obtain ⟨hnt, t2, hr2⟩ := HY.out
  have hs1 := HX.out.1.size
  have hs0 := HT0.out.2.2
  have tq := touch2 w2 (w.heap.size + 1) (.slice sA sn' sc') (.slice rA rn' rc')
  refine bodyPost_ret (results_cell_two rfl _ _ (w.heap.size + 1) _ _ _ _ rfl (set2 hr2 rfl _ _) Tryz.underlying27 rfl rfl) rfl ?_
  rw [HPO.out]
  refine ⟨⟨sA, sn', sc'⟩, ⟨rA, rn', rc'⟩, rfl, ?_, ((HT0.out.1.trans0 HX.out.1).trans0 t2).trans tq (fun b hb => .inr (by simp at hb; omega))⟩
  have hn3 : NewTab W.heap.size w2 _ _ _ _ := hnt.base hs1
  refine ⟨hn3.n, hn3.le, RdK.touch hn3.cols tq (fun b hb hm => ?_), fun b hb => ⟨?_, ?_⟩, hn3.m, ?_, fun b hb => ?_, hn3.apart⟩
  · have := (hn3.cf b hb).1; simp at hm; omega
  · have := (hn3.cf b hb).1; omega
  · have := (hn3.cf b hb).2; have := tq.size; omega
  · exact (hn3.rws.touch tq (fun b hb => by simp at hb; omega) (fun b hb => hn3.rf b hb)).base (by omega)
  · have := hn3.rf b hb; omega
end Go.Proofs.YtafoklilkdnepaaGreatDoor

/- relop.Plan.rows: a plan's rows by the tables of its Args: at joins, at groups of an empty table. (gen_rlrows.py) -/
namespace Go.Proofs.YtafoklilkdnepaaGreatDoor
open Go.RowKit

/-- tables in a row -/
def tbE (t : SL × SL) : List Value := [.slice t.1.A t.1.n t.1.c, .slice t.2.A t.2.n t.2.c]
theorem tbE_length (t : SL × SL) : (tbE t).length = 2 := rfl
theorem tbE_one (t : SL × SL) : ∀ u ∈ tbE t, u.oneCell' = true := by
  intro u hu
  simp only [tbE, List.mem_cons, List.not_mem_nil, or_false] at hu
  rcases hu with rfl | rfl <;> rfl
/-- rows, or an error -/
def RowsPost (rv : Int × List (List VD)) (w : World) (e : Ending) (w' : World) : Prop := ∃ r : SL, e = .returned (.tuple #[.slice r.A r.n r.c, .int .i64 rv.1]) ∧ r.n = rv.2.length ∧ RowsAt w' r.A rv.2 ∧ Touch [] w w'
def joinV (left : Bool) (wide : Nat) (rowsA rowsB : List (List VD)) (at_ bt : List Nat) : Int × List (List VD) := if 4096 < (joinL left wide rowsA rowsB at_ bt).length then (31, []) else (0, joinL left wide rowsA rowsB at_ bt)
theorem JoinP.post {left : Bool} {wide : Nat} {rowsA rowsB : List (List VD)} {at_ bt : List Nat} {w : World} {e : Ending} {w' : World} (h : JoinP left wide rowsA rowsB at_ bt w e w') : RowsPost (joinV left wide rowsA rowsB at_ bt) w e w' := by
  obtain ⟨h1, h2⟩ := h
  unfold joinV
  by_cases hb : 4096 < (joinL left wide rowsA rowsB at_ bt).length
  · rw [if_pos hb] at h2
    rw [if_pos hb]
    exact ⟨⟨none, 0, 0⟩, h2, rfl, ⟨[], ⟨rfl, fun i h => absurd h (by simp)⟩, RdK.nil _ _ _⟩, h1⟩
  · rw [if_neg hb] at h2
    rw [if_neg hb]
    obtain ⟨B, c, he, hr⟩ := h2
    exact ⟨⟨B, _, c⟩, he, rfl, hr, h1⟩

theorem keep20 {w w' : World} (ht : Touch [] w w') {a0 a1 a2 a3 a4 a5 a6 a7 a8 a9 a10 a11 a12 a13 a14 a15 a16 a17 a18 a19 : Addr} {v0 v1 v2 v3 v4 v5 v6 v7 v8 v9 v10 v11 v12 v13 v14 v15 v16 v17 v18 v19 : Value} (h : w.cell? a0 = some v0 ∧ w.cell? a1 = some v1 ∧ w.cell? a2 = some v2 ∧ w.cell? a3 = some v3 ∧ w.cell? a4 = some v4 ∧ w.cell? a5 = some v5 ∧ w.cell? a6 = some v6 ∧ w.cell? a7 = some v7 ∧ w.cell? a8 = some v8 ∧ w.cell? a9 = some v9 ∧ w.cell? a10 = some v10 ∧ w.cell? a11 = some v11 ∧ w.cell? a12 = some v12 ∧ w.cell? a13 = some v13 ∧ w.cell? a14 = some v14 ∧ w.cell? a15 = some v15 ∧ w.cell? a16 = some v16 ∧ w.cell? a17 = some v17 ∧ w.cell? a18 = some v18 ∧ w.cell? a19 = some v19) : w'.cell? a0 = some v0 ∧ w'.cell? a1 = some v1 ∧ w'.cell? a2 = some v2 ∧ w'.cell? a3 = some v3 ∧ w'.cell? a4 = some v4 ∧ w'.cell? a5 = some v5 ∧ w'.cell? a6 = some v6 ∧ w'.cell? a7 = some v7 ∧ w'.cell? a8 = some v8 ∧ w'.cell? a9 = some v9 ∧ w'.cell? a10 = some v10 ∧ w'.cell? a11 = some v11 ∧ w'.cell? a12 = some v12 ∧ w'.cell? a13 = some v13 ∧ w'.cell? a14 = some v14 ∧ w'.cell? a15 = some v15 ∧ w'.cell? a16 = some v16 ∧ w'.cell? a17 = some v17 ∧ w'.cell? a18 = some v18 ∧ w'.cell? a19 = some v19 := by
  obtain ⟨h0, h1, h2, h3, h4, h5, h6, h7, h8, h9, h10, h11, h12, h13, h14, h15, h16, h17, h18, h19⟩ := h
  exact ⟨ht.cell h0 (by simp), ht.cell h1 (by simp), ht.cell h2 (by simp), ht.cell h3 (by simp), ht.cell h4 (by simp), ht.cell h5 (by simp), ht.cell h6 (by simp), ht.cell h7 (by simp), ht.cell h8 (by simp), ht.cell h9 (by simp), ht.cell h10 (by simp), ht.cell h11 (by simp), ht.cell h12 (by simp), ht.cell h13 (by simp), ht.cell h14 (by simp), ht.cell h15 (by simp), ht.cell h16 (by simp), ht.cell h17 (by simp), ht.cell h18 (by simp), ht.cell h19 (by simp)⟩
set_option maxRecDepth 40000 in
set_option maxHeartbeats 6400000 in
theorem rows_join (x : PC) (hk0 : x.kind = 4) (on : List (ByteArray × ByteArray)) (ho : x.on.n = on.length) (hlo : on.length ≤ 1000) (L : Option Addr) (lc : Nat) (ta tb : SL × SL) (csA csB : List CD) (rowsA rowsB : List (List VD)) (w : World)
    (hL : RdK tbE w L [ta, tb]) (hTA : TabAt w ta.1 ta.2 csA rowsA) (hTB : TabAt w tb.1 tb.2 csB rowsB) (hr : RdK prE w x.on.A on) (hgA : GoodR w rowsA csA.length) (hgB : GoodR w rowsB csB.length)
    (hA0 : 0 < csA.length) (hB0 : 0 < csB.length) (hA1 : csA.length ≤ 16) (hB1 : csB.length ≤ 16) (hA2 : rowsA.length ≤ 4096) (hB2 : rowsB.length ≤ 4096) :
    Calls Tryz.prog 65 #[x.val, .slice L 2 lc] w (RowsPost (joinV false csB.length rowsA rowsB (placesV csA (on.map (·.1))) (placesV csB (on.map (·.2)))) w) := by
  obtain ⟨⟨SA, sn, sc⟩, ⟨RA, rn, rc⟩⟩ := ta
  obtain ⟨⟨SB, tn, tc⟩, ⟨RB, un, uc⟩⟩ := tb
  obtain ⟨k0, k1, ⟨A2, n2, c2'⟩, ⟨⟨ck, cn, ⟨cvk, cvn, cvt⟩, cop⟩, CA, cnn, cc⟩, ⟨NA, nn, nc⟩, ⟨EA, en, ec⟩, ⟨OA, ol, oc⟩, ⟨GA, gn, gc⟩, ⟨BA, bn, bc⟩, count⟩ := x
  dsimp only at hk0 ho hr hTA hTB
  subst hk0
  obtain ⟨ad, bl, bo, rfl, hadd0, hc0⟩ := RdK.cells hL 2 tbE_length (by omega) 0 (by simp)
  obtain ⟨ad', bl', bo', e', hadd1, hc1⟩ := RdK.cells hL 2 tbE_length (by omega) 1 (by simp)
  obtain rfl : ad = ad' := by injection e'
  have l0 := hc0 0 _ rfl
  have l1 := hc0 1 _ rfl
  have l2 := hc1 0 _ rfl
  have l3 := hc1 1 _ rfl
  simp only [Nat.zero_mul, Nat.one_mul, Nat.add_zero] at hadd0 hadd1 l0 l1 l2 l3
  simp only [List.getElem_cons_zero, List.getElem_cons_succ] at l0 l1 l2 l3
  have Hj := Lib.hid fun w' (t : Touch [] w w') => (join_no ⟨4, k1, ⟨A2, n2, c2'⟩, ⟨⟨ck, cn, ⟨cvk, cvn, cvt⟩, cop⟩, CA, cnn, cc⟩, ⟨NA, nn, nc⟩, ⟨EA, en, ec⟩, ⟨OA, ol, oc⟩, ⟨GA, gn, gc⟩, ⟨BA, bn, bc⟩, count⟩ false rfl rfl on ho hlo ⟨SA, sn, sc⟩ ⟨RA, rn, rc⟩ ⟨SB, tn, tc⟩ ⟨RB, un, uc⟩ csA csB rowsA rowsB w' (hTA.touch0 t) (hTB.touch0 t) (RdK.touch0 hr t) (hgA.touch0 t) (hgB.touch0 t) hA0 hB0 hA1 hB1 hA2 hB2).mono fun e w'' h => JoinP.post h
  simp only [PC.val] at *
  obtain ⟨V, hV⟩ : ∃ V, V = joinV false csB.length rowsA rowsB (placesV csA (on.map (·.1))) (placesV csB (on.map (·.2))) := ⟨_, rfl⟩
  rw [← hV] at Hj ⊢
  obtain ⟨W, hW⟩ : ∃ W, W = w.alloc (.cells #[.int .i64 4, .string k1, .slice A2 n2 c2', .int .i64 ck, .string cn, .int .i64 cvk, .int .i64 cvn, .string cvt, .string cop, .slice CA cnn cc, .slice NA nn nc, .slice EA en ec, .slice OA ol oc, .slice GA gn gc, .slice BA bn bc, .int .i64 count] 49) := ⟨_, rfl⟩
  have t0 : Touch [] w W := hW ▸ (Touch.refl [] w).alloc _
  have hb0 := hW ▸ heap_alloc_new w (.cells #[.int .i64 4, .string k1, .slice A2 n2 c2', .int .i64 ck, .string cn, .int .i64 cvk, .int .i64 cvn, .string cvt, .string cop, .slice CA cnn cc, .slice NA nn nc, .slice EA en ec, .slice OA ol oc, .slice GA gn gc, .slice BA bn bc, .int .i64 count] 49)
  have l0d := t0.drew.cell l0 (by simp)
  have l1d := t0.drew.cell l1 (by simp)
  have l2d := t0.drew.cell l2 (by simp)
  have l3d := t0.drew.cell l3 (by simp)
  obtain ⟨p0, p1, p2, p3, p4, p5, p6, p7, p8, p9, p10, p11, p12, p13, p14, p15⟩ := blk16 ((Touch.refl [] W).drew.blk hb0 (by simp))
  have HP : Hid (W.drew.cell? ⟨w.heap.size, 0, none⟩ = some (.int .i64 4) ∧ W.drew.cell? ⟨w.heap.size, 1, none⟩ = some (.string k1) ∧ W.drew.cell? ⟨w.heap.size, 2, none⟩ = some (.slice A2 n2 c2') ∧ W.drew.cell? ⟨w.heap.size, 3, none⟩ = some (.int .i64 ck) ∧ W.drew.cell? ⟨w.heap.size, 4, none⟩ = some (.string cn) ∧ W.drew.cell? ⟨w.heap.size, 5, none⟩ = some (.int .i64 cvk) ∧ W.drew.cell? ⟨w.heap.size, 6, none⟩ = some (.int .i64 cvn) ∧ W.drew.cell? ⟨w.heap.size, 7, none⟩ = some (.string cvt) ∧ W.drew.cell? ⟨w.heap.size, 8, none⟩ = some (.string cop) ∧ W.drew.cell? ⟨w.heap.size, 9, none⟩ = some (.slice CA cnn cc) ∧ W.drew.cell? ⟨w.heap.size, 10, none⟩ = some (.slice NA nn nc) ∧ W.drew.cell? ⟨w.heap.size, 11, none⟩ = some (.slice EA en ec) ∧ W.drew.cell? ⟨w.heap.size, 12, none⟩ = some (.slice OA ol oc) ∧ W.drew.cell? ⟨w.heap.size, 13, none⟩ = some (.slice GA gn gc) ∧ W.drew.cell? ⟨w.heap.size, 14, none⟩ = some (.slice BA bn bc) ∧ W.drew.cell? ⟨w.heap.size, 15, none⟩ = some (.int .i64 count) ∧ W.drew.cell? ⟨bl, bo, none⟩ = some (.slice SA sn sc) ∧ W.drew.cell? ⟨bl, bo + 1, none⟩ = some (.slice RA rn rc) ∧ W.drew.cell? ⟨bl', bo', none⟩ = some (.slice SB tn tc) ∧ W.drew.cell? ⟨bl', bo' + 1, none⟩ = some (.slice RB un uc)) := Lib.hid ⟨p0, p1, p2, p3, p4, p5, p6, p7, p8, p9, p10, p11, p12, p13, p14, p15, l0d, l1d, l2d, l3d⟩
  have HW := Lib.hid hW
  have HT0 := Lib.hid t0.drew
  clear ho hr hTA hTB hgA hgB hL hc0 hc1 hV hW t0 l0 l1 l2 l3 e' hb0 l0d l1d l2d l3d p0 p1 p2 p3 p4 p5 p6 p7 p8 p9 p10 p11 p12 p13 p14 p15
  go_enter Tryz.func65, Tryz.ntmps65
  go_wp2_with fail
  rw [← HW.out]
  go_region_held3 (fun w' => w'.cell? ⟨w.heap.size, 0, none⟩ = some (.int .i64 4) ∧ w'.cell? ⟨w.heap.size, 1, none⟩ = some (.string k1) ∧ w'.cell? ⟨w.heap.size, 2, none⟩ = some (.slice A2 n2 c2') ∧ w'.cell? ⟨w.heap.size, 3, none⟩ = some (.int .i64 ck) ∧ w'.cell? ⟨w.heap.size, 4, none⟩ = some (.string cn) ∧ w'.cell? ⟨w.heap.size, 5, none⟩ = some (.int .i64 cvk) ∧ w'.cell? ⟨w.heap.size, 6, none⟩ = some (.int .i64 cvn) ∧ w'.cell? ⟨w.heap.size, 7, none⟩ = some (.string cvt) ∧ w'.cell? ⟨w.heap.size, 8, none⟩ = some (.string cop) ∧ w'.cell? ⟨w.heap.size, 9, none⟩ = some (.slice CA cnn cc) ∧ w'.cell? ⟨w.heap.size, 10, none⟩ = some (.slice NA nn nc) ∧ w'.cell? ⟨w.heap.size, 11, none⟩ = some (.slice EA en ec) ∧ w'.cell? ⟨w.heap.size, 12, none⟩ = some (.slice OA ol oc) ∧ w'.cell? ⟨w.heap.size, 13, none⟩ = some (.slice GA gn gc) ∧ w'.cell? ⟨w.heap.size, 14, none⟩ = some (.slice BA bn bc) ∧ w'.cell? ⟨w.heap.size, 15, none⟩ = some (.int .i64 count) ∧ w'.cell? ⟨bl, bo, none⟩ = some (.slice SA sn sc) ∧ w'.cell? ⟨bl, bo + 1, none⟩ = some (.slice RA rn rc) ∧ w'.cell? ⟨bl', bo', none⟩ = some (.slice SB tn tc) ∧ w'.cell? ⟨bl', bo' + 1, none⟩ = some (.slice RB un uc)) (first | exact HP.out | exact keep20 M1.out.2.2 HP.out) (first
    | (go_at_call 96; refine (Hj.out _ HT0.out).mono ?_; rintro e w1 ⟨⟨A1, n1, c1⟩, rfl, m1⟩; have M1 := Lib.hid m1; clear m1))
  go_wp2_with fail
  go_ret2
  exact ⟨⟨A1, n1, c1⟩, rfl, M1.out.1, M1.out.2.1, HT0.out.trans0 M1.out.2.2⟩

set_option maxRecDepth 40000 in
set_option maxHeartbeats 6400000 in
theorem rows_group0 (x : PC) (hk0 : x.kind = 6) (h1 : x.names.n = 0) (h2 : x.aggs.n = 1) (op nm : ByteArray) (L : Option Addr) (lc : Nat) (ta : SL × SL) (cs : List CD) (hl : cs.length ≤ 1000000) (w : World)
    (hL : RdK tbE w L [ta]) (hTA : TabAt w ta.1 ta.2 cs []) (hg : RdK agE w x.aggs.A [⟨op, ⟨#[]⟩, nm⟩]) :
    Calls Tryz.prog 65 #[x.val, .slice L 1 lc] w (RowsPost (0, [[⟨1, 0, ⟨#[]⟩⟩]]) w) := by
  obtain ⟨⟨SA, sn, sc⟩, ⟨RA, rn, rc⟩⟩ := ta
  obtain ⟨k0, k1, ⟨A2, n2, c2'⟩, ⟨⟨ck, cn, ⟨cvk, cvn, cvt⟩, cop⟩, CA, cnn, cc⟩, ⟨NA, nn, nc⟩, ⟨EA, en, ec⟩, ⟨OA, ol, oc⟩, ⟨GA, gn, gc⟩, ⟨BA, bn, bc⟩, count⟩ := x
  dsimp only at hk0 h1 h2 hg hTA
  subst hk0
  obtain ⟨ad, bl, bo, rfl, hadd0, hc0⟩ := RdK.cells hL 2 tbE_length (by omega) 0 (by simp)
  have l0 := hc0 0 _ rfl
  have l1 := hc0 1 _ rfl
  simp only [Nat.zero_mul, Nat.add_zero] at hadd0 l0 l1
  simp only [List.getElem_cons_zero] at l0 l1
  have Hj := Lib.hid fun w' (t : Touch [] w w') => group_zero ⟨6, k1, ⟨A2, n2, c2'⟩, ⟨⟨ck, cn, ⟨cvk, cvn, cvt⟩, cop⟩, CA, cnn, cc⟩, ⟨NA, nn, nc⟩, ⟨EA, en, ec⟩, ⟨OA, ol, oc⟩, ⟨GA, gn, gc⟩, ⟨BA, bn, bc⟩, count⟩ h1 h2 op nm ⟨SA, sn, sc⟩ ⟨RA, rn, rc⟩ cs hTA.n hl hTA.m w' (RdK.touch0 hg t) (hTA.cols.touch0 t)
  simp only [PC.val] at *
  obtain ⟨W, hW⟩ : ∃ W, W = w.alloc (.cells #[.int .i64 6, .string k1, .slice A2 n2 c2', .int .i64 ck, .string cn, .int .i64 cvk, .int .i64 cvn, .string cvt, .string cop, .slice CA cnn cc, .slice NA nn nc, .slice EA en ec, .slice OA ol oc, .slice GA gn gc, .slice BA bn bc, .int .i64 count] 49) := ⟨_, rfl⟩
  have t0 : Touch [] w W := hW ▸ (Touch.refl [] w).alloc _
  have hb0 := hW ▸ heap_alloc_new w (.cells #[.int .i64 6, .string k1, .slice A2 n2 c2', .int .i64 ck, .string cn, .int .i64 cvk, .int .i64 cvn, .string cvt, .string cop, .slice CA cnn cc, .slice NA nn nc, .slice EA en ec, .slice OA ol oc, .slice GA gn gc, .slice BA bn bc, .int .i64 count] 49)
  have l0d := t0.drew.cell l0 (by simp)
  have l1d := t0.drew.cell l1 (by simp)
  obtain ⟨p0, p1, p2, p3, p4, p5, p6, p7, p8, p9, p10, p11, p12, p13, p14, p15⟩ := blk16 ((Touch.refl [] W).drew.blk hb0 (by simp))
  have HP : Hid (W.drew.cell? ⟨w.heap.size, 0, none⟩ = some (.int .i64 6) ∧ W.drew.cell? ⟨w.heap.size, 1, none⟩ = some (.string k1) ∧ W.drew.cell? ⟨w.heap.size, 2, none⟩ = some (.slice A2 n2 c2') ∧ W.drew.cell? ⟨w.heap.size, 3, none⟩ = some (.int .i64 ck) ∧ W.drew.cell? ⟨w.heap.size, 4, none⟩ = some (.string cn) ∧ W.drew.cell? ⟨w.heap.size, 5, none⟩ = some (.int .i64 cvk) ∧ W.drew.cell? ⟨w.heap.size, 6, none⟩ = some (.int .i64 cvn) ∧ W.drew.cell? ⟨w.heap.size, 7, none⟩ = some (.string cvt) ∧ W.drew.cell? ⟨w.heap.size, 8, none⟩ = some (.string cop) ∧ W.drew.cell? ⟨w.heap.size, 9, none⟩ = some (.slice CA cnn cc) ∧ W.drew.cell? ⟨w.heap.size, 10, none⟩ = some (.slice NA nn nc) ∧ W.drew.cell? ⟨w.heap.size, 11, none⟩ = some (.slice EA en ec) ∧ W.drew.cell? ⟨w.heap.size, 12, none⟩ = some (.slice OA ol oc) ∧ W.drew.cell? ⟨w.heap.size, 13, none⟩ = some (.slice GA gn gc) ∧ W.drew.cell? ⟨w.heap.size, 14, none⟩ = some (.slice BA bn bc) ∧ W.drew.cell? ⟨w.heap.size, 15, none⟩ = some (.int .i64 count) ∧ W.drew.cell? ⟨bl, bo, none⟩ = some (.slice SA sn sc) ∧ W.drew.cell? ⟨bl, bo + 1, none⟩ = some (.slice RA rn rc)) := Lib.hid ⟨p0, p1, p2, p3, p4, p5, p6, p7, p8, p9, p10, p11, p12, p13, p14, p15, l0d, l1d⟩
  have HW := Lib.hid hW
  have HT0 := Lib.hid t0.drew
  clear h1 h2 hg hTA hL hc0 hW t0 l0 l1 hb0 l0d l1d p0 p1 p2 p3 p4 p5 p6 p7 p8 p9 p10 p11 p12 p13 p14 p15
  go_enter Tryz.func65, Tryz.ntmps65
  go_wp2_with fail
  rw [← HW.out]
  go_region_held3 (fun w' => w'.cell? ⟨w.heap.size, 0, none⟩ = some (.int .i64 6) ∧ w'.cell? ⟨w.heap.size, 1, none⟩ = some (.string k1) ∧ w'.cell? ⟨w.heap.size, 2, none⟩ = some (.slice A2 n2 c2') ∧ w'.cell? ⟨w.heap.size, 3, none⟩ = some (.int .i64 ck) ∧ w'.cell? ⟨w.heap.size, 4, none⟩ = some (.string cn) ∧ w'.cell? ⟨w.heap.size, 5, none⟩ = some (.int .i64 cvk) ∧ w'.cell? ⟨w.heap.size, 6, none⟩ = some (.int .i64 cvn) ∧ w'.cell? ⟨w.heap.size, 7, none⟩ = some (.string cvt) ∧ w'.cell? ⟨w.heap.size, 8, none⟩ = some (.string cop) ∧ w'.cell? ⟨w.heap.size, 9, none⟩ = some (.slice CA cnn cc) ∧ w'.cell? ⟨w.heap.size, 10, none⟩ = some (.slice NA nn nc) ∧ w'.cell? ⟨w.heap.size, 11, none⟩ = some (.slice EA en ec) ∧ w'.cell? ⟨w.heap.size, 12, none⟩ = some (.slice OA ol oc) ∧ w'.cell? ⟨w.heap.size, 13, none⟩ = some (.slice GA gn gc) ∧ w'.cell? ⟨w.heap.size, 14, none⟩ = some (.slice BA bn bc) ∧ w'.cell? ⟨w.heap.size, 15, none⟩ = some (.int .i64 count) ∧ w'.cell? ⟨bl, bo, none⟩ = some (.slice SA sn sc) ∧ w'.cell? ⟨bl, bo + 1, none⟩ = some (.slice RA rn rc)) (first | exact HP.out | exact keep18 M1.out.2 HP.out) (first
    | (go_at_call 97; refine (Hj.out _ HT0.out).mono ?_; rintro e w1 ⟨A1, c1, rfl, m1⟩; have M1 := Lib.hid m1; clear m1))
  go_wp2_with fail
  go_ret2
  exact ⟨⟨A1, 1, c1⟩, rfl, rfl, M1.out.1, HT0.out.trans0 M1.out.2⟩

end Go.Proofs.YtafoklilkdnepaaGreatDoor

/- relop.Plan.eval at plans with Args. For every such plan, by what its Args, its schema and its rows tell. -/
namespace Go.Proofs.YtafoklilkdnepaaGreatDoor
open Go.RowKit

/-- what an evaluation tells, by its Args, its schema and its rows -/
def nodeE (vs : List (Int × List CD × List (List VD))) (cs : List CD) (rv : Int × List (List VD)) : Int × List CD × List (List VD) :=
  if errL (vs.map fun v => (v.1, v.2.1)) = 0 then (if rv.1 = 0 then (if fitV cs rv.2 = 0 then (0, cs, sortR rv.2) else (fitV cs rv.2, [], [])) else (rv.1, [], [])) else (errL (vs.map fun v => (v.1, v.2.1)), [], [])
/-- slices that lead to these tables, made since base, apart from the row L that holds them -/
def TabsU (base : Nat) (L : Option Addr) (w : World) (tl : List (SL × SL)) (vs : List (List CD × List (List VD))) : Prop := tl.length = vs.length ∧ ∀ i (h1 : i < tl.length) (h2 : i < vs.length), ∃ lo hi, TabU lo hi w tl[i].1 tl[i].2 vs[i].1 vs[i].2 ∧ base ≤ lo ∧ hi ≤ w.heap.size ∧ ∀ b ∈ fpo L, b < lo ∨ hi ≤ b
theorem TabsU.nil (base : Nat) (L : Option Addr) (w : World) : TabsU base L w [] [] := ⟨rfl, fun i h => absurd h (by simp)⟩
theorem TabsU.touch0 {base : Nat} {L : Option Addr} {w w' : World} {tl : List (SL × SL)} {vs : List (List CD × List (List VD))} (h : TabsU base L w tl vs) (ht : Touch [] w w') : TabsU base L w' tl vs := ⟨h.1, fun i a b => by
  obtain ⟨lo, hi, h1, h2, h3, h4⟩ := h.2 i a b
  exact ⟨lo, hi, h1.touch ht (by simp), h2, Nat.le_trans h3 ht.size, h4⟩⟩
theorem TabsU.grow {base : Nat} {L L' : Option Addr} {w w' : World} {tl : List (SL × SL)} {vs : List (List CD × List (List VD))} (h : TabsU base L w tl vs) (ht : Touch (fpo L) w w') (hf : ∀ b ∈ fpo L', b ∈ fpo L ∨ w.heap.size ≤ b) : TabsU base L' w' tl vs := ⟨h.1, fun i a b => by
  obtain ⟨lo, hi, h1, h2, h3, h4⟩ := h.2 i a b
  exact ⟨lo, hi, h1.touch ht h4, h2, Nat.le_trans h3 ht.size, fun b hb => by
    rcases hf b hb with q | q
    · exact h4 b q
    · right; omega⟩⟩
theorem TabsU.snoc {base : Nat} {L : Option Addr} {w : World} {tl : List (SL × SL)} {vs : List (List CD × List (List VD))} (h : TabsU base L w tl vs) (s r : SL) (cs : List CD) (rows : List (List VD)) (lo hi : Nat) (h1 : TabU lo hi w s r cs rows) (h2 : base ≤ lo) (h3 : hi ≤ w.heap.size) (h4 : ∀ b ∈ fpo L, b < lo ∨ hi ≤ b) : TabsU base L w (tl ++ [(s, r)]) (vs ++ [(cs, rows)]) := by
  refine ⟨by rw [List.length_append, List.length_append, h.1]; rfl, fun i a b => ?_⟩
  by_cases hi' : i < tl.length
  · have hi2 : i < vs.length := by rw [← h.1]; exact hi'
    rw [List.getElem_append_left hi', List.getElem_append_left hi2]
    exact h.2 i hi' hi2
  · have hi'' : i = tl.length := by rw [List.length_append] at a; simp at a; omega
    subst hi''
    have e1 : (tl ++ [(s, r)])[tl.length] = (s, r) := by simp
    have e2 : (vs ++ [(cs, rows)])[tl.length] = (cs, rows) := by rw [List.getElem_append_right (by rw [h.1]; exact Nat.le_refl _)]; simp [h.1]
    rw [e1, e2]
    exact ⟨lo, hi, h1, h2, h3, h4⟩
/-- what a plan's rows are, wherever they are asked for -/
def RowsC (w : World) (x : PC) (tabs : List (List CD × List (List VD))) (rv : Int × List (List VD)) : Prop := ∀ w' (L : Option Addr) (lc : Nat) (tl : List (SL × SL)), Touch [] w w' → (tl.length = tabs.length ∧ ∀ i (h1 : i < tl.length) (h2 : i < tabs.length), TabAt w' tl[i].1 tl[i].2 tabs[i].1 tabs[i].2) → RdK tbE w' L tl →
  Calls Tryz.prog 65 #[x.val, .slice L tabs.length lc] w' (RowsPost rv w')
theorem info_t5 : (Tryz.prog.info? 27).map (fun i => (i.zero, i.size, i.bytes)) = some (some (.agg #[.slice none 0 0, .slice none 0 0]), 2, 48) := by kernel_rfl

set_option maxRecDepth 40000 in
set_option maxHeartbeats 25600000 in
theorem eval_node (x : PC) (kk m : Nat) (hk0 : x.kind = kk) (hk2 : 2 ≤ kk) (hm : x.args.n = m) (hm2 : m ≤ 2) (I : Option Addr) (ic n : Nat) (w : World)
    (xs : List PC) (vs : List (Int × List CD × List (List VD))) (hxs : xs.length = m) (hvs : vs.length = m) (hX : RdK pcE w x.args.A xs) (hE : ∀ i (h1 : i < xs.length) (h2 : i < vs.length), EvalC w I ic n xs[i] vs[i])
    (ver : Int) (cs : List CD) (hS : errL (vs.map fun v => (v.1, v.2.1)) = 0 → SchemaC w x (vs.map (·.2.1)) (ver, cs)) (rv : Int × List (List VD)) (hR : errL (vs.map fun v => (v.1, v.2.1)) = 0 → RowsC w x (vs.map (·.2)) rv)
    (hok : ∀ c ∈ cs, c.Ok) (hvl : cs.length ≤ 1000000) (hrk : RowsOk rv.2) (hrl : RowsLe rv.2) (hrn : rv.2.length ≤ 1000000) :
    Calls Tryz.prog 30 #[x.val, .slice I n ic] w (EvPost (nodeE vs cs rv) w) := by
  obtain ⟨PO, hPO⟩ : ∃ PO, PO = EvPost (nodeE vs cs rv) w := ⟨_, rfl⟩
  rw [← hPO]
  have HPO := Lib.hid hPO
  have HSC := Lib.hid hS
  have HRC := Lib.hid hR
  obtain ⟨k0, k1, ⟨A2, n2, c2'⟩, ⟨⟨ck, cn, ⟨cvk, cvn, cvt⟩, cop⟩, CA, cnn, cc⟩, ⟨NA, nn, nc⟩, ⟨EA, en, ec⟩, ⟨OA, ol, oc⟩, ⟨GA, gn, gc⟩, ⟨BA, bn, bc⟩, count⟩ := x
  dsimp only at hk0 hm hX ⊢
  subst hk0 hm
  simp only [PC.val]
  obtain ⟨W, hW⟩ : ∃ W, W = (w.alloc (.cells #[.int .i64 (kk : Nat), .string k1, .slice A2 n2 c2', .int .i64 ck, .string cn, .int .i64 cvk, .int .i64 cvn, .string cvt, .string cop, .slice CA cnn cc, .slice NA nn nc, .slice EA en ec, .slice OA ol oc, .slice GA gn gc, .slice BA bn bc, .int .i64 count] 49)).alloc (.cells #[.slice none 0 0, .slice none 0 0] 27) := ⟨_, rfl⟩
  have t0 : Touch [] w W := hW ▸ ((Touch.refl [] w).alloc _).alloc _
  have hb0 := hW ▸ ((Touch.refl [] (w.alloc (.cells #[.int .i64 (kk : Nat), .string k1, .slice A2 n2 c2', .int .i64 ck, .string cn, .int .i64 cvk, .int .i64 cvn, .string cvt, .string cop, .slice CA cnn cc, .slice NA nn nc, .slice EA en ec, .slice OA ol oc, .slice GA gn gc, .slice BA bn bc, .int .i64 count] 49))).alloc (.cells #[.slice none 0 0, .slice none 0 0] 27)).blk (heap_alloc_new w _) (by simp)
  have hbt : W.heap[w.heap.size + 1]? = some (.cells #[.slice none 0 0, .slice none 0 0] 27 (0, 0)) := by
    have := heap_alloc_new (w.alloc (.cells #[.int .i64 (kk : Nat), .string k1, .slice A2 n2 c2', .int .i64 ck, .string cn, .int .i64 cvk, .int .i64 cvn, .string cvt, .string cop, .slice CA cnn cc, .slice NA nn nc, .slice EA en ec, .slice OA ol oc, .slice GA gn gc, .slice BA bn bc, .int .i64 count] 49)) (.cells #[.slice none 0 0, .slice none 0 0] 27)
    rw [World.size_alloc] at this
    exact hW ▸ this
  have hWs : W.heap.size = w.heap.size + 2 := by rw [hW]; simp
  have q2 : W.cell? ⟨w.heap.size, 2, none⟩ = some (.slice A2 n2 c2') := cell_blk hb0 rfl
  have hkc : ((kk : Int) == 1) = false := by rw [beq_eq_false_iff_ne]; omega
  have HW := Lib.hid hW
  have HT0 := Lib.hid (And.intro t0 (And.intro hb0 (And.intro hbt hWs)))
  have HX := Lib.hid (RdK.touch0 hX t0)
  have HEv := Lib.hid hE
  have Hxs := Lib.hid hxs
  have Hvs := Lib.hid hvs
  have Hok := Lib.hid (And.intro hok (And.intro hrk hrl))
  clear hb0 hbt hW t0 hX hE hxs hvs hPO hS hR hWs hok hrk hrl
  go_enter Tryz.func30, Tryz.ntmps30
  go_wp2_with fail
  rw [← HW.out]
  go_loopw [6, 23] (fun o i wr => ∃ (j : Nat) (L : Option Addr) (lc : Nat) (tl : List (SL × SL)), j ≤ n2 ∧ i = .int .i64 j ∧ o = .slice L j lc ∧ Hid (∀ i (hi : i < j) (h2 : i < vs.length), vs[i].1 = 0) ∧ Hid (TabsU W.heap.size L wr tl ((vs.map (·.2)).take j)) ∧ Hid (OwnK 27 2 tbE wr L lc tl) ∧ Hid (∀ b ∈ fpo L, W.heap.size ≤ b) ∧ Hid (Touch [] W wr)) (fun _ i _ => n2 - (intOf i).toNat)
  case atStart => exact ⟨0, none, 0, [], by omega, rfl, rfl, Lib.hid (fun i h => absurd h (by omega)), Lib.hid (TabsU.nil _ _ _), Lib.hid (OwnK.nil _ _ _ _), Lib.hid (by simp [fpo]), Lib.hid (Touch.refl _ _)⟩
  case round =>
    obtain ⟨j, L, lc, tl, hj, rfl, rfl, HE, HS, HO, HF, HT⟩ := hrel
    have htlj : Hid (tl.length = j) := Lib.hid (by rw [HS.out.1, List.length_take, List.length_map, Hvs.out]; omega)
    by_cases hlt : j < n2
    · have hjx : j < xs.length := by rw [Hxs.out]; exact hlt
      have hjv : j < vs.length := by rw [Hvs.out]; exact hlt
      obtain ⟨ad, b1, o1, rfl, hadd, hc⟩ := RdK.cells (HX.out.touch0 HT.out) 16 pcE_length (by omega) j hjx
      have hty := HEv.out j hjx hjv
      have hmv : (vs.map (·.2)).take (j + 1) = (vs.map (·.2)).take j ++ [vs[j].2] := by
        rw [List.take_succ_eq_append_getElem (by rw [List.length_map]; exact hjv), List.getElem_map]
      have her : vs[j].1 ≠ 0 → errL (vs.map fun v => (v.1, v.2.1)) = vs[j].1 := fun h0 => by
        have := errL_at (l := vs.map fun v => (v.1, v.2.1)) (j := j) (by rw [List.length_map]; exact hjv) (fun i hi => by rw [List.getElem_map]; exact HE.out i hi (by omega)) (by rw [List.getElem_map]; exact h0)
        rw [this, List.getElem_map]
      obtain ⟨y, hy⟩ : ∃ y, y = xs[j] := ⟨_, rfl⟩
      obtain ⟨u, hu⟩ : ∃ u, u = vs[j] := ⟨_, rfl⟩
      rw [← hy] at hc hty
      rw [← hu] at hty hmv her
      obtain ⟨y0, y1, ⟨yA2, yn2, yc2⟩, ⟨⟨yck, ycn, ⟨ycvk, ycvn, ycvt⟩, ycop⟩, yCA, ycnn, ycc⟩, ⟨yNA, ynn, ync⟩, ⟨yEA, yen, yec⟩, ⟨yOA, yol, yoc⟩, ⟨yGA, ygn, ygc⟩, ⟨yBA, ybn, ybc⟩, ycount⟩ := y
      have e0 := hc 0 _ rfl; have e1 := hc 1 _ rfl; have e2 := hc 2 _ rfl; have e3 := hc 3 _ rfl; have e4 := hc 4 _ rfl; have e5 := hc 5 _ rfl; have e6 := hc 6 _ rfl; have e7 := hc 7 _ rfl
      have e8 := hc 8 _ rfl; have e9 := hc 9 _ rfl; have e10 := hc 10 _ rfl; have e11 := hc 11 _ rfl; have e12 := hc 12 _ rfl; have e13 := hc 13 _ rfl; have e14 := hc 14 _ rfl; have e15 := hc 15 _ rfl
      rw [Nat.add_zero] at e0
      dsimp only at e0 e1 e2 e3 e4 e5 e6 e7 e8 e9 e10 e11 e12 e13 e14 e15
      have ta := (Touch.refl [] wr).alloc (.cells #[.int .i64 y0, .string y1, .slice yA2 yn2 yc2, .int .i64 yck, .string ycn, .int .i64 ycvk, .int .i64 ycvn, .string ycvt, .string ycop, .slice yCA ycnn ycc, .slice yNA ynn ync, .slice yEA yen yec, .slice yOA yol yoc, .slice yGA ygn ygc, .slice yBA ybn ybc, .int .i64 ycount] 49)
      have hty2 := hty _ ((HT0.out.1.trans0 HT.out).trans0 ta)
      simp only [PC.val] at hty2
      have Hty := Lib.hid hty2
      have Hmv := Lib.hid hmv
      have HTa := Lib.hid ta
      have hjn : (j : Int) < (n2 : Int) := by omega
      obtain ⟨uer, ucs, urows⟩ := u
      dsimp only at her hmv Hmv Hty
      have Hu := Lib.hid hu
      clear hc hty hty2 hy hu hmv ta
      by_cases hz : uer = 0
      · as_aux_lemma =>
        subst hz
        clear her
        go_wp2_with fail
        refine Hty.out.mono ?_
        rintro e w1 ⟨⟨sA, sn, sc⟩, ⟨rA, rn, rc⟩, rfl, hnt, t1⟩
        have hUT : TabU (wr.heap.size + 1) w1.heap.size w1 ⟨sA, sn, sc⟩ ⟨rA, rn, rc⟩ ucs urows := by
          have := TabU.of hnt
          rw [World.size_alloc] at this
          exact this
        have T1 := HTa.out.trans0 t1
        have hs1 := HTa.out.size
        rw [World.size_alloc] at hs1
        have HY := Lib.hid (And.intro hUT t1.size)
        have HT1 := Lib.hid T1
        have tb := (Touch.refl [] w1).alloc (.cells #[.slice sA sn sc, .slice rA rn rc] 27)
        have HTb := Lib.hid (And.intro tb (heap_alloc_new w1 (.cells #[.slice sA sn sc, .slice rA rn rc] 27)))
        clear hnt t1 T1 hUT hs1 tb
        go_wp2_with (at_builtin; refine stop ?_)
        refine go ?_
        have tc := HTb.out.1.alloc (.cells #[.slice sA sn sc, .slice rA rn rc] 27)
        have hrd1 := RdK.one (enc := tbE) (w1.alloc (.cells #[.slice sA sn sc, .slice rA rn rc] 27)) 27 (⟨sA, sn, sc⟩, ⟨rA, rn, rc⟩) #[.slice sA sn sc, .slice rA rn rc] rfl
        rw [World.size_alloc] at hrd1
        refine wpList_appK (enc := tbE) rfl (.tmp 37) (.tmp 39) 115 rfl 27 _ 2 48 info_t5 Tryz.underlying115 rfl (by omega) tbE_length tbE_one L j lc tl htlj.out rfl (HO.out.touch0 (HT1.out.trans0 tc))
          (some ⟨w1.heap.size + 1, 0, none⟩) 1 1 [(⟨sA, sn, sc⟩, ⟨rA, rn, rc⟩)] rfl rfl hrd1 (by omega) (by omega) ?_
        intro L' lc' w' hown ht hf
        have HN2 := Lib.hid (And.intro hown (And.intro ht (And.intro hf tc)))
        clear hown ht hf tc hrd1
        go_wp2_with fail
        go_roundw
        case rel =>
          obtain ⟨hown, ht, hf, tc⟩ := HN2.out
          obtain ⟨hU, hs1⟩ := HY.out
          have hLlt := HO.out.lt
          have hsz := HT.out.size
          have hs2 := HT1.out.size
          rw [World.size_alloc] at hs1
          have hU2 : TabsU W.heap.size L w1 (tl ++ [(⟨sA, sn, sc⟩, ⟨rA, rn, rc⟩)]) ((vs.map (·.2)).take (j + 1)) := by
            rw [Hmv.out]
            exact (HS.out.touch0 HT1.out).snoc _ _ _ _ _ _ hU (by omega) (Nat.le_refl _) (fun b hb => by have := hLlt b hb; omega)
          refine ⟨j + 1, L', lc', _, by omega, by go_num, rfl, Lib.hid (fun i hi h2 => ?_), Lib.hid ((hU2.touch0 tc).grow ht (fun b hb => ?_)), Lib.hid hown, Lib.hid (fun b hb => ?_), Lib.hid (((HT.out.trans0 HT1.out).trans0 tc).trans ht (fun b hb => .inr (HF.out b hb)))⟩
          · by_cases hij : i = j
            · subst hij; rw [← Hu.out]
            · exact HE.out i (by omega) h2
          · rcases hf b hb with q | q
            · exact .inl q
            · exact .inr (by rw [q]; exact Nat.le_refl _)
          · rcases hf b hb with q | q
            · exact HF.out b q
            · rw [World.size_alloc, World.size_alloc] at q; omega
        case measure => simp [intOf]; omega
      · as_aux_lemma =>
        have HVe := Lib.hid (show nodeE vs cs rv = (uer, [], []) by
          unfold nodeE; rw [her hz, if_neg hz])
        have hq : (uer == 0) = false := by rw [beq_eq_false_iff_ne]; exact hz
        have hq' : (uer != 0) = true := by rw [bne, hq]; rfl
        clear her
        go_wp2_with fail
        refine Hty.out.mono ?_
        rintro e w1 ⟨⟨sA, sn, sc⟩, ⟨rA, rn, rc⟩, rfl, hnt, t1⟩
        have ta2 := (Touch.refl [] w1).alloc (.cells #[.slice sA sn sc, .slice rA rn rc] 27)
        have hr2 := ta2.blk (t1.blk (HTa.out.blk (HT.out.blk HT0.out.2.2.1 (by simp)) (by simp)) (by simp)) (by simp)
        obtain ⟨z0, z1, y0, y1⟩ := blk2 hr2
        have HT1 := Lib.hid (And.intro ((((HT0.out.1.trans0 HT.out).trans0 HTa.out).trans0 t1).trans0 ta2) hr2)
        clear hnt t1 hr2 ta2
        go_wp2_with fail
        refine bodyPost_ret (results_cell_two rfl _ _ (w.heap.size + 1) _ _ _ _ rfl (set2 HT1.out.2 rfl _ _) Tryz.underlying27 rfl rfl) rfl ?_
        rw [HPO.out, HVe.out]
        exact EvPost.err uer (HT1.out.1.trans (touch2 _ _ _ _) (fun b hb => .inr (by simp at hb; omega)))
    · obtain rfl : j = n2 := by omega
      have hz : errL (vs.map fun v => (v.1, v.2.1)) = 0 := errL_zero fun u hu => by
        obtain ⟨v, hv, rfl⟩ := List.mem_map.1 hu
        obtain ⟨i, hi, rfl⟩ := List.mem_iff_getElem.1 hv
        exact HE.out i (by rw [← Hvs.out]; exact hi) hi
      have HVe := Lib.hid (show nodeE vs cs rv = if rv.1 = 0 then (if fitV cs rv.2 = 0 then (0, cs, sortR rv.2) else (fitV cs rv.2, [], [])) else (rv.1, [], []) by unfold nodeE; rw [if_pos hz])
      have hlen : (vs.map (·.2)).length = j := by rw [List.length_map]; exact Hvs.out
      have hlen2 : (vs.map (·.2.1)).length = j := by rw [List.length_map]; exact Hvs.out
      have HS2 : Hid (TabsU W.heap.size L wr tl (vs.map (·.2))) := Lib.hid (by
        have := HS.out
        rwa [← hlen, List.take_length] at this)
      obtain ⟨W2, hW2⟩ : ∃ W2, W2 = wr := ⟨_, rfl⟩
      subst hW2
      have q0 := HT.out.cell (blk16 HT0.out.2.1).1 (by simp)
      have HLN := Lib.hid (And.intro hz (And.intro hlen hlen2))
      have hlw := Lib.hid (HO.out.lt)
      clear HE HS HF hlt hz hlen hlen2
      go_wp2_with fail
      clear q0
      go_loopw [13, 56] (fun o i w4 => ∃ (k : Nat) (Ls : Option Addr) (lcs : Nat) (sl : List SL), k ≤ j ∧ i = .int .i64 k ∧ o = .slice Ls k lcs ∧ Hid (SlcsAt w.heap.size w4 sl ((vs.map (·.2.1)).take k)) ∧ Hid (OwnK 24 1 slE w4 Ls lcs sl) ∧ Hid (∀ b ∈ fpo Ls, W2.heap.size ≤ b) ∧ Hid (∀ s ∈ sl, ∀ b ∈ fpo s.A, b < W2.heap.size) ∧ Hid (Touch [] W2 w4)) (fun _ i _ => j - (intOf i).toNat)
      case atStart => exact ⟨0, none, 0, [], by omega, rfl, rfl, Lib.hid (SlcsAt.nil _ _), Lib.hid (OwnK.nil _ _ _ _), Lib.hid (by simp [fpo]), Lib.hid (by simp), Lib.hid (Touch.refl _ _)⟩
      case round =>
        obtain ⟨k, Ls, lcs, sl, hk, rfl, rfl, HSl, HOs, HFs, HBs, HTs⟩ := hrel
        have hslk : Hid (sl.length = k) := Lib.hid (by rw [HSl.out.1, List.length_take, HLN.out.2.2]; omega)
        by_cases hlt : k < j
        · as_aux_lemma =>
          have hkt : k < tl.length := by rw [htlj.out]; exact hlt
          have hkv : k < (vs.map (·.2)).length := by rw [HLN.out.2.1]; exact hlt
          have hkv1 : k < vs.length := by rw [Hvs.out]; exact hlt
          obtain ⟨ad, b1, o1, rfl, hadd, hc⟩ := RdK.cells (RdK.touch0 HO.out.rd HTs.out) 2 tbE_length (by omega) k hkt
          obtain ⟨lo, hi, hU, hlo, hhi, _⟩ := HS2.out.2 k hkt hkv
          rw [List.getElem_map] at hU
          have hmv : (vs.map (·.2.1)).take (k + 1) = (vs.map (·.2.1)).take k ++ [vs[k].2.1] := by
            rw [List.take_succ_eq_append_getElem (by rw [List.length_map]; exact hkv1), List.getElem_map]
          obtain ⟨t, ht⟩ : ∃ t, t = tl[k] := ⟨_, rfl⟩
          obtain ⟨u, hu⟩ : ∃ u, u = vs[k] := ⟨_, rfl⟩
          rw [← ht] at hc hU
          rw [← hu] at hU hmv
          obtain ⟨⟨sA, sn, sc⟩, ⟨rA, rn, rc⟩⟩ := t
          obtain ⟨uer, ucs, urows⟩ := u
          have e0 := hc 0 _ rfl
          have e1 := hc 1 _ rfl
          rw [Nat.add_zero] at e0
          dsimp only at e0 e1 hmv hU
          have HU := Lib.hid (And.intro hU (And.intro hlo hhi))
          have Hmv := Lib.hid hmv
          have hkn : (k : Int) < (j : Int) := by omega
          clear hc hU hlo hhi hmv ht hu
          go_wp2_with (at_builtin; refine stop ?_)
          refine go ?_
          have tc := ((Touch.refl [] wr).alloc (.cells #[.slice sA sn sc, .slice rA rn rc] 27)).alloc (.cells #[.slice sA sn sc] 24)
          have hrd1 := RdK.one (enc := slE) (wr.alloc (.cells #[.slice sA sn sc, .slice rA rn rc] 27)) 24 ⟨sA, sn, sc⟩ #[.slice sA sn sc] rfl
          rw [World.size_alloc] at hrd1
          refine wpList_appK (enc := slE) rfl (.tmp 60) (.tmp 63) 119 rfl 24 _ 1 24 info_s5 Tryz.underlying119 rfl (by omega) slE_length slE_one Ls k lcs sl hslk.out rfl (HOs.out.touch0 tc)
            (some ⟨wr.heap.size + 1, 0, none⟩) 1 1 [⟨sA, sn, sc⟩] rfl rfl hrd1 (by omega) (by omega) ?_
          intro L' lc' w' hown ht hf
          have HN2 := Lib.hid (And.intro hown (And.intro ht (And.intro hf tc)))
          clear hown ht hf tc hrd1
          go_wp2_with fail
          go_roundw
          case rel =>
            obtain ⟨hown, ht, hf, tc⟩ := HN2.out
            obtain ⟨hU, hlo, hhi⟩ := HU.out
            have hs0 := HT0.out.1.size
            have hsn := ((HSl.out.touch0 tc).snoc ⟨sA, sn, sc⟩ ucs hU.n hU.le (hU.cols.touch0 (HTs.out.trans0 tc)) (fun b hb => ⟨by have := hU.cf b hb; omega, by have := (hU.cf b hb).2; have := (HTs.out.trans0 tc).size; omega⟩))
            have hall : ∀ s ∈ sl ++ [(⟨sA, sn, sc⟩ : SL)], ∀ b ∈ fpo s.A, b < W2.heap.size := fun s hs b hb => by
              rcases List.mem_append.1 hs with q | q
              · exact HBs.out s q b hb
              · simp only [List.mem_singleton] at q; subst q; have := (hU.cf b hb).2; omega
            refine ⟨k + 1, L', lc', _, by omega, by go_num, rfl, Lib.hid (by rw [Hmv.out]; exact hsn.touch ht (fun s hs b hb hm => by have := hall s hs b hb; have := HFs.out b hm; omega)), Lib.hid hown, Lib.hid (fun b hb => ?_), Lib.hid hall, Lib.hid ((HTs.out.trans0 tc).trans ht (fun b hb => .inr (HFs.out b hb)))⟩
            rcases hf b hb with q | q
            · exact HFs.out b q
            · rw [World.size_alloc, World.size_alloc] at q; have := HTs.out.size; omega
          case measure => simp [intOf]; omega
        · as_aux_lemma =>
          obtain rfl : k = j := by omega
          have hsl : SlcsAt w.heap.size wr sl (vs.map (·.2.1)) := by
            have := HSl.out
            rwa [← HLN.out.2.2, List.take_length] at this
          have hTw := (HT0.out.1.trans0 HT.out).trans0 HTs.out
          have hsc := HSC.out HLN.out.1 wr w.heap.size Ls lcs sl hTw hTw.size hsl HOs.out.rd
          rw [HLN.out.2.2] at hsc
          simp only [PC.val] at hsc
          have Hsc := Lib.hid hsc
          have HB := Lib.hid ((HT.out.trans0 HTs.out).blk HT0.out.2.1 (by simp))
          have HBr := Lib.hid ((HT.out.trans0 HTs.out).blk HT0.out.2.2.1 (by simp))
          have HTw := Lib.hid hTw
          have HRW := Lib.hid fun w' (t : Touch [] wr w') => HRC.out HLN.out.1 w' L lc tl (hTw.trans0 t) ⟨HS2.out.1, fun i a b => by
            obtain ⟨lo, hi, hU, _⟩ := HS2.out.2 i a b
            exact hU.tab.touch0 (HTs.out.trans0 t)⟩ (RdK.touch0 HO.out.rd (HTs.out.trans0 t))
          rw [HLN.out.2.1] at HRW
          simp only [PC.val] at HRW
          obtain ⟨p0, p1, p2, p3, p4, p5, p6, p7, p8, p9, p10, p11, p12, p13, p14, p15⟩ := blk16 HB.out
          clear hsc hTw hsl hlt hslk HSl HOs HFs HBs htlj HS2 HO
          go_wp2_with fail
          refine Hsc.out.mono ?_
          rintro e w5 ⟨⟨sA, sn, sc⟩, rfl, s1, s2, s3, s4, t5⟩
          have HY := Lib.hid (And.intro s1 (And.intro s2 (And.intro s3 t5)))
          have hrw := HRW.out w5 t5
          have Hrw := Lib.hid hrw
          have HB5 := Lib.hid (t5.blk HB.out (by simp))
          have HBr5 := Lib.hid (t5.blk HBr.out (by simp))
          clear s1 s2 s3 s4 t5 hrw p0 p1 p2 p3 p4 p5 p6 p7 p8 p9 p10 p11 p12 p13 p14 p15 Hsc
          obtain ⟨p0, p1, p2, p3, p4, p5, p6, p7, p8, p9, p10, p11, p12, p13, p14, p15⟩ := blk16 HB5.out
          go_wp2_with fail
          refine Hrw.out.mono ?_
          rintro e w6 ⟨⟨rA, rn, rc⟩, rfl, r1, r2, t6⟩
          have HZ := Lib.hid (And.intro r1 (And.intro r2 t6))
          have HBr6 := Lib.hid (t6.blk HBr5.out (by simp))
          obtain ⟨rer, rrows⟩ := rv
          dsimp only at hrn HVe HZ
          clear r1 r2 t6 Hrw p0 p1 p2 p3 p4 p5 p6 p7 p8 p9 p10 p11 p12 p13 p14 p15
          obtain ⟨z0, z1, y0, y1⟩ := blk2 HBr6.out
          by_cases hr0 : rer = 0
          · as_aux_lemma =>
            have HVf := Lib.hid (show nodeE vs cs (rer, rrows) = if fitV cs rrows = 0 then (0, cs, sortR rrows) else (fitV cs rrows, [], []) by rw [HVe.out, if_pos hr0])
            subst hr0
            clear HVe
            by_cases hf0 : fitV cs rrows = 0
            · as_aux_lemma =>
              have HVg := Lib.hid (show nodeE vs cs (0, rrows) = (0, cs, sortR rrows) by rw [HVf.out, if_pos hf0])
              have Hmk := Lib.hid (make_yes sA sc sn cs HY.out.1.symm HY.out.2.1 Hok.out.1 rA rc rn rrows HZ.out.1.symm Hok.out.2.1 Hok.out.2.2 w6 (HY.out.2.2.1.touch0 HZ.out.2.2) HZ.out.2.1 (by have := HY.out.1; omega) (by have := HZ.out.1; omega) hf0)
              clear HVf hf0
              go_wp2_with fail
              refine Hmk.out.mono ?_
              rintro e w7 ⟨⟨mA, mn, mc⟩, ⟨gA, gn', gc'⟩, out, rfl, hnt, hso, t7⟩
              have HM := Lib.hid (And.intro hnt (And.intro hso (And.intro t7 (t7.blk HBr6.out (by simp)))))
              clear hnt hso t7 Hmk z0 z1 y0 y1
              obtain ⟨z0, z1, y0, y1⟩ := blk2 HM.out.2.2.2
              go_wp2_with fail
              obtain ⟨hnt, hso, t7, hr7⟩ := HM.out
              have tq := touch2 w7 (w.heap.size + 1) (.slice mA mn mc) (.slice gA gn' gc')
              have hT6 := (HTw.out.trans0 HY.out.2.2.2).trans0 HZ.out.2.2
              have hs6 := hT6.size
              have hWs := HT0.out.2.2.2
              have hs7 : w.heap.size + 2 ≤ w6.heap.size := by
                have h1 := (((HT.out.trans0 HTs.out).trans0 HY.out.2.2.2).trans0 HZ.out.2.2).size
                omega
              refine bodyPost_ret (results_cell_two rfl _ _ (w.heap.size + 1) _ _ _ _ rfl (set2 hr7 rfl _ _) Tryz.underlying27 rfl rfl) rfl ?_
              rw [HPO.out, HVg.out, ← sortR_of hso]
              refine ⟨⟨mA, mn, mc⟩, ⟨gA, gn', gc'⟩, rfl, ?_, (hT6.trans0 t7).trans tq (fun b hb => .inr (by simp at hb; omega))⟩
              refine ⟨hnt.n, hnt.le, RdK.touch hnt.cols tq (fun b hb hm => ?_), fun b hb => ⟨?_, ?_⟩, hnt.m, ?_, fun b hb => ?_, hnt.apart⟩
              · have := (hnt.cf b hb).1; simp at hm; omega
              · have := (hnt.cf b hb).1; omega
              · have := (hnt.cf b hb).2; have := tq.size; omega
              · exact (hnt.rws.touch tq (fun b hb => by simp at hb; omega) (fun b hb => hnt.rf b hb)).base (by omega)
              · have := hnt.rf b hb; omega
            · as_aux_lemma =>
              have HVg := Lib.hid (show nodeE vs cs (0, rrows) = (fitV cs rrows, [], []) by rw [HVf.out, if_neg hf0])
              have hmk := make_no sA sc sn cs HY.out.1.symm Hok.out.1 rA rc rn rrows HZ.out.1.symm Hok.out.2.1 w6 (HY.out.2.2.1.touch0 HZ.out.2.2) HZ.out.2.1 (by have := HY.out.1; omega) (by have := HZ.out.1; omega) hf0
              obtain ⟨K, hK⟩ : ∃ K, K = fitV cs rrows := ⟨_, rfl⟩
              rw [← hK] at hmk HVg
              have Hmk := Lib.hid hmk
              clear HVf hf0 hK hmk
              go_wp2_with fail
              refine Hmk.out.mono ?_
              rintro e w7 ⟨rfl, t7⟩
              have HM := Lib.hid (And.intro t7 (t7.blk HBr6.out (by simp)))
              clear t7 Hmk z0 z1 y0 y1
              obtain ⟨z0, z1, y0, y1⟩ := blk2 HM.out.2
              go_wp2_with fail
              have hT6 := (HTw.out.trans0 HY.out.2.2.2).trans0 HZ.out.2.2
              refine bodyPost_ret (results_cell_two rfl _ _ (w.heap.size + 1) _ _ _ _ rfl (set2 HM.out.2 rfl _ _) Tryz.underlying27 rfl rfl) rfl ?_
              rw [HPO.out, HVg.out]
              exact EvPost.err K ((hT6.trans0 HM.out.1).trans (touch2 _ _ _ _) (fun b hb => .inr (by simp at hb; omega)))
          · as_aux_lemma =>
            have HVf := Lib.hid (show nodeE vs cs (rer, rrows) = (rer, [], []) by rw [HVe.out, if_neg hr0])
            have hq : (rer == 0) = false := by rw [beq_eq_false_iff_ne]; exact hr0
            have hq' : (rer != 0) = true := by rw [bne, hq]; rfl
            clear HVe
            go_wp2_with fail
            have hT6 := (HTw.out.trans0 HY.out.2.2.2).trans0 HZ.out.2.2
            refine bodyPost_ret (results_cell_two rfl _ _ (w.heap.size + 1) _ _ _ _ rfl (set2 HBr6.out rfl _ _) Tryz.underlying27 rfl rfl) rfl ?_
            rw [HPO.out, HVf.out]
            exact EvPost.err rer (hT6.trans (touch2 _ _ _ _) (fun b hb => .inr (by simp at hb; omega)))
end Go.Proofs.YtafoklilkdnepaaGreatDoor

/- relop.Plan.Size, Type: for every plan whose Args are known. -/
namespace Go.Proofs.YtafoklilkdnepaaGreatDoor
open Go.RowKit

/-- how many plans one is, wherever it is asked for -/
def SizeC (w : World) (x : PC) (k : Nat) : Prop := ∀ w', Touch [] w w' → Calls Tryz.prog 19 #[x.val] w' fun e w'' => e = .returned (.int .i64 k) ∧ Touch [] w' w''
theorem sum_take_succ (l : List Nat) (j : Nat) (h : j < l.length) : (l.take (j + 1)).sum = (l.take j).sum + l[j] := by
  rw [List.take_succ_eq_append_getElem h, List.sum_append]; simp
theorem sum_take_le' (l : List Nat) (j : Nat) : (l.take j).sum ≤ l.sum := by
  induction l generalizing j with
  | nil => simp
  | cons a l ih => cases j with
    | zero => simp
    | succ j => have := ih j; rw [List.take_succ_cons, List.sum_cons, List.sum_cons]; omega

set_option maxRecDepth 40000 in
set_option maxHeartbeats 6400000 in
theorem size_node (x : PC) (xs : List PC) (ks : List Nat) (w : World) (hxs : xs.length = x.args.n) (hks : ks.length = x.args.n) (hX : RdK pcE w x.args.A xs) (hT : ∀ i (h1 : i < xs.length) (h2 : i < ks.length), SizeC w xs[i] ks[i]) (hsum : ks.sum ≤ 1000000) (hnn : x.args.n ≤ 1000000) :
    Calls Tryz.prog 19 #[x.val] w fun e w'' => e = .returned (.int .i64 (1 + ks.sum : Nat)) ∧ Touch [] w w'' := by
  obtain ⟨k0, k1, ⟨A2, n2, c2'⟩, ⟨⟨ck, cn, ⟨cvk, cvn, cvt⟩, cop⟩, CA, cnn, cc⟩, ⟨NA, nn, nc⟩, ⟨EA, en, ec⟩, ⟨OA, ol, oc⟩, ⟨GA, gn, gc⟩, ⟨BA, bn, bc⟩, count⟩ := x
  dsimp only at hxs hks hX hnn ⊢
  simp only [PC.val]
  obtain ⟨W, hW⟩ : ∃ W, W = w.alloc (.cells #[.int .i64 k0, .string k1, .slice A2 n2 c2', .int .i64 ck, .string cn, .int .i64 cvk, .int .i64 cvn, .string cvt, .string cop, .slice CA cnn cc, .slice NA nn nc, .slice EA en ec, .slice OA ol oc, .slice GA gn gc, .slice BA bn bc, .int .i64 count] 49) := ⟨_, rfl⟩
  have t0 : Touch [] w W := hW ▸ (Touch.refl [] w).alloc _
  have HW := Lib.hid hW
  have HT0 := Lib.hid t0
  have HX := Lib.hid (RdK.touch0 hX t0)
  have HTy := Lib.hid hT
  have Hxs := Lib.hid hxs
  have Hks := Lib.hid hks
  have Hsum := Lib.hid hsum
  clear hW t0 hX hT hxs hks hsum
  go_enter Tryz.func19, Tryz.ntmps19
  go_wp2_with fail
  rw [← HW.out]
  go_loopw [3, 9] (fun o i wr => ∃ (j q : Nat), j ≤ n2 ∧ q ≤ 1000001 ∧ i = .int .i64 j ∧ o = .int .i64 q ∧ Hid (q = 1 + (ks.take j).sum) ∧ Hid (Touch [] W wr)) (fun _ i _ => n2 - (intOf i).toNat)
  case atStart => exact ⟨0, 1, by omega, by omega, rfl, rfl, Lib.hid (by simp), Lib.hid (Touch.refl _ _)⟩
  case round =>
    obtain ⟨j, q, hj, hq, rfl, rfl, HQ, HT⟩ := hrel
    by_cases hlt : j < n2
    · have hjx : j < xs.length := by rw [Hxs.out]; exact hlt
      have hjv : j < ks.length := by rw [Hks.out]; exact hlt
      obtain ⟨ad, b1, o1, rfl, hadd, hc⟩ := RdK.cells (HX.out.touch0 HT.out) 16 pcE_length (by omega) j hjx
      have hty := HTy.out j hjx hjv
      have hst := sum_take_succ ks j hjv
      have hsl := sum_take_le' ks (j + 1)
      obtain ⟨y, hy⟩ : ∃ y, y = xs[j] := ⟨_, rfl⟩
      obtain ⟨u, hu⟩ : ∃ u, u = ks[j] := ⟨_, rfl⟩
      rw [← hy] at hc hty
      rw [← hu] at hty hst
      obtain ⟨y0, y1, ⟨yA2, yn2, yc2⟩, ⟨⟨yck, ycn, ⟨ycvk, ycvn, ycvt⟩, ycop⟩, yCA, ycnn, ycc⟩, ⟨yNA, ynn, ync⟩, ⟨yEA, yen, yec⟩, ⟨yOA, yol, yoc⟩, ⟨yGA, ygn, ygc⟩, ⟨yBA, ybn, ybc⟩, ycount⟩ := y
      have e0 := hc 0 _ rfl; have e1 := hc 1 _ rfl; have e2 := hc 2 _ rfl; have e3 := hc 3 _ rfl; have e4 := hc 4 _ rfl; have e5 := hc 5 _ rfl; have e6 := hc 6 _ rfl; have e7 := hc 7 _ rfl
      have e8 := hc 8 _ rfl; have e9 := hc 9 _ rfl; have e10 := hc 10 _ rfl; have e11 := hc 11 _ rfl; have e12 := hc 12 _ rfl; have e13 := hc 13 _ rfl; have e14 := hc 14 _ rfl; have e15 := hc 15 _ rfl
      rw [Nat.add_zero] at e0
      dsimp only at e0 e1 e2 e3 e4 e5 e6 e7 e8 e9 e10 e11 e12 e13 e14 e15
      have ta := (Touch.refl [] wr).alloc (.cells #[.int .i64 y0, .string y1, .slice yA2 yn2 yc2, .int .i64 yck, .string ycn, .int .i64 ycvk, .int .i64 ycvn, .string ycvt, .string ycop, .slice yCA ycnn ycc, .slice yNA ynn ync, .slice yEA yen yec, .slice yOA yol yoc, .slice yGA ygn ygc, .slice yBA ybn ybc, .int .i64 ycount] 49)
      have hty2 := hty _ ((HT0.out.trans0 HT.out).trans0 ta)
      simp only [PC.val] at hty2
      have Hty := Lib.hid hty2
      have Hst := Lib.hid hst
      have Hsl := Lib.hid hsl
      have HTa := Lib.hid ta
      have hjn : (j : Int) < (n2 : Int) := by omega
      have hub : q + u ≤ 1000001 := by have := HQ.out; have := Hsum.out; omega
      clear hc hty hty2 hy hu ta hst hsl
      go_wp2_with fail
      refine Hty.out.mono ?_
      rintro e w1 ⟨rfl, t1⟩
      have HT1 := Lib.hid ((HT.out.trans0 HTa.out).trans0 t1)
      clear t1
      go_wp2_with fail
      go_roundw
      case rel => exact ⟨j + 1, q + u, by omega, hub, by go_num, by go_num, Lib.hid (by rw [Hst.out, HQ.out]; omega), HT1⟩
      case measure => simp [intOf]; omega
    · obtain rfl : j = n2 := by omega
      have Hq := Lib.hid (show q = 1 + ks.sum by rw [HQ.out, ← Hks.out, List.take_length])
      clear HQ
      go_wp2_with fail
      go_ret
      exact ⟨by rw [← Hq.out]; rfl, HT0.out.trans0 HT.out⟩

set_option maxRecDepth 40000 in
set_option maxHeartbeats 6400000 in
theorem type_any (x : PC) (k : Nat) (hk : k ≤ 64) (I : Option Addr) (ic n : Nat) (v : Int × List CD) (w : World) (hs : SizeC w x k) (ht : TypedC w I ic n x 1 v) :
    Calls Tryz.prog 16 #[x.val, .slice I n ic] w (TyPost w.heap.size v w) := by
  obtain ⟨k0, k1, ⟨A2, n2, c2'⟩, ⟨⟨ck, cn, ⟨cvk, cvn, cvt⟩, cop⟩, CA, cnn, cc⟩, ⟨NA, nn, nc⟩, ⟨EA, en, ec⟩, ⟨OA, ol, oc⟩, ⟨GA, gn, gc⟩, ⟨BA, bn, bc⟩, count⟩ := x
  simp only [PC.val]
  have ta := (Touch.refl [] w).alloc (.cells #[.int .i64 k0, .string k1, .slice A2 n2 c2', .int .i64 ck, .string cn, .int .i64 cvk, .int .i64 cvn, .string cvt, .string cop, .slice CA cnn cc, .slice NA nn nc, .slice EA en ec, .slice OA ol oc, .slice GA gn gc, .slice BA bn bc, .int .i64 count] 49)
  have hb := heap_alloc_new w (.cells #[.int .i64 k0, .string k1, .slice A2 n2 c2', .int .i64 ck, .string cn, .int .i64 cvk, .int .i64 cvn, .string cvt, .string cop, .slice CA cnn cc, .slice NA nn nc, .slice EA en ec, .slice OA ol oc, .slice GA gn gc, .slice BA bn bc, .int .i64 count] 49)
  have hs1 := hs _ ta
  simp only [PC.val] at hs1
  have Hs := Lib.hid hs1
  have Ht := Lib.hid ht
  have HA := Lib.hid (And.intro ta hb)
  clear ta hb hs hs1 ht
  have hk6 : (64 < (k : Int)) = False := by simp; omega
  go_enter Tryz.func16, Tryz.ntmps16
  go_wp2_with fail
  refine Hs.out.mono ?_
  rintro e w1 ⟨rfl, t1⟩
  obtain ⟨p0, p1, p2, p3, p4, p5, p6, p7, p8, p9, p10, p11, p12, p13, p14, p15⟩ := blk16 (t1.blk HA.out.2 (by simp))
  have ht1 := Ht.out w1 (HA.out.1.trans0 t1)
  simp only [PC.val] at ht1
  have Ht1 := Lib.hid ht1
  have HT1 := Lib.hid (HA.out.1.trans0 t1)
  clear t1 ht1 Ht
  go_wp2_with fail
  refine Ht1.out.mono ?_
  rintro e w2 ⟨⟨sA, sn, sc⟩, rfl, s1, s2, s3, s4, t2⟩
  have HY := Lib.hid (And.intro s1 (And.intro s2 (And.intro s3 (And.intro s4 t2))))
  clear s1 s2 s3 s4 t2
  go_wp2_with fail
  go_ret2
  obtain ⟨s1, s2, s3, s4, t2⟩ := HY.out
  exact ⟨⟨sA, sn, sc⟩, rfl, s1, s2, s3, fun b hb => ⟨Nat.le_trans HT1.out.size (s4 b hb).1, (s4 b hb).2⟩, HT1.out.trans0 t2⟩
end Go.Proofs.YtafoklilkdnepaaGreatDoor

/- relop.Plan.Eval: for every plan whose type and evaluation are known. -/
namespace Go.Proofs.YtafoklilkdnepaaGreatDoor
open Go.RowKit

def topV (v : Int × List CD) (ev : Int × List CD × List (List VD)) : Int × List CD × List (List VD) := if v.1 = 0 then ev else (v.1, [], [])

set_option maxRecDepth 40000 in
set_option maxHeartbeats 6400000 in
theorem evalTop (x : PC) (k : Nat) (hk : k ≤ 64) (I : Option Addr) (ic n : Nat) (v : Int × List CD) (ev : Int × List CD × List (List VD)) (w : World) (hs : SizeC w x k) (ht : TypedC w I ic n x 1 v) (he : v.1 = 0 → EvalC w I ic n x ev) :
    Calls Tryz.prog 12 #[x.val, .slice I n ic] w (EvPost (topV v ev) w) := by
  obtain ⟨PO, hPO⟩ : ∃ PO, PO = EvPost (topV v ev) w := ⟨_, rfl⟩
  rw [← hPO]
  have HPO := Lib.hid hPO
  obtain ⟨k0, k1, ⟨A2, n2, c2'⟩, ⟨⟨ck, cn, ⟨cvk, cvn, cvt⟩, cop⟩, CA, cnn, cc⟩, ⟨NA, nn, nc⟩, ⟨EA, en, ec⟩, ⟨OA, ol, oc⟩, ⟨GA, gn, gc⟩, ⟨BA, bn, bc⟩, count⟩ := x
  have Hty := Lib.hid fun w' (t : Touch [] w w') => type_any _ k hk I ic n v w' (fun w'' t2 => hs w'' (t.trans0 t2)) (fun w'' t2 => ht w'' (t.trans0 t2))
  have Hev := Lib.hid fun (h0 : v.1 = 0) w' (t : Touch [] w w') => he h0 w' t
  simp only [PC.val] at *
  obtain ⟨W, hW⟩ : ∃ W, W = (w.alloc (.cells #[.int .i64 k0, .string k1, .slice A2 n2 c2', .int .i64 ck, .string cn, .int .i64 cvk, .int .i64 cvn, .string cvt, .string cop, .slice CA cnn cc, .slice NA nn nc, .slice EA en ec, .slice OA ol oc, .slice GA gn gc, .slice BA bn bc, .int .i64 count] 49)).alloc (.cells #[.slice none 0 0, .slice none 0 0] 27) := ⟨_, rfl⟩
  have t0 : Touch [] w W := hW ▸ ((Touch.refl [] w).alloc _).alloc _
  have hb0 := hW ▸ ((Touch.refl [] (w.alloc (.cells #[.int .i64 k0, .string k1, .slice A2 n2 c2', .int .i64 ck, .string cn, .int .i64 cvk, .int .i64 cvn, .string cvt, .string cop, .slice CA cnn cc, .slice NA nn nc, .slice EA en ec, .slice OA ol oc, .slice GA gn gc, .slice BA bn bc, .int .i64 count] 49))).alloc (.cells #[.slice none 0 0, .slice none 0 0] 27)).blk (heap_alloc_new w _) (by simp)
  have hbt : W.heap[w.heap.size + 1]? = some (.cells #[.slice none 0 0, .slice none 0 0] 27 (0, 0)) := by
    have := heap_alloc_new (w.alloc (.cells #[.int .i64 k0, .string k1, .slice A2 n2 c2', .int .i64 ck, .string cn, .int .i64 cvk, .int .i64 cvn, .string cvt, .string cop, .slice CA cnn cc, .slice NA nn nc, .slice EA en ec, .slice OA ol oc, .slice GA gn gc, .slice BA bn bc, .int .i64 count] 49)) (.cells #[.slice none 0 0, .slice none 0 0] 27)
    rw [World.size_alloc] at this
    exact hW ▸ this
  have hWs : W.heap.size = w.heap.size + 2 := by rw [hW]; simp
  have HW := Lib.hid hW
  have HT0 := Lib.hid (And.intro t0 (And.intro hb0 (And.intro hbt hWs)))
  clear hW t0 hb0 hbt hWs hPO hs ht he
  go_enter Tryz.func12, Tryz.ntmps12
  go_wp2_with fail
  rw [← HW.out]
  refine (Hty.out _ HT0.out.1).mono ?_
  rintro e w1 ⟨⟨sA, sn, sc⟩, rfl, _, _, _, _, t1⟩
  have HT1 := Lib.hid (And.intro t1 (And.intro (t1.blk HT0.out.2.1 (by simp)) (t1.blk HT0.out.2.2.1 (by simp))))
  clear t1
  obtain ⟨ver, vcs⟩ := v
  by_cases hz : ver = 0
  · have HV := Lib.hid (show topV (ver, vcs) ev = ev by unfold topV; rw [if_pos hz])
    have Hev1 := Lib.hid (Hev.out hz w1 (HT0.out.1.trans0 HT1.out.1))
    subst hz
    obtain ⟨p0, p1, p2, p3, p4, p5, p6, p7, p8, p9, p10, p11, p12, p13, p14, p15⟩ := blk16 HT1.out.2.1
    go_wp2_with fail
    refine Hev1.out.mono ?_
    rintro e w2 ⟨⟨mA, mn, mc⟩, ⟨gA, gn', gc'⟩, rfl, hnt, t2⟩
    have HM := Lib.hid (And.intro hnt (And.intro t2 (t2.blk HT1.out.2.2 (by simp))))
    clear hnt t2 p0 p1 p2 p3 p4 p5 p6 p7 p8 p9 p10 p11 p12 p13 p14 p15
    obtain ⟨z0, z1, y0, y1⟩ := blk2 HM.out.2.2
    go_wp2_with fail
    obtain ⟨hnt, t2, hr2⟩ := HM.out
    have tq := touch2 w2 (w.heap.size + 1) (.slice mA mn mc) (.slice gA gn' gc')
    have hs7 := HT1.out.1.size
    have hWs := HT0.out.2.2.2
    refine bodyPost_ret (results_cell_two rfl _ _ (w.heap.size + 1) _ _ _ _ rfl (set2 hr2 rfl _ _) Tryz.underlying27 rfl rfl) rfl ?_
    rw [HPO.out, HV.out]
    refine ⟨⟨mA, mn, mc⟩, ⟨gA, gn', gc'⟩, rfl, ?_, ((HT0.out.1.trans0 HT1.out.1).trans0 t2).trans tq (fun b hb => .inr (by simp at hb; omega))⟩
    refine ⟨hnt.n, hnt.le, RdK.touch hnt.cols tq (fun b hb hm => ?_), fun b hb => ⟨?_, ?_⟩, hnt.m, ?_, fun b hb => ?_, hnt.apart⟩
    · have := (hnt.cf b hb).1; simp at hm; omega
    · have := (hnt.cf b hb).1; omega
    · have := (hnt.cf b hb).2; have := tq.size; omega
    · exact (hnt.rws.touch tq (fun b hb => by simp at hb; omega) (fun b hb => hnt.rf b hb)).base (by omega)
    · have := hnt.rf b hb; omega
  · have HV := Lib.hid (show topV (ver, vcs) ev = (ver, [], []) by unfold topV; rw [if_neg hz])
    have hq : (ver == 0) = false := by rw [beq_eq_false_iff_ne]; exact hz
    have hq' : (ver != 0) = true := by rw [bne, hq]; rfl
    obtain ⟨z0, z1, y0, y1⟩ := blk2 HT1.out.2.2
    go_wp2_with fail
    refine bodyPost_ret (results_cell_two rfl _ _ (w.heap.size + 1) _ _ _ _ rfl (set2 HT1.out.2.2 rfl _ _) Tryz.underlying27 rfl rfl) rfl ?_
    rw [HPO.out, HV.out]
    exact EvPost.err ver ((HT0.out.1.trans0 HT1.out.1).trans (touch2 _ _ _ _) (fun b hb => .inr (by simp at hb; omega)))
end Go.Proofs.YtafoklilkdnepaaGreatDoor

/- From the walks of each kind to what the general walks ask for. No program's function. -/
namespace Go.Proofs.YtafoklilkdnepaaGreatDoor
open Go.RowKit

theorem TyPost.base {b b' : Nat} {v : Int × List CD} {w : World} {e : Ending} {w' : World} (h : TyPost b v w e w') (hb : b' ≤ b) : TyPost b' v w e w' := by
  obtain ⟨s, h1, h2, h3, h4, h5, h6⟩ := h
  exact ⟨s, h1, h2, h3, h4, fun x hx => ⟨Nat.le_trans hb (h5 x hx).1, (h5 x hx).2⟩, h6⟩
theorem SizeC.touch0 {w w' : World} {x : PC} {k : Nat} (h : SizeC w x k) (ht : Touch [] w w') : SizeC w' x k := fun w'' t => h w'' (ht.trans0 t)
theorem TypedC.touch0 {w w' : World} {I : Option Addr} {ic n : Nat} {x : PC} {d : Int} {v : Int × List CD} (h : TypedC w I ic n x d v) (ht : Touch [] w w') : TypedC w' I ic n x d v := fun w'' t => h w'' (ht.trans0 t)
/-- a scan is one plan -/
theorem sizeC_leaf (x : PC) (h0 : x.args.n = 0) (w : World) : SizeC w x 1 := fun w' _ => by
  have := size_node x [] [] w' (by rw [h0]; rfl) (by rw [h0]; rfl) (RdK.nil _ _ _) (fun i h => absurd h (by simp)) (by simp) (by omega)
  exact this
theorem sizeC_node (x : PC) (xs : List PC) (ks : List Nat) (w : World) (hxs : xs.length = x.args.n) (hks : ks.length = x.args.n) (hX : RdK pcE w x.args.A xs) (hT : ∀ i (h1 : i < xs.length) (h2 : i < ks.length), SizeC w xs[i] ks[i]) (hsum : ks.sum ≤ 1000000) (hnn : x.args.n ≤ 1000000) : SizeC w x (1 + ks.sum) :=
  fun w' t => size_node x xs ks w' hxs hks (RdK.touch0 hX t) (fun i a b => (hT i a b).touch0 t) hsum hnn
theorem typedC_scan (x : PC) (hk0 : x.kind = 1) (ha0 : x.args.n = 0) (d : Int) (hd : d ≤ 16) (I : Option Addr) (ic n : Nat) (l : List SrcD) (hn : l.length = n) (hl : n ≤ 1000000) (hok : ∀ d ∈ l, d.Ok) (w : World) (hG : NeedsAt w) (h : SrcsAt w I l) : TypedC w I ic n x d (scanV l x.name) :=
  fun w' t => typed_scan x hk0 ha0 d hd I ic n l hn hl hok w' (hG.touch0 t) (h.touch0 t)
theorem typedC_node (x : PC) (kk m : Nat) (hk0 : x.kind = kk) (hk2 : 2 ≤ kk) (hk9 : kk ≤ 9) (hm : x.args.n = m) (hnd : needV kk = m) (d : Int) (hd0 : 0 ≤ d) (hd : d ≤ 16) (I : Option Addr) (ic n : Nat) (w : World) (hG : NeedsAt w)
    (xs : List PC) (vs : List (Int × List CD)) (hxs : xs.length = m) (hvs : vs.length = m) (hX : RdK pcE w x.args.A xs) (hT : ∀ i (h1 : i < xs.length) (h2 : i < vs.length), TypedC w I ic n xs[i] (d + 1) vs[i])
    (v : Int × List CD) (hv : errL vs = 0 → SchemaC w x (vs.map (·.2)) v) (hok : ∀ c ∈ v.2, c.Ok) (hvl : v.2.length ≤ 1000000) : TypedC w I ic n x d (nodeV vs v) :=
  fun w' t => typed_node x kk m hk0 hk2 hk9 hm hnd d hd0 hd I ic n w' (hG.touch0 t) xs vs hxs hvs (RdK.touch0 hX t) (fun i a b => (hT i a b).touch0 t) v (fun h0 w'' base L lc sl t2 => hv h0 w'' base L lc sl (t.trans0 t2)) hok hvl
theorem evalC_scan (x : PC) (hk0 : x.kind = 1) (ha0 : x.args.n = 0) (I : Option Addr) (ic n : Nat) (l : List SrcD) (hn : l.length = n) (hl : n ≤ 1000000) (k : Nat) (hkl : k < l.length) (hs : srcI l x.name = some k) (hcl : l[k].cs.length ≤ 1000000) (hrl : l[k].rows.length ≤ 1000000) (hrr : RowsLe l[k].rows) (w : World) (h : SrcsAt w I l) : EvalC w I ic n x (0, l[k].cs, l[k].rows) :=
  fun w' t => eval_scan x hk0 ha0 I ic n l hn hl k hkl hs hcl hrl hrr w' (h.touch0 t)
theorem evalC_node (x : PC) (kk m : Nat) (hk0 : x.kind = kk) (hk2 : 2 ≤ kk) (hm : x.args.n = m) (hm2 : m ≤ 2) (I : Option Addr) (ic n : Nat) (w : World)
    (xs : List PC) (vs : List (Int × List CD × List (List VD))) (hxs : xs.length = m) (hvs : vs.length = m) (hX : RdK pcE w x.args.A xs) (hE : ∀ i (h1 : i < xs.length) (h2 : i < vs.length), EvalC w I ic n xs[i] vs[i])
    (ver : Int) (cs : List CD) (hS : errL (vs.map fun v => (v.1, v.2.1)) = 0 → SchemaC w x (vs.map (·.2.1)) (ver, cs)) (rv : Int × List (List VD)) (hR : errL (vs.map fun v => (v.1, v.2.1)) = 0 → RowsC w x (vs.map (·.2)) rv)
    (hok : ∀ c ∈ cs, c.Ok) (hvl : cs.length ≤ 1000000) (hrk : RowsOk rv.2) (hrl : RowsLe rv.2) (hrn : rv.2.length ≤ 1000000) : EvalC w I ic n x (nodeE vs cs rv) :=
  fun w' t => eval_node x kk m hk0 hk2 hm hm2 I ic n w' xs vs hxs hvs (RdK.touch0 hX t) (fun i a b w'' t2 => hE i a b w'' (t.trans0 t2)) ver cs (fun h0 w'' base L lc sl t2 => hS h0 w'' base L lc sl (t.trans0 t2)) rv (fun h0 w'' L lc tl t2 => hR h0 w'' L lc tl (t.trans0 t2)) hok hvl hrk hrl hrn
/-- the schema of a join -/
theorem schemaC_join (x : PC) (hk0 : x.kind = 4) (on : List (ByteArray × ByteArray)) (ho : x.on.n = on.length) (hlo : on.length ≤ 1000000) (a b : List CD) (hl1 : a.length ≤ 1000) (hl2 : b.length ≤ 1000) (w : World) (hr : RdK prE w x.on.A on) : SchemaC w x [a, b] (onV a b on, a ++ b) := by
  intro w' base L lc sl t hb hs hL
  obtain ⟨hs1, hs2⟩ := hs
  match sl, hs1 with
  | [s1, s2], _ =>
    have h1 := hs2 0 (by simp) (by simp)
    have h2 := hs2 1 (by simp) (by simp)
    refine (schema_join x hk0 on ho hlo L lc s1 s2 a b h1.1 h2.1 h1.2.1 h2.2.1 hl1 hl2 w' hL (RdK.touch0 hr t) h1.2.2.1 h2.2.2.1).mono ?_
    rintro e w'' ⟨A, c, rfl, hm⟩
    exact (TyPost.made hm).base hb
/-- the schema of a group -/
theorem schemaC_group (x : PC) (hk0 : x.kind = 6) (names : List ByteArray) (aggs : List AG) (hnn : x.names.n = names.length) (han : x.aggs.n = aggs.length) (hln : names.length ≤ 100000) (hla : aggs.length ≤ 100000) (a : List CD) (hl1 : a.length ≤ 1000) (w : World)
    (hr : RdK btE w x.names.A names) (hg : RdK agE w x.aggs.A aggs) : SchemaC w x [a] (groupV a names aggs) := by
  intro w' base L lc sl t hb hs hL
  obtain ⟨hs1, hs2⟩ := hs
  match sl, hs1 with
  | [s1], _ =>
    have h1 := hs2 0 (by simp) (by simp)
    refine (schema_group x hk0 names aggs hnn han hln hla L lc s1 a h1.1 hl1 w' hL (RdK.touch0 hr t) (RdK.touch0 hg t) h1.2.2.1).mono ?_
    intro e w'' h
    exact (TyPost.of h).base hb
theorem rowsC_join (x : PC) (hk0 : x.kind = 4) (on : List (ByteArray × ByteArray)) (ho : x.on.n = on.length) (hlo : on.length ≤ 1000) (csA csB : List CD) (rowsA rowsB : List (List VD)) (w : World)
    (hr : RdK prE w x.on.A on) (hgA : GoodR w rowsA csA.length) (hgB : GoodR w rowsB csB.length)
    (hA0 : 0 < csA.length) (hB0 : 0 < csB.length) (hA1 : csA.length ≤ 16) (hB1 : csB.length ≤ 16) (hA2 : rowsA.length ≤ 4096) (hB2 : rowsB.length ≤ 4096) :
    RowsC w x [(csA, rowsA), (csB, rowsB)] (joinV false csB.length rowsA rowsB (placesV csA (on.map (·.1))) (placesV csB (on.map (·.2)))) := by
  intro w' L lc tl t hs hL
  obtain ⟨hs1, hs2⟩ := hs
  match tl, hs1 with
  | [t1, t2], _ => exact rows_join x hk0 on ho hlo L lc t1 t2 csA csB rowsA rowsB w' hL (hs2 0 (by simp) (by simp)) (hs2 1 (by simp) (by simp)) (RdK.touch0 hr t) (hgA.touch0 t) (hgB.touch0 t) hA0 hB0 hA1 hB1 hA2 hB2
theorem rowsC_group0 (x : PC) (hk0 : x.kind = 6) (h1 : x.names.n = 0) (h2 : x.aggs.n = 1) (op nm : ByteArray) (cs : List CD) (hl : cs.length ≤ 1000000) (w : World) (hg : RdK agE w x.aggs.A [⟨op, ⟨#[]⟩, nm⟩]) : RowsC w x [(cs, [])] (0, [[⟨1, 0, ⟨#[]⟩⟩]]) := by
  intro w' L lc tl t hs hL
  obtain ⟨hs1, hs2⟩ := hs
  match tl, hs1 with
  | [t1], _ => exact rows_group0 x hk0 h1 h2 op nm L lc t1 cs hl w' hL (hs2 0 (by simp) (by simp)) (RdK.touch0 hg t)
theorem sortR_one (r : List VD) : sortR [r] = [r] := (sortR_of (rows := [r]) ⟨.refl _, by simp⟩).symm
end Go.Proofs.YtafoklilkdnepaaGreatDoor

/- Slices of numbers; schema.Schema.Equal: for every schemas. -/
namespace Go.Proofs.YtafoklilkdnepaaGreatDoor
open Go.RowKit

theorem info_int : (Tryz.prog.info? 3).map (fun i => (i.zero, i.size, i.bytes)) = some (some (.int .i64 0), 1, 8) := by kernel_rfl

/-- are two columns one? -/
def eqC (a b : CD) : Bool := decide (a.name = b.name) && decide (a.typ = b.typ)
theorem eqC_iff (a b : CD) : eqC a b = true ↔ a = b := by
  obtain ⟨an, aty⟩ := a
  obtain ⟨bn, bty⟩ := b
  simp [eqC]
theorem eqIn_col (a b : CD) (w : World) : (Op.equalIn 10000 29 (.agg #[.string a.name, .int .i64 a.typ]) (.agg #[.string b.name, .int .i64 b.typ])).run Tryz.prog w = .ok (eqC a b) w := by
  have hS : Tryz.prog.underlying 29 = some (.struct (Tryz.prog.fieldsOf 29)) := by kernel_rfl
  have hp : Tryz.prog.stoodInHeld 29 = false := by kernel_rfl
  rw [show (10000 : Nat) = 9999 + 1 from rfl, run_equalIn_agg w 9999 29 _ _ hS hp]
  simp only [Program.fieldsOf, Tryz.underlying29]
  have hs := bs_beq a.name b.name
  go_simp
  by_cases h1 : a.name = b.name <;> by_cases h2 : a.typ = b.typ <;> simp [eqC, h1, h2]
theorem guard_col (op : BinOp) (x y : Operand) (a b : Array Value) (w : World) : (eqGuard op 29 x y (.agg a) (.agg b)).run Tryz.prog w = .ok () w := run_eqGuard_agg w op _ x y _ _ (by kernel_rfl)

/-- are two lists of columns one? -/
def eqCs : List CD → List CD → Bool
  | [], [] => true
  | a :: r, b :: s => eqC a b && eqCs r s
  | _, _ => false
theorem eqCs_iff (l r : List CD) : eqCs l r = true ↔ l = r := by
  induction l generalizing r with
  | nil => cases r <;> simp [eqCs]
  | cons a l ih => cases r with
    | nil => simp [eqCs]
    | cons b r => simp [eqCs, ih, eqC_iff]

set_option maxRecDepth 20000 in
set_option maxHeartbeats 1600000 in
theorem equalC_any (A B : Option Addr) (c1 c2 n m : Nat) (l r : List CD) (hn : l.length = n) (hm : r.length = m) (w : World) (h : ColsAt w A l) (h2 : ColsAt w B r) (hl : n ≤ 140737000000000) (hl2 : m ≤ 140737000000000) :
    Calls Tryz.prog 34 #[.slice A n c1, .slice B m c2] w fun e w' => e = .returned (.bool (eqCs l r)) ∧ Touch [] w w' := by
  subst hn hm
  by_cases hlen : l.length = r.length
  · have Hlen := Lib.hid hlen
    have hq : ((l.length : Int) == (r.length : Int)) = true := by rw [beq_iff_eq]; omega
    have hq' : ((l.length : Int) != (r.length : Int)) = false := by rw [bne, hq]; rfl
    clear hlen
    go_enter Tryz.func34, Tryz.ntmps34
    go_wp2
    clear hq hq'
    go_loopw [13] (fun i wr => ∃ k : Nat, k ≤ l.length ∧ i = .int .i64 k ∧ Hid (eqCs l r = eqCs (l.drop k) (r.drop k)) ∧ Touch [] w wr) (fun i _ => l.length - (intOf i).toNat)
    case atStart => exact ⟨0, by omega, rfl, Lib.hid rfl, Touch.refl _ _⟩
    case round =>
      obtain ⟨k, hk, rfl, He, ht⟩ := hrel
      by_cases hlt : k < l.length
      · have hlt2 : k < r.length := by have := Hlen.out; omega
        obtain ⟨ad, b, off, rfl, hadd, c0, c1⟩ := (h.touch0 ht).at_ k hlt
        obtain ⟨bd, b2, off2, rfl, hadd2, d0, d1⟩ := (h2.touch0 ht).at_ k hlt2
        have hst : eqCs l r = (eqC l[k] r[k] && eqCs (l.drop (k + 1)) (r.drop (k + 1))) := by
          rw [He.out, List.drop_eq_getElem_cons hlt, List.drop_eq_getElem_cons hlt2]; rfl
        have heq := eqIn_col l[k] r[k]
        obtain ⟨x, hx⟩ : ∃ x, x = l[k] := ⟨_, rfl⟩
        obtain ⟨y, hy⟩ : ∃ y, y = r[k] := ⟨_, rfl⟩
        rw [← hx, ← hy] at hst heq
        rw [← hx] at c0 c1
        rw [← hy] at d0 d1
        have Hst := Lib.hid hst
        have hgd := guard_col
        have g0 := TW.cell c0
        have g1 := TW.cell c1
        have g2 := TW.cell d0
        have g3 := TW.cell d1
        have hkI0 : (0 : Int) ≤ (k : Int) := by omega
        have hkI : (k : Int) < (l.length : Int) := by omega
        have hkI2 : (k : Int) < (r.length : Int) := by omega
        clear hst hx hy He c0 c1 d0 d1
        rcases hxy : eqC x y with _ | _
        · have Hf := Lib.hid (show eqCs l r = false by rw [Hst.out, hxy]; rfl)
          rw [hxy] at heq
          clear hxy
          go_wp2
          refine wp_region_tw wr (Touch.refl _ _) (by kernel_rfl) (by kernel_rfl) ?_
          repeat (go_big_quiet_step (fail))
          refine wpQuiet_nil ?_
          rintro _ ⟨x2, rfl⟩
          go_wp2
          go_ret
          exact ⟨ret_bool (by rw [Hf.out]), ht.trans0 x2.t⟩
        · have Hf := Lib.hid (show eqCs l r = eqCs (l.drop (k + 1)) (r.drop (k + 1)) by rw [Hst.out, hxy]; rfl)
          rw [hxy] at heq
          clear hxy
          go_wp2
          refine wp_region_tw wr (Touch.refl _ _) (by kernel_rfl) (by kernel_rfl) ?_
          repeat (go_big_quiet_step (fail))
          refine wpQuiet_nil ?_
          rintro _ ⟨x2, rfl⟩
          go_wp2
          go_roundw
          case rel => exact ⟨k + 1, by omega, by go_num, Hf, ht.trans0 x2.t⟩
          case measure => simp [intOf]; omega
      · obtain rfl : k = l.length := by omega
        have Hf := Lib.hid (show eqCs l r = true by rw [He.out, List.drop_length, List.drop_of_length_le (by have := Hlen.out; omega)]; rfl)
        go_wp2
        go_ret
        exact ⟨ret_bool (by rw [Hf.out]), ht⟩
  · have Hf := Lib.hid (show eqCs l r = false by
      rw [Bool.eq_false_iff]
      intro h
      rw [eqCs_iff] at h
      exact hlen (by rw [h]))
    have hq : ((l.length : Int) == (r.length : Int)) = false := by rw [beq_eq_false_iff_ne]; omega
    have hq' : ((l.length : Int) != (r.length : Int)) = true := by rw [bne, hq]; rfl
    clear hlen
    go_enter Tryz.func34, Tryz.ntmps34
    go_wp2
    go_ret
    exact ⟨ret_bool (by rw [Hf.out]), Touch.refl _ _⟩
theorem schEqual_any (A B : Option Addr) (c1 c2 n m : Nat) (l r : List CD) (hn : l.length = n) (hm : r.length = m) (w : World) (h : ColsAt w A l) (h2 : ColsAt w B r) (hl : n ≤ 140737000000000) (hl2 : m ≤ 140737000000000) :
    Calls Tryz.prog 18 #[.slice A n c1, .slice B m c2] w fun e w' => e = .returned (.bool (eqCs l r)) ∧ Touch [] w w' := by
  go_enter Tryz.func18, Tryz.ntmps18
  go_wp2_with fail
  refine (equalC_any A B c1 c2 n m l r hn hm w h h2 hl hl2).mono ?_
  rintro e w1 ⟨rfl, t1⟩
  go_wp2
  go_ret
  exact ⟨rfl, t1⟩
end Go.Proofs.YtafoklilkdnepaaGreatDoor

/- slices.Equal at values. For every rows. -/
namespace Go.Proofs.YtafoklilkdnepaaGreatDoor
open Go.RowKit

/-- are two values one? -/
def eqV (a b : VD) : Bool := decide (a.kind = b.kind) && (decide (a.num = b.num) && decide (a.text = b.text))
theorem eqV_iff (a b : VD) : eqV a b = true ↔ a = b := by
  obtain ⟨ak, an, at_⟩ := a
  obtain ⟨bk, bn, bt⟩ := b
  simp [eqV]
theorem eqIn_val (a b : VD) (w : World) : (Op.equalIn 10000 31 (.agg #[.int .i64 a.kind, .int .i64 a.num, .string a.text]) (.agg #[.int .i64 b.kind, .int .i64 b.num, .string b.text])).run Tryz.prog w = .ok (eqV a b) w := by
  have hS : Tryz.prog.underlying 31 = some (.struct (Tryz.prog.fieldsOf 31)) := by kernel_rfl
  have hp : Tryz.prog.stoodInHeld 31 = false := by kernel_rfl
  rw [show (10000 : Nat) = 9999 + 1 from rfl, run_equalIn_agg w 9999 31 _ _ hS hp]
  simp only [Program.fieldsOf, Tryz.underlying31]
  have hs := bs_beq a.text b.text
  go_simp
  by_cases h1 : a.kind = b.kind <;> by_cases h2 : a.num = b.num <;> by_cases h3 : a.text = b.text <;> simp [eqV, h1, h2, h3]
theorem guard_val (op : BinOp) (x y : Operand) (a b : Array Value) (w : World) : (eqGuard op 31 x y (.agg a) (.agg b)).run Tryz.prog w = .ok () w := run_eqGuard_agg w op _ x y _ _ (by kernel_rfl)
def eqVs : List VD → List VD → Bool
  | [], [] => true
  | a :: r, b :: s => eqV a b && eqVs r s
  | _, _ => false
theorem eqVs_iff (l r : List VD) : eqVs l r = true ↔ l = r := by
  induction l generalizing r with
  | nil => cases r <;> simp [eqVs]
  | cons a l ih => cases r with
    | nil => simp [eqVs]
    | cons b r => simp [eqVs, ih, eqV_iff]

set_option maxRecDepth 20000 in
set_option maxHeartbeats 1600000 in
theorem equalV_any (A B : Option Addr) (c1 c2 n m : Nat) (l r : List VD) (hn : l.length = n) (hm : r.length = m) (w : World) (h : ValsAt w A l) (h2 : ValsAt w B r) (hl : n ≤ 140737000000000) (hl2 : m ≤ 140737000000000) :
    Calls Tryz.prog 54 #[.slice A n c1, .slice B m c2] w fun e w' => e = .returned (.bool (eqVs l r)) ∧ Touch [] w w' := by
  subst hn hm
  by_cases hlen : l.length = r.length
  · have Hlen := Lib.hid hlen
    have hq : ((l.length : Int) == (r.length : Int)) = true := by rw [beq_iff_eq]; omega
    have hq' : ((l.length : Int) != (r.length : Int)) = false := by rw [bne, hq]; rfl
    clear hlen
    go_enter Tryz.func54, Tryz.ntmps54
    go_wp2
    clear hq hq'
    go_loopw [13] (fun i wr => ∃ k : Nat, k ≤ l.length ∧ i = .int .i64 k ∧ Hid (eqVs l r = eqVs (l.drop k) (r.drop k)) ∧ Touch [] w wr) (fun i _ => l.length - (intOf i).toNat)
    case atStart => exact ⟨0, by omega, rfl, Lib.hid rfl, Touch.refl _ _⟩
    case round =>
      obtain ⟨k, hk, rfl, He, ht⟩ := hrel
      by_cases hlt : k < l.length
      · have hlt2 : k < r.length := by have := Hlen.out; omega
        obtain ⟨ad, b, off, rfl, hadd, c0, c1, c2'⟩ := (h.touch0 ht).at_ k hlt
        obtain ⟨bd, b2, off2, rfl, hadd2, d0, d1, d2⟩ := (h2.touch0 ht).at_ k hlt2
        have hst : eqVs l r = (eqV l[k] r[k] && eqVs (l.drop (k + 1)) (r.drop (k + 1))) := by
          rw [He.out, List.drop_eq_getElem_cons hlt, List.drop_eq_getElem_cons hlt2]; rfl
        have heq := eqIn_val l[k] r[k]
        obtain ⟨x, hx⟩ : ∃ x, x = l[k] := ⟨_, rfl⟩
        obtain ⟨y, hy⟩ : ∃ y, y = r[k] := ⟨_, rfl⟩
        rw [← hx, ← hy] at hst heq
        rw [← hx] at c0 c1 c2'
        rw [← hy] at d0 d1 d2
        have Hst := Lib.hid hst
        have hgd := guard_val
        have g0 := TW.cell c0
        have g1 := TW.cell c1
        have g2 := TW.cell d0
        have g3 := TW.cell d1
        have g4 := TW.cell c2'
        have g5 := TW.cell d2
        have hkI0 : (0 : Int) ≤ (k : Int) := by omega
        have hkI : (k : Int) < (l.length : Int) := by omega
        have hkI2 : (k : Int) < (r.length : Int) := by omega
        clear hst hx hy He c0 c1 d0 d1 c2' d2
        rcases hxy : eqV x y with _ | _
        · have Hf := Lib.hid (show eqVs l r = false by rw [Hst.out, hxy]; rfl)
          rw [hxy] at heq
          clear hxy
          go_wp2
          refine wp_region_tw wr (Touch.refl _ _) (by kernel_rfl) (by kernel_rfl) ?_
          repeat (go_big_quiet_step (fail))
          refine wpQuiet_nil ?_
          rintro _ ⟨x2, rfl⟩
          go_wp2
          go_ret
          exact ⟨ret_bool (by rw [Hf.out]), ht.trans0 x2.t⟩
        · have Hf := Lib.hid (show eqVs l r = eqVs (l.drop (k + 1)) (r.drop (k + 1)) by rw [Hst.out, hxy]; rfl)
          rw [hxy] at heq
          clear hxy
          go_wp2
          refine wp_region_tw wr (Touch.refl _ _) (by kernel_rfl) (by kernel_rfl) ?_
          repeat (go_big_quiet_step (fail))
          refine wpQuiet_nil ?_
          rintro _ ⟨x2, rfl⟩
          go_wp2
          go_roundw
          case rel => exact ⟨k + 1, by omega, by go_num, Hf, ht.trans0 x2.t⟩
          case measure => simp [intOf]; omega
      · obtain rfl : k = l.length := by omega
        have Hf := Lib.hid (show eqVs l r = true by rw [He.out, List.drop_length, List.drop_of_length_le (by have := Hlen.out; omega)]; rfl)
        go_wp2
        go_ret
        exact ⟨ret_bool (by rw [Hf.out]), ht⟩
  · have Hf := Lib.hid (show eqVs l r = false by
      rw [Bool.eq_false_iff]
      intro h
      rw [eqVs_iff] at h
      exact hlen (by rw [h]))
    have hq : ((l.length : Int) == (r.length : Int)) = false := by rw [beq_eq_false_iff_ne]; omega
    have hq' : ((l.length : Int) != (r.length : Int)) = true := by rw [bne, hq]; rfl
    clear hlen
    go_enter Tryz.func54, Tryz.ntmps54
    go_wp2
    go_ret
    exact ⟨ret_bool (by rw [Hf.out]), Touch.refl _ _⟩
end Go.Proofs.YtafoklilkdnepaaGreatDoor
