/- Part 12 of the texts of this proof, one behind the other. No condition beyond those that its theorems state. -/
import Derived.Test.YtafoklilkdnepaaGreatDoorRn11
set_option maxRecDepth 40000
set_option maxHeartbeats 25600000
namespace Go.Proofs.YtafoklilkdnepaaGreatDoor
section
open Go.RowKit
theorem cmpI_zero (a b : Int) (h : Lib.compareInt a b = 0) : a = b := by
 unfold Lib.compareInt at h
 by_cases h1 : a < b
 ·rw [if_pos h1] at h; cases h
 ·rw [if_neg h1] at h
  by_cases h2 : a = b
  ·exact h2
  ·exfalso
   split at h <;> first | omega | cases h
theorem cmpB_zero : ∀ a b : List UInt8, Lib.compareBytes a b = 0 -> a = b
 | [], [] => fun _ => rfl
 | [], _ :: _ => fun h => by simp [Lib.compareBytes] at h
 | _ :: _, [] => fun h => by simp [Lib.compareBytes] at h
 | x :: a, y :: b => fun h => by
  rw [Lib.compareBytes] at h
  by_cases h1 : x < y
  ·rw [if_pos h1] at h; cases h
  ·rw [if_neg h1] at h
   by_cases h2 : y < x
   ·rw [if_pos h2] at h; cases h
   ·rw [if_neg h2] at h
    have h3 := mt UInt8.lt_iff_toNat_lt.2 h1
    have h4 := mt UInt8.lt_iff_toNat_lt.2 h2
    have e : x = y := UInt8.toNat_inj.1 (by omega)
    rw [e, cmpB_zero a b h]
theorem cmpVV_if (a b : VD) : cmpVV a b = if Lib.compareInt a.kind b.kind = 0 then (if Lib.compareInt a.num b.num = 0 then Lib.compareBytes a.text.data.toList b.text.data.toList else Lib.compareInt a.num b.num) else Lib.compareInt a.kind b.kind := by
 unfold cmpVV
 simp only [orV]
 split
 ·split
  ·by_cases h : Lib.compareBytes a.text.data.toList b.text.data.toList = 0
   ·rw [if_pos h, h]
   ·rw [if_neg h]
  ·rfl
 ·rfl
theorem cmpVV_zero (a b : VD) (h : cmpVV a b = 0) : a = b := by
 rw [cmpVV_if] at h
 by_cases h1 : Lib.compareInt a.kind b.kind = 0
 ·rw [if_pos h1] at h
  by_cases h2 : Lib.compareInt a.num b.num = 0
  ·rw [if_pos h2] at h
   obtain ⟨ak, an, at_⟩ := a
   obtain ⟨bk, bn, bt⟩ := b
   dsimp only at h1 h2 h
   rw [cmpI_zero _ _ h1, cmpI_zero _ _ h2, bs_eq (cmpB_zero _ _ h)]
  ·rw [if_neg h2] at h; exact absurd h h2
 ·rw [if_neg h1] at h; exact absurd h h1
theorem cmpRV_zero : ∀ (a b : List VD), cmpRV a b = 0 -> a = b := by
 intro a
 induction a with
 | nil => intro b h; cases b with
  | nil => rfl
  | cons y b => simp [cmpRV] at h
 | cons x a ih =>
  intro b h
  cases b with
  | nil => simp [cmpRV] at h
  | cons y b =>
   rw [cmpRV] at h
   by_cases hv : cmpVV x y = 0
   ·rw [if_pos hv] at h
    rw [ih b h, cmpVV_zero x y hv]
   ·rw [if_neg hv] at h; exact absurd h hv
theorem sorted_unique : ∀ {l1 l2 : List (List VD)}, l1.Perm l2 -> l1.Pairwise (fun a b => cmpRV a b <= 0) -> l2.Pairwise (fun a b => cmpRV a b <= 0) -> l1 = l2
 | [], l2, h, _, _ => (List.nil_perm.1 h).symm
 | a :: l1, [], h, _, _ => absurd h.length_eq (by simp)
 | a :: l1, b :: l2, h, h1, h2 => by
  have hab : a = b := by
   rw [List.pairwise_cons] at h1 h2
   have ha : a ∈ b :: l2 := h.mem_iff.1 List.mem_cons_self
   have hb : b ∈ a :: l1 := h.mem_iff.2 List.mem_cons_self
   rcases List.mem_cons.1 ha with q | q
   ·exact q
   ·rcases List.mem_cons.1 hb with q2 | q2
    ·exact q2.symm
    ·have e1 := h2.1 a q
     have e2 := h1.1 b q2
     have e3 := cmpRV_neg a b
     exact cmpRV_zero a b (by omega)
  subst hab
  rw [sorted_unique (List.Perm.cons_inv h) (List.pairwise_cons.1 h1).2 (List.pairwise_cons.1 h2).2]
def sortR (rows : List (List VD)) : List (List VD) := rows.mergeSort fun a b => decide (cmpRV a b <= 0)
theorem sortR_of {rows out : List (List VD)} (h : SortedOf rows out) : out = sortR rows := by
 have hp : (sortR rows).Perm rows := List.mergeSort_perm _ _
 have hs : (sortR rows).Pairwise fun a b => cmpRV a b <= 0 := by
  have := List.pairwise_mergeSort (le := fun a b : List VD => decide (cmpRV a b <= 0))
   (fun a b c h1 h2 => by
    have := tr_row a b c (of_decide_eq_true h1) (of_decide_eq_true h2)
    exact decide_eq_true this.1)
   (fun a b => by
    have := cmpRV_neg a b
    by_cases q : cmpRV a b <= 0
    ·simp [q]
    ·simp; right; omega) rows
  exact this.imp fun h => of_decide_eq_true h
 exact sorted_unique (h.1.trans hp.symm) h.2 hs
structure TabU (lo hi : Nat) (w : World) (s r : SL) (cs : List CD) (rows : List (List VD)) : Prop where
 n : s.n = cs.length
 le : s.n <= s.c
 cols : ColsAt w s.A cs
 cf : ∀ b ∈ fpo s.A, lo <= b /\ b < hi
 m : r.n = rows.length
 rws : ∃ sl, SlsAt w sl rows /\ OwnK 33 1 slE w r.A r.c sl /\ ∀ s ∈ sl, ∀ b ∈ fpo s.A, b ∉ fpo r.A /\ lo <= b /\ b < hi
 rf : ∀ b ∈ fpo r.A, lo <= b /\ b < hi
 apart : ∀ b ∈ fpo s.A, b ∉ fpo r.A
theorem TabU.of {base : Nat} {w : World} {s r : SL} {cs : List CD} {rows : List (List VD)} (h : NewTab base w s r cs rows) : TabU base w.heap.size w s r cs rows := by
 obtain ⟨sl, h1, h2, h3⟩ := h.rws
 exact ⟨h.n, h.le, h.cols, h.cf, h.m, ⟨sl, h1, h2, fun s hs b hb => ⟨(h3 s hs b hb).1, (h3 s hs b hb).2.2, (h3 s hs b hb).2.1⟩⟩, fun b hb => ⟨h.rf b hb, h2.lt b hb⟩, h.apart⟩
theorem TabU.touch {lo hi : Nat} {w w' : World} {s r : SL} {cs : List CD} {rows : List (List VD)} {fp : List Nat} (h : TabU lo hi w s r cs rows) (ht : Touch fp w w') (hf : ∀ b ∈ fp, b < lo \/ hi <= b) : TabU lo hi w' s r cs rows := by
 obtain ⟨sl, h1, h2, h3⟩ := h.rws
 refine ⟨h.n, h.le, RdK.touch h.cols ht (fun b hb hm => ?_), h.cf, h.m, ⟨sl, h1.touch ht (fun s hs b hb hm => ?_), h2.touch ht (fun b hb hm => ?_), h3⟩, h.rf, h.apart⟩
 ·have := h.cf b hb; have := hf b hm; omega
 ·have := (h3 s hs b hb).2; have := hf b hm; omega
 ·have := h.rf b hb; have := hf b hm; omega
theorem TabU.tab {lo hi : Nat} {w : World} {s r : SL} {cs : List CD} {rows : List (List VD)} (h : TabU lo hi w s r cs rows) : TabAt w s r cs rows := by
 obtain ⟨sl, h1, h2, _⟩ := h.rws
 exact ⟨h.n, h.le, h.cols, h.m, sl, h1, h2.rd⟩
def EvPost (v : Int × List CD × List (List VD)) (w : World) (e : Ending) (w' : World) : Prop := ∃ s r : SL, e = .returned (.tuple #[.agg #[.slice s.A s.n s.c, .slice r.A r.n r.c], .int .i64 v.1]) /\ NewTab w.heap.size w' s r v.2.1 v.2.2 /\ Touch [] w w'
theorem NewTab.nil (base : Nat) (w : World) : NewTab base w ⟨none, 0, 0⟩ ⟨none, 0, 0⟩ [] [] := ⟨rfl, Nat.le_refl _, RdK.nil _ _ _, by simp [fpo], rfl, OwnR.nil _ _ _, by simp [fpo], by simp [fpo]⟩
theorem EvPost.err {w w' : World} (k : Int) (ht : Touch [] w w') : EvPost (k, [], []) w (.returned (.tuple #[.agg #[.slice none 0 0, .slice none 0 0], .int .i64 k])) w' :=
 ⟨⟨none, 0, 0⟩, ⟨none, 0, 0⟩, rfl, NewTab.nil _ _, ht⟩
def EvalC (w : World) (I : Option Addr) (ic n : Nat) (x : PC) (v : Int × List CD × List (List VD)) : Prop := ∀ w', Touch [] w w' -> Calls Tryz.prog 30 #[x.val, .slice I n ic] w' (EvPost v w')
theorem eval_scan (x : PC) (hk0 : x.kind = 1) (ha0 : x.args.n = 0) (I : Option Addr) (ic n : Nat) (l : List SrcD) (hn : l.length = n) (hl : n <= 1000000) (k : Nat) (hkl : k < l.length) (hs : srcI l x.name = some k) (hcl : l[k].cs.length <= 1000000) (hrl : l[k].rows.length <= 1000000) (hrr : RowsLe l[k].rows) (w : World) (h : SrcsAt w I l) :
  Calls Tryz.prog 30 #[x.val, .slice I n ic] w (EvPost (0, l[k].cs, l[k].rows) w) := by
 obtain ⟨k0, k1, ⟨A2, n2, c2'⟩, ⟨⟨ck, cn, ⟨cvk, cvn, cvt⟩, cop⟩, CA, cnn, cc⟩, ⟨NA, nn, nc⟩, ⟨EA, en, ec⟩, ⟨OA, ol, oc⟩, ⟨GA, gn, gc⟩, ⟨BA, bn, bc⟩, count⟩ := x
 dsimp only at hk0 ha0 hs ⊢
 subst hk0 ha0
 simp only [PC.val]
 obtain ⟨PO, hPO⟩ : ∃ PO, PO = EvPost (0, l[k].cs, l[k].rows) w := ⟨_, rfl⟩
 rw [<- hPO]
 have HPO := lh hPO
 obtain ⟨W, hW⟩ : ∃ W, W = (w.alloc (.cells #[.int .i64 1, .string k1, .slice A2 0 c2', .int .i64 ck, .string cn, .int .i64 cvk, .int .i64 cvn, .string cvt, .string cop, .slice CA cnn cc, .slice NA nn nc, .slice EA en ec, .slice OA ol oc, .slice GA gn gc, .slice BA bn bc, .int .i64 count] 49)).alloc (.cells #[.slice none 0 0, .slice none 0 0] 27) := ⟨_, rfl⟩
 have t0 : Touch [] w W := hW ▸ ((Touch.refl [] w).alloc _).alloc _
 have hb0 := hW ▸ ((Touch.refl [] (w.alloc (.cells #[.int .i64 1, .string k1, .slice A2 0 c2', .int .i64 ck, .string cn, .int .i64 cvk, .int .i64 cvn, .string cvt, .string cop, .slice CA cnn cc, .slice NA nn nc, .slice EA en ec, .slice OA ol oc, .slice GA gn gc, .slice BA bn bc, .int .i64 count] 49))).alloc (.cells #[.slice none 0 0, .slice none 0 0] 27)).blk (heap_alloc_new w _) (by simp)
 have hbt : W.heap[w.heap.size + 1]? = some (.cells #[.slice none 0 0, .slice none 0 0] 27 (0, 0)) := by
  have := heap_alloc_new (w.alloc (.cells #[.int .i64 1, .string k1, .slice A2 0 c2', .int .i64 ck, .string cn, .int .i64 cvk, .int .i64 cvn, .string cvt, .string cop, .slice CA cnn cc, .slice NA nn nc, .slice EA en ec, .slice OA ol oc, .slice GA gn gc, .slice BA bn bc, .int .i64 count] 49)) (.cells #[.slice none 0 0, .slice none 0 0] 27)
  rw [World.size_alloc] at this
  exact hW ▸ this
 have hWs : W.heap.size = w.heap.size + 2 := by rw [hW]; simp
 have q0 : W.cell? ⟨w.heap.size, 0, none⟩ = some (.int .i64 1) := cell_blk hb0 rfl
 have q1 : W.cell? ⟨w.heap.size, 1, none⟩ = some (.string k1) := cell_blk hb0 rfl
 have q2 : W.cell? ⟨w.heap.size, 2, none⟩ = some (.slice A2 0 c2') := cell_blk hb0 rfl
 have HW := lh hW
 have HT0 := lh (And.intro t0 (And.intro hbt hWs))
 have Hs := lh (source_yes I ic n l hn k1 W (h.touch0 t0) (by omega) k hkl hs)
 have Hcp := lh fun (s1 r1 : SL) w' (t : TabAt w' s1 r1 l[k].cs l[k].rows) => copy_any s1 r1 _ _ hcl hrl hrr w' t
 clear hs h hb0 hbt hW t0 hPO hcl hrl hrr hWs
 go_enter Tryz.func30, Tryz.ntmps30
 go_wp2_with fail
 rw [<- HW.out]
 refine wp_loop_rounds 1 ?_
 rw [rounds_succ]
 go_wp2_with fail
 refine Hs.out.mono ?_
 rintro e w1 ⟨s1, r1, rfl, htab, t1⟩
 obtain ⟨SA, sn, sc⟩ := s1
 obtain ⟨RA, rn, rc⟩ := r1
 have ta := (Touch.refl [] w1).alloc (.cells #[.slice SA sn sc, .slice RA rn rc] 27)
 have hcp := Hcp.out _ _ _ (htab.touch0 ta)
 have HX := lh (And.intro (t1.trans0 ta) (ta.blk (t1.blk HT0.out.2.1 (by simp)) (by simp)))
 have Hc2 := lh hcp
 clear t1 ta hcp htab Hs
 go_wp2_with fail
 refine Hc2.out.mono ?_
 rintro e w2 ⟨⟨sA, sn', sc'⟩, ⟨rA, rn', rc'⟩, rfl, hnt, t2⟩
 obtain ⟨z0, z1, y0, y1⟩ := blk2 (t2.blk HX.out.2 (by simp))
 have HY := lh (And.intro hnt (And.intro t2 (t2.blk HX.out.2 (by simp))))
 clear hnt t2
 go_wp2_with fail
 obtain ⟨hnt, t2, hr2⟩ := HY.out
 have hs1 := HX.out.1.size
 have hs0 := HT0.out.2.2
 have tq := touch2 w2 (w.heap.size + 1) (.slice sA sn' sc') (.slice rA rn' rc')
 refine bodyPost_ret (results_cell_two rfl _ _ (w.heap.size + 1) _ _ _ _ rfl (set2 hr2 rfl _ _) Tryz.underlying27 rfl rfl) rfl ?_
 rw [HPO.out]
 refine ⟨⟨sA, sn', sc'⟩, ⟨rA, rn', rc'⟩, rfl, ?_, ((HT0.out.1.trans0 HX.out.1).trans0 t2).trans tq (fun b hb => .inr (by simp at hb; omega))⟩
 have hn3 : NewTab W.heap.size w2 _ _ _ _ := hnt.base hs1
 refine ⟨hn3.n, hn3.le, RdK.touch hn3.cols tq (fun b hb hm => ?_), fun b hb => ⟨?_, ?_⟩, hn3.m, ?_, fun b hb => ?_, hn3.apart⟩
 ·have := (hn3.cf b hb).1; simp at hm; omega
 ·have := (hn3.cf b hb).1; omega
 ·have := (hn3.cf b hb).2; have := tq.size; omega
 ·exact (hn3.rws.touch tq (fun b hb => by simp at hb; omega) (fun b hb => hn3.rf b hb)).base (by omega)
 ·have := hn3.rf b hb; omega
end
section
open Go.RowKit
def tbE (t : SL × SL) : List Value := [.slice t.1.A t.1.n t.1.c, .slice t.2.A t.2.n t.2.c]
theorem tbE_length (t : SL × SL) : (tbE t).length = 2 := rfl
theorem tbE_one (t : SL × SL) : ∀ u ∈ tbE t, u.oneCell' = true := by
 intro u hu
 simp only [tbE, List.mem_cons, List.not_mem_nil, or_false] at hu
 rcases hu with rfl | rfl <;> rfl
def RowsPost (rv : Int × List (List VD)) (w : World) (e : Ending) (w' : World) : Prop := ∃ r : SL, e = .returned (.tuple #[.slice r.A r.n r.c, .int .i64 rv.1]) /\ r.n = rv.2.length /\ RowsAt w' r.A rv.2 /\ Touch [] w w'
theorem rows_group0 (x : PC) (hk0 : x.kind = 6) (h1 : x.names.n = 0) (h2 : x.aggs.n = 1) (op nm : ByteArray) (L : Option Addr) (lc : Nat) (ta : SL × SL) (cs : List CD) (hl : cs.length <= 1000000) (w : World)
  (hL : RdK tbE w L [ta]) (hTA : TabAt w ta.1 ta.2 cs []) (hg : RdK agE w x.aggs.A [⟨op, ⟨#[]⟩, nm⟩]) :
  Calls Tryz.prog 65 #[x.val, .slice L 1 lc] w (RowsPost (0, [[⟨1, 0, ⟨#[]⟩⟩]]) w) := by
 obtain ⟨⟨SA, sn, sc⟩, ⟨RA, rn, rc⟩⟩ := ta
 obtain ⟨k0, k1, ⟨A2, n2, c2'⟩, ⟨⟨ck, cn, ⟨cvk, cvn, cvt⟩, cop⟩, CA, cnn, cc⟩, ⟨NA, nn, nc⟩, ⟨EA, en, ec⟩, ⟨OA, ol, oc⟩, ⟨GA, gn, gc⟩, ⟨BA, bn, bc⟩, count⟩ := x
 dsimp only at hk0 h1 h2 hg hTA
 subst hk0
 obtain ⟨ad, bl, bo, rfl, hadd0, hc0⟩ := RdK.cells hL 2 tbE_length (by omega) 0 (by simp)
 have l0 := hc0 0 _ rfl
 have l1 := hc0 1 _ rfl
 simp only [Nat.zero_mul, Nat.add_zero] at hadd0 l0 l1
 simp only [List.getElem_cons_zero] at l0 l1
 have Hj := lh fun w' (t : Touch [] w w') => group_zero ⟨6, k1, ⟨A2, n2, c2'⟩, ⟨⟨ck, cn, ⟨cvk, cvn, cvt⟩, cop⟩, CA, cnn, cc⟩, ⟨NA, nn, nc⟩, ⟨EA, en, ec⟩, ⟨OA, ol, oc⟩, ⟨GA, gn, gc⟩, ⟨BA, bn, bc⟩, count⟩ h1 h2 op nm ⟨SA, sn, sc⟩ ⟨RA, rn, rc⟩ cs hTA.n hl hTA.m w' (RdK.touch0 hg t) (hTA.cols.touch0 t)
 simp only [PC.val] at *
 obtain ⟨W, hW⟩ : ∃ W, W = w.alloc (.cells #[.int .i64 6, .string k1, .slice A2 n2 c2', .int .i64 ck, .string cn, .int .i64 cvk, .int .i64 cvn, .string cvt, .string cop, .slice CA cnn cc, .slice NA nn nc, .slice EA en ec, .slice OA ol oc, .slice GA gn gc, .slice BA bn bc, .int .i64 count] 49) := ⟨_, rfl⟩
 have t0 : Touch [] w W := hW ▸ (Touch.refl [] w).alloc _
 have hb0 := hW ▸ heap_alloc_new w (.cells #[.int .i64 6, .string k1, .slice A2 n2 c2', .int .i64 ck, .string cn, .int .i64 cvk, .int .i64 cvn, .string cvt, .string cop, .slice CA cnn cc, .slice NA nn nc, .slice EA en ec, .slice OA ol oc, .slice GA gn gc, .slice BA bn bc, .int .i64 count] 49)
 have l0d := t0.drew.cell l0 (by simp)
 have l1d := t0.drew.cell l1 (by simp)
 obtain ⟨p0, p1, p2, p3, p4, p5, p6, p7, p8, p9, p10, p11, p12, p13, p14, p15⟩ := blk16 ((Touch.refl [] W).drew.blk hb0 (by simp))
 have HP : Hid (W.drew.cell? ⟨w.heap.size, 0, none⟩ = some (.int .i64 6) /\ W.drew.cell? ⟨w.heap.size, 1, none⟩ = some (.string k1) /\ W.drew.cell? ⟨w.heap.size, 2, none⟩ = some (.slice A2 n2 c2') /\ W.drew.cell? ⟨w.heap.size, 3, none⟩ = some (.int .i64 ck) /\ W.drew.cell? ⟨w.heap.size, 4, none⟩ = some (.string cn) /\ W.drew.cell? ⟨w.heap.size, 5, none⟩ = some (.int .i64 cvk) /\ W.drew.cell? ⟨w.heap.size, 6, none⟩ = some (.int .i64 cvn) /\ W.drew.cell? ⟨w.heap.size, 7, none⟩ = some (.string cvt) /\ W.drew.cell? ⟨w.heap.size, 8, none⟩ = some (.string cop) /\ W.drew.cell? ⟨w.heap.size, 9, none⟩ = some (.slice CA cnn cc) /\ W.drew.cell? ⟨w.heap.size, 10, none⟩ = some (.slice NA nn nc) /\ W.drew.cell? ⟨w.heap.size, 11, none⟩ = some (.slice EA en ec) /\ W.drew.cell? ⟨w.heap.size, 12, none⟩ = some (.slice OA ol oc) /\ W.drew.cell? ⟨w.heap.size, 13, none⟩ = some (.slice GA gn gc) /\ W.drew.cell? ⟨w.heap.size, 14, none⟩ = some (.slice BA bn bc) /\ W.drew.cell? ⟨w.heap.size, 15, none⟩ = some (.int .i64 count) /\ W.drew.cell? ⟨bl, bo, none⟩ = some (.slice SA sn sc) /\ W.drew.cell? ⟨bl, bo + 1, none⟩ = some (.slice RA rn rc)) := lh ⟨p0, p1, p2, p3, p4, p5, p6, p7, p8, p9, p10, p11, p12, p13, p14, p15, l0d, l1d⟩
 have HW := lh hW
 have HT0 := lh t0.drew
 clear h1 h2 hg hTA hL hc0 hW t0 l0 l1 hb0 l0d l1d p0 p1 p2 p3 p4 p5 p6 p7 p8 p9 p10 p11 p12 p13 p14 p15
 go_enter Tryz.func65, Tryz.ntmps65
 go_wp2_with fail
 rw [<- HW.out]
 go_region_held3 (fun w' => w'.cell? ⟨w.heap.size, 0, none⟩ = some (.int .i64 6) /\ w'.cell? ⟨w.heap.size, 1, none⟩ = some (.string k1) /\ w'.cell? ⟨w.heap.size, 2, none⟩ = some (.slice A2 n2 c2') /\ w'.cell? ⟨w.heap.size, 3, none⟩ = some (.int .i64 ck) /\ w'.cell? ⟨w.heap.size, 4, none⟩ = some (.string cn) /\ w'.cell? ⟨w.heap.size, 5, none⟩ = some (.int .i64 cvk) /\ w'.cell? ⟨w.heap.size, 6, none⟩ = some (.int .i64 cvn) /\ w'.cell? ⟨w.heap.size, 7, none⟩ = some (.string cvt) /\ w'.cell? ⟨w.heap.size, 8, none⟩ = some (.string cop) /\ w'.cell? ⟨w.heap.size, 9, none⟩ = some (.slice CA cnn cc) /\ w'.cell? ⟨w.heap.size, 10, none⟩ = some (.slice NA nn nc) /\ w'.cell? ⟨w.heap.size, 11, none⟩ = some (.slice EA en ec) /\ w'.cell? ⟨w.heap.size, 12, none⟩ = some (.slice OA ol oc) /\ w'.cell? ⟨w.heap.size, 13, none⟩ = some (.slice GA gn gc) /\ w'.cell? ⟨w.heap.size, 14, none⟩ = some (.slice BA bn bc) /\ w'.cell? ⟨w.heap.size, 15, none⟩ = some (.int .i64 count) /\ w'.cell? ⟨bl, bo, none⟩ = some (.slice SA sn sc) /\ w'.cell? ⟨bl, bo + 1, none⟩ = some (.slice RA rn rc)) (first | exact HP.out | exact keep18 M1.out.2 HP.out) (first
  | (go_at_call 97; refine (Hj.out _ HT0.out).mono ?_; rintro e w1 ⟨A1, c1, rfl, m1⟩; have M1 := lh m1; clear m1))
 go_wp2_with fail
 go_ret2
 exact ⟨⟨A1, 1, c1⟩, rfl, rfl, M1.out.1, HT0.out.trans0 M1.out.2⟩
end
section
open Go.RowKit
def nodeE (vs : List (Int × List CD × List (List VD))) (cs : List CD) (rv : Int × List (List VD)) : Int × List CD × List (List VD) :=
 if errL (vs.map fun v => (v.1, v.2.1)) = 0 then (if rv.1 = 0 then (if fitV cs rv.2 = 0 then (0, cs, sortR rv.2) else (fitV cs rv.2, [], [])) else (rv.1, [], [])) else (errL (vs.map fun v => (v.1, v.2.1)), [], [])
def TabsU (base : Nat) (L : Option Addr) (w : World) (tl : List (SL × SL)) (vs : List (List CD × List (List VD))) : Prop := tl.length = vs.length /\ ∀ i (h1 : i < tl.length) (h2 : i < vs.length), ∃ lo hi, TabU lo hi w tl[i].1 tl[i].2 vs[i].1 vs[i].2 /\ base <= lo /\ hi <= w.heap.size /\ ∀ b ∈ fpo L, b < lo \/ hi <= b
theorem TabsU.nil (base : Nat) (L : Option Addr) (w : World) : TabsU base L w [] [] := ⟨rfl, fun i h => absurd h (by simp)⟩
theorem TabsU.touch0 {base : Nat} {L : Option Addr} {w w' : World} {tl : List (SL × SL)} {vs : List (List CD × List (List VD))} (h : TabsU base L w tl vs) (ht : Touch [] w w') : TabsU base L w' tl vs := ⟨h.1, fun i a b => by
 obtain ⟨lo, hi, h1, h2, h3, h4⟩ := h.2 i a b
 exact ⟨lo, hi, h1.touch ht (by simp), h2, Nat.le_trans h3 ht.size, h4⟩⟩
theorem TabsU.grow {base : Nat} {L L' : Option Addr} {w w' : World} {tl : List (SL × SL)} {vs : List (List CD × List (List VD))} (h : TabsU base L w tl vs) (ht : Touch (fpo L) w w') (hf : ∀ b ∈ fpo L', b ∈ fpo L \/ w.heap.size <= b) : TabsU base L' w' tl vs := ⟨h.1, fun i a b => by
 obtain ⟨lo, hi, h1, h2, h3, h4⟩ := h.2 i a b
 exact ⟨lo, hi, h1.touch ht h4, h2, Nat.le_trans h3 ht.size, fun b hb => by
  rcases hf b hb with q | q
  ·exact h4 b q
  ·right; omega⟩⟩
theorem TabsU.snoc {base : Nat} {L : Option Addr} {w : World} {tl : List (SL × SL)} {vs : List (List CD × List (List VD))} (h : TabsU base L w tl vs) (s r : SL) (cs : List CD) (rows : List (List VD)) (lo hi : Nat) (h1 : TabU lo hi w s r cs rows) (h2 : base <= lo) (h3 : hi <= w.heap.size) (h4 : ∀ b ∈ fpo L, b < lo \/ hi <= b) : TabsU base L w (tl ++ [(s, r)]) (vs ++ [(cs, rows)]) := by
 refine ⟨by rw [List.length_append, List.length_append, h.1]; rfl, fun i a b => ?_⟩
 by_cases hi' : i < tl.length
 ·have hi2 : i < vs.length := by rw [<- h.1]; exact hi'
  rw [List.getElem_append_left hi', List.getElem_append_left hi2]
  exact h.2 i hi' hi2
 ·have hi'' : i = tl.length := by rw [List.length_append] at a; simp at a; omega
  subst hi''
  have e1 : (tl ++ [(s, r)])[tl.length] = (s, r) := by simp
  have e2 : (vs ++ [(cs, rows)])[tl.length] = (cs, rows) := by rw [List.getElem_append_right (by rw [h.1]; exact Nat.le_refl _)]; simp [h.1]
  rw [e1, e2]
  exact ⟨lo, hi, h1, h2, h3, h4⟩
def RowsC (w : World) (x : PC) (tabs : List (List CD × List (List VD))) (rv : Int × List (List VD)) : Prop := ∀ w' (L : Option Addr) (lc : Nat) (tl : List (SL × SL)), Touch [] w w' -> (tl.length = tabs.length /\ ∀ i (h1 : i < tl.length) (h2 : i < tabs.length), TabAt w' tl[i].1 tl[i].2 tabs[i].1 tabs[i].2) -> RdK tbE w' L tl ->
 Calls Tryz.prog 65 #[x.val, .slice L tabs.length lc] w' (RowsPost rv w')
theorem info_t5 : (Tryz.prog.info? 27).map (fun i => (i.zero, i.size, i.bytes)) = some (some (.agg #[.slice none 0 0, .slice none 0 0]), 2, 48) := by kernel_rfl
theorem eval_node (x : PC) (kk m : Nat) (hk0 : x.kind = kk) (hk2 : 2 <= kk) (hm : x.args.n = m) (hm2 : m <= 2) (I : Option Addr) (ic n : Nat) (w : World)
  (xs : List PC) (vs : List (Int × List CD × List (List VD))) (hxs : xs.length = m) (hvs : vs.length = m) (hX : RdK pcE w x.args.A xs) (hE : ∀ i (h1 : i < xs.length) (h2 : i < vs.length), EvalC w I ic n xs[i] vs[i])
  (ver : Int) (cs : List CD) (hS : errL (vs.map fun v => (v.1, v.2.1)) = 0 -> SchemaC w x (vs.map (·.2.1)) (ver, cs)) (rv : Int × List (List VD)) (hR : errL (vs.map fun v => (v.1, v.2.1)) = 0 -> RowsC w x (vs.map (·.2)) rv)
  (hok : ∀ c ∈ cs, c.Ok) (hvl : cs.length <= 1000000) (hrk : RowsOk rv.2) (hrl : RowsLe rv.2) (hrn : rv.2.length <= 1000000) :
  Calls Tryz.prog 30 #[x.val, .slice I n ic] w (EvPost (nodeE vs cs rv) w) := by
 obtain ⟨PO, hPO⟩ : ∃ PO, PO = EvPost (nodeE vs cs rv) w := ⟨_, rfl⟩
 rw [<- hPO]
 have HPO := lh hPO
 have HSC := lh hS
 have HRC := lh hR
 obtain ⟨k0, k1, ⟨A2, n2, c2'⟩, ⟨⟨ck, cn, ⟨cvk, cvn, cvt⟩, cop⟩, CA, cnn, cc⟩, ⟨NA, nn, nc⟩, ⟨EA, en, ec⟩, ⟨OA, ol, oc⟩, ⟨GA, gn, gc⟩, ⟨BA, bn, bc⟩, count⟩ := x
 dsimp only at hk0 hm hX ⊢
 subst hk0 hm
 simp only [PC.val]
 obtain ⟨W, hW⟩ : ∃ W, W = (w.alloc (.cells #[.int .i64 (kk : Nat), .string k1, .slice A2 n2 c2', .int .i64 ck, .string cn, .int .i64 cvk, .int .i64 cvn, .string cvt, .string cop, .slice CA cnn cc, .slice NA nn nc, .slice EA en ec, .slice OA ol oc, .slice GA gn gc, .slice BA bn bc, .int .i64 count] 49)).alloc (.cells #[.slice none 0 0, .slice none 0 0] 27) := ⟨_, rfl⟩
 have t0 : Touch [] w W := hW ▸ ((Touch.refl [] w).alloc _).alloc _
 have hb0 := hW ▸ ((Touch.refl [] (w.alloc (.cells #[.int .i64 (kk : Nat), .string k1, .slice A2 n2 c2', .int .i64 ck, .string cn, .int .i64 cvk, .int .i64 cvn, .string cvt, .string cop, .slice CA cnn cc, .slice NA nn nc, .slice EA en ec, .slice OA ol oc, .slice GA gn gc, .slice BA bn bc, .int .i64 count] 49))).alloc (.cells #[.slice none 0 0, .slice none 0 0] 27)).blk (heap_alloc_new w _) (by simp)
 have hbt : W.heap[w.heap.size + 1]? = some (.cells #[.slice none 0 0, .slice none 0 0] 27 (0, 0)) := by
  have := heap_alloc_new (w.alloc (.cells #[.int .i64 (kk : Nat), .string k1, .slice A2 n2 c2', .int .i64 ck, .string cn, .int .i64 cvk, .int .i64 cvn, .string cvt, .string cop, .slice CA cnn cc, .slice NA nn nc, .slice EA en ec, .slice OA ol oc, .slice GA gn gc, .slice BA bn bc, .int .i64 count] 49)) (.cells #[.slice none 0 0, .slice none 0 0] 27)
  rw [World.size_alloc] at this
  exact hW ▸ this
 have hWs : W.heap.size = w.heap.size + 2 := by rw [hW]; simp
 have q2 : W.cell? ⟨w.heap.size, 2, none⟩ = some (.slice A2 n2 c2') := cell_blk hb0 rfl
 have hkc : ((kk : Int) == 1) = false := by rw [beq_eq_false_iff_ne]; omega
 have HW := lh hW
 have HT0 := lh (And.intro t0 (And.intro hb0 (And.intro hbt hWs)))
 have HX := lh (RdK.touch0 hX t0)
 have HEv := lh hE
 have Hxs := lh hxs
 have Hvs := lh hvs
 have Hok := lh (And.intro hok (And.intro hrk hrl))
 clear hb0 hbt hW t0 hX hE hxs hvs hPO hS hR hWs hok hrk hrl
 go_enter Tryz.func30, Tryz.ntmps30
 go_wp2_with fail
 rw [<- HW.out]
 go_loopw [6, 23] (fun o i wr => ∃ (j : Nat) (L : Option Addr) (lc : Nat) (tl : List (SL × SL)), j <= n2 /\ i = .int .i64 j /\ o = .slice L j lc /\ Hid (∀ i (hi : i < j) (h2 : i < vs.length), vs[i].1 = 0) /\ Hid (TabsU W.heap.size L wr tl ((vs.map (·.2)).take j)) /\ Hid (OwnK 27 2 tbE wr L lc tl) /\ Hid (∀ b ∈ fpo L, W.heap.size <= b) /\ Hid (Touch [] W wr)) (fun _ i _ => n2 - (intOf i).toNat)
 case atStart => exact ⟨0, none, 0, [], by omega, rfl, rfl, lh (fun i h => absurd h (by omega)), lh (TabsU.nil _ _ _), lh (OwnK.nil _ _ _ _), lh (by simp [fpo]), lh (Touch.refl _ _)⟩
 case round =>
  obtain ⟨j, L, lc, tl, hj, rfl, rfl, HE, HS, HO, HF, HT⟩ := hrel
  have htlj : Hid (tl.length = j) := lh (by rw [HS.out.1, List.length_take, List.length_map, Hvs.out]; omega)
  by_cases hlt : j < n2
  ·have hjx : j < xs.length := by rw [Hxs.out]; exact hlt
   have hjv : j < vs.length := by rw [Hvs.out]; exact hlt
   obtain ⟨ad, b1, o1, rfl, hadd, hc⟩ := RdK.cells (HX.out.touch0 HT.out) 16 pcE_length (by omega) j hjx
   have hty := HEv.out j hjx hjv
   have hmv : (vs.map (·.2)).take (j + 1) = (vs.map (·.2)).take j ++ [vs[j].2] := by
    rw [List.take_succ_eq_append_getElem (by rw [List.length_map]; exact hjv), List.getElem_map]
   have her : vs[j].1 ≠ 0 -> errL (vs.map fun v => (v.1, v.2.1)) = vs[j].1 := fun h0 => by
    have := errL_at (l := vs.map fun v => (v.1, v.2.1)) (j := j) (by rw [List.length_map]; exact hjv) (fun i hi => by rw [List.getElem_map]; exact HE.out i hi (by omega)) (by rw [List.getElem_map]; exact h0)
    rw [this, List.getElem_map]
   obtain ⟨y, hy⟩ : ∃ y, y = xs[j] := ⟨_, rfl⟩
   obtain ⟨u, hu⟩ : ∃ u, u = vs[j] := ⟨_, rfl⟩
   rw [<- hy] at hc hty
   rw [<- hu] at hty hmv her
   obtain ⟨y0, y1, ⟨yA2, yn2, yc2⟩, ⟨⟨yck, ycn, ⟨ycvk, ycvn, ycvt⟩, ycop⟩, yCA, ycnn, ycc⟩, ⟨yNA, ynn, ync⟩, ⟨yEA, yen, yec⟩, ⟨yOA, yol, yoc⟩, ⟨yGA, ygn, ygc⟩, ⟨yBA, ybn, ybc⟩, ycount⟩ := y
   have e0 := hc 0 _ rfl; have e1 := hc 1 _ rfl; have e2 := hc 2 _ rfl; have e3 := hc 3 _ rfl; have e4 := hc 4 _ rfl; have e5 := hc 5 _ rfl; have e6 := hc 6 _ rfl; have e7 := hc 7 _ rfl
   have e8 := hc 8 _ rfl; have e9 := hc 9 _ rfl; have e10 := hc 10 _ rfl; have e11 := hc 11 _ rfl; have e12 := hc 12 _ rfl; have e13 := hc 13 _ rfl; have e14 := hc 14 _ rfl; have e15 := hc 15 _ rfl
   rw [Nat.add_zero] at e0
   dsimp only at e0 e1 e2 e3 e4 e5 e6 e7 e8 e9 e10 e11 e12 e13 e14 e15
   have ta := (Touch.refl [] wr).alloc (.cells #[.int .i64 y0, .string y1, .slice yA2 yn2 yc2, .int .i64 yck, .string ycn, .int .i64 ycvk, .int .i64 ycvn, .string ycvt, .string ycop, .slice yCA ycnn ycc, .slice yNA ynn ync, .slice yEA yen yec, .slice yOA yol yoc, .slice yGA ygn ygc, .slice yBA ybn ybc, .int .i64 ycount] 49)
   have hty2 := hty _ ((HT0.out.1.trans0 HT.out).trans0 ta)
   simp only [PC.val] at hty2
   have Hty := lh hty2
   have Hmv := lh hmv
   have HTa := lh ta
   have hjn : (j : Int) < (n2 : Int) := by omega
   obtain ⟨uer, ucs, urows⟩ := u
   dsimp only at her hmv Hmv Hty
   have Hu := lh hu
   clear hc hty hty2 hy hu hmv ta
   by_cases hz : uer = 0
   ·as_aux_lemma =>
    subst hz
    clear her
    go_wp2_with fail
    refine Hty.out.mono ?_
    rintro e w1 ⟨⟨sA, sn, sc⟩, ⟨rA, rn, rc⟩, rfl, hnt, t1⟩
    have hUT : TabU (wr.heap.size + 1) w1.heap.size w1 ⟨sA, sn, sc⟩ ⟨rA, rn, rc⟩ ucs urows := by
     have := TabU.of hnt
     rw [World.size_alloc] at this
     exact this
    have T1 := HTa.out.trans0 t1
    have hs1 := HTa.out.size
    rw [World.size_alloc] at hs1
    have HY := lh (And.intro hUT t1.size)
    have HT1 := lh T1
    have tb := (Touch.refl [] w1).alloc (.cells #[.slice sA sn sc, .slice rA rn rc] 27)
    have HTb := lh (And.intro tb (heap_alloc_new w1 (.cells #[.slice sA sn sc, .slice rA rn rc] 27)))
    clear hnt t1 T1 hUT hs1 tb
    go_wp2_with (at_builtin; refine stop ?_)
    refine go ?_
    have tc := HTb.out.1.alloc (.cells #[.slice sA sn sc, .slice rA rn rc] 27)
    have hrd1 := RdK.one (enc := tbE) (w1.alloc (.cells #[.slice sA sn sc, .slice rA rn rc] 27)) 27 (⟨sA, sn, sc⟩, ⟨rA, rn, rc⟩) #[.slice sA sn sc, .slice rA rn rc] rfl
    rw [World.size_alloc] at hrd1
    refine wpList_appK (enc := tbE) rfl (.tmp 37) (.tmp 39) 115 rfl 27 _ 2 48 info_t5 Tryz.underlying115 rfl (by omega) tbE_length tbE_one L j lc tl htlj.out rfl (HO.out.touch0 (HT1.out.trans0 tc))
     (some ⟨w1.heap.size + 1, 0, none⟩) 1 1 [(⟨sA, sn, sc⟩, ⟨rA, rn, rc⟩)] rfl rfl hrd1 (by omega) (by omega) ?_
    intro L' lc' w' hown ht hf
    have HN2 := lh (And.intro hown (And.intro ht (And.intro hf tc)))
    clear hown ht hf tc hrd1
    go_wp2_with fail
    go_roundw
    case rel =>
     obtain ⟨hown, ht, hf, tc⟩ := HN2.out
     obtain ⟨hU, hs1⟩ := HY.out
     have hLlt := HO.out.lt
     have hsz := HT.out.size
     have hs2 := HT1.out.size
     rw [World.size_alloc] at hs1
     have hU2 : TabsU W.heap.size L w1 (tl ++ [(⟨sA, sn, sc⟩, ⟨rA, rn, rc⟩)]) ((vs.map (·.2)).take (j + 1)) := by
      rw [Hmv.out]
      exact (HS.out.touch0 HT1.out).snoc _ _ _ _ _ _ hU (by omega) (Nat.le_refl _) (fun b hb => by have := hLlt b hb; omega)
     refine ⟨j + 1, L', lc', _, by omega, by go_num, rfl, lh (fun i hi h2 => ?_), lh ((hU2.touch0 tc).grow ht (fun b hb => ?_)), lh hown, lh (fun b hb => ?_), lh (((HT.out.trans0 HT1.out).trans0 tc).trans ht (fun b hb => .inr (HF.out b hb)))⟩
     ·by_cases hij : i = j
      ·subst hij; rw [<- Hu.out]
      ·exact HE.out i (by omega) h2
     ·rcases hf b hb with q | q
      ·exact .inl q
      ·exact .inr (by rw [q]; exact Nat.le_refl _)
     ·rcases hf b hb with q | q
      ·exact HF.out b q
      ·rw [World.size_alloc, World.size_alloc] at q; omega
    case measure => simp [intOf]; omega
   ·as_aux_lemma =>
    have HVe := lh (show nodeE vs cs rv = (uer, [], []) by
     unfold nodeE; rw [her hz, if_neg hz])
    have hq : (uer == 0) = false := by rw [beq_eq_false_iff_ne]; exact hz
    have hq' : (uer != 0) = true := by rw [bne, hq]; rfl
    clear her
    go_wp2_with fail
    refine Hty.out.mono ?_
    rintro e w1 ⟨⟨sA, sn, sc⟩, ⟨rA, rn, rc⟩, rfl, hnt, t1⟩
    have ta2 := (Touch.refl [] w1).alloc (.cells #[.slice sA sn sc, .slice rA rn rc] 27)
    have hr2 := ta2.blk (t1.blk (HTa.out.blk (HT.out.blk HT0.out.2.2.1 (by simp)) (by simp)) (by simp)) (by simp)
    obtain ⟨z0, z1, y0, y1⟩ := blk2 hr2
    have HT1 := lh (And.intro ((((HT0.out.1.trans0 HT.out).trans0 HTa.out).trans0 t1).trans0 ta2) hr2)
    clear hnt t1 hr2 ta2
    go_wp2_with fail
    refine bodyPost_ret (results_cell_two rfl _ _ (w.heap.size + 1) _ _ _ _ rfl (set2 HT1.out.2 rfl _ _) Tryz.underlying27 rfl rfl) rfl ?_
    rw [HPO.out, HVe.out]
    exact EvPost.err uer (HT1.out.1.trans (touch2 _ _ _ _) (fun b hb => .inr (by simp at hb; omega)))
  ·obtain rfl : j = n2 := by omega
   have hz : errL (vs.map fun v => (v.1, v.2.1)) = 0 := errL_zero fun u hu => by
    obtain ⟨v, hv, rfl⟩ := List.mem_map.1 hu
    obtain ⟨i, hi, rfl⟩ := List.mem_iff_getElem.1 hv
    exact HE.out i (by rw [<- Hvs.out]; exact hi) hi
   have HVe := lh (show nodeE vs cs rv = if rv.1 = 0 then (if fitV cs rv.2 = 0 then (0, cs, sortR rv.2) else (fitV cs rv.2, [], [])) else (rv.1, [], []) by unfold nodeE; rw [if_pos hz])
   have hlen : (vs.map (·.2)).length = j := by rw [List.length_map]; exact Hvs.out
   have hlen2 : (vs.map (·.2.1)).length = j := by rw [List.length_map]; exact Hvs.out
   have HS2 : Hid (TabsU W.heap.size L wr tl (vs.map (·.2))) := lh (by
    have := HS.out
    rwa [<- hlen, List.take_length] at this)
   obtain ⟨W2, hW2⟩ : ∃ W2, W2 = wr := ⟨_, rfl⟩
   subst hW2
   have q0 := HT.out.cell (blk16 HT0.out.2.1).1 (by simp)
   have HLN := lh (And.intro hz (And.intro hlen hlen2))
   have hlw := lh (HO.out.lt)
   clear HE HS HF hlt hz hlen hlen2
   go_wp2_with fail
   clear q0
   go_loopw [13, 56] (fun o i w4 => ∃ (k : Nat) (Ls : Option Addr) (lcs : Nat) (sl : List SL), k <= j /\ i = .int .i64 k /\ o = .slice Ls k lcs /\ Hid (SlcsAt w.heap.size w4 sl ((vs.map (·.2.1)).take k)) /\ Hid (OwnK 24 1 slE w4 Ls lcs sl) /\ Hid (∀ b ∈ fpo Ls, W2.heap.size <= b) /\ Hid (∀ s ∈ sl, ∀ b ∈ fpo s.A, b < W2.heap.size) /\ Hid (Touch [] W2 w4)) (fun _ i _ => j - (intOf i).toNat)
   case atStart => exact ⟨0, none, 0, [], by omega, rfl, rfl, lh (SlcsAt.nil _ _), lh (OwnK.nil _ _ _ _), lh (by simp [fpo]), lh (by simp), lh (Touch.refl _ _)⟩
   case round =>
    obtain ⟨k, Ls, lcs, sl, hk, rfl, rfl, HSl, HOs, HFs, HBs, HTs⟩ := hrel
    have hslk : Hid (sl.length = k) := lh (by rw [HSl.out.1, List.length_take, HLN.out.2.2]; omega)
    by_cases hlt : k < j
    ·as_aux_lemma =>
     have hkt : k < tl.length := by rw [htlj.out]; exact hlt
     have hkv : k < (vs.map (·.2)).length := by rw [HLN.out.2.1]; exact hlt
     have hkv1 : k < vs.length := by rw [Hvs.out]; exact hlt
     obtain ⟨ad, b1, o1, rfl, hadd, hc⟩ := RdK.cells (RdK.touch0 HO.out.rd HTs.out) 2 tbE_length (by omega) k hkt
     obtain ⟨lo, hi, hU, hlo, hhi, _⟩ := HS2.out.2 k hkt hkv
     rw [List.getElem_map] at hU
     have hmv : (vs.map (·.2.1)).take (k + 1) = (vs.map (·.2.1)).take k ++ [vs[k].2.1] := by
      rw [List.take_succ_eq_append_getElem (by rw [List.length_map]; exact hkv1), List.getElem_map]
     obtain ⟨t, ht⟩ : ∃ t, t = tl[k] := ⟨_, rfl⟩
     obtain ⟨u, hu⟩ : ∃ u, u = vs[k] := ⟨_, rfl⟩
     rw [<- ht] at hc hU
     rw [<- hu] at hU hmv
     obtain ⟨⟨sA, sn, sc⟩, ⟨rA, rn, rc⟩⟩ := t
     obtain ⟨uer, ucs, urows⟩ := u
     have e0 := hc 0 _ rfl
     have e1 := hc 1 _ rfl
     rw [Nat.add_zero] at e0
     dsimp only at e0 e1 hmv hU
     have HU := lh (And.intro hU (And.intro hlo hhi))
     have Hmv := lh hmv
     have hkn : (k : Int) < (j : Int) := by omega
     clear hc hU hlo hhi hmv ht hu
     go_wp2_with (at_builtin; refine stop ?_)
     refine go ?_
     have tc := ((Touch.refl [] wr).alloc (.cells #[.slice sA sn sc, .slice rA rn rc] 27)).alloc (.cells #[.slice sA sn sc] 24)
     have hrd1 := RdK.one (enc := slE) (wr.alloc (.cells #[.slice sA sn sc, .slice rA rn rc] 27)) 24 ⟨sA, sn, sc⟩ #[.slice sA sn sc] rfl
     rw [World.size_alloc] at hrd1
     refine wpList_appK (enc := slE) rfl (.tmp 60) (.tmp 63) 119 rfl 24 _ 1 24 info_s5 Tryz.underlying119 rfl (by omega) slE_length slE_one Ls k lcs sl hslk.out rfl (HOs.out.touch0 tc)
      (some ⟨wr.heap.size + 1, 0, none⟩) 1 1 [⟨sA, sn, sc⟩] rfl rfl hrd1 (by omega) (by omega) ?_
     intro L' lc' w' hown ht hf
     have HN2 := lh (And.intro hown (And.intro ht (And.intro hf tc)))
     clear hown ht hf tc hrd1
     go_wp2_with fail
     go_roundw
     case rel =>
      obtain ⟨hown, ht, hf, tc⟩ := HN2.out
      obtain ⟨hU, hlo, hhi⟩ := HU.out
      have hs0 := HT0.out.1.size
      have hsn := ((HSl.out.touch0 tc).snoc ⟨sA, sn, sc⟩ ucs hU.n hU.le (hU.cols.touch0 (HTs.out.trans0 tc)) (fun b hb => ⟨by have := hU.cf b hb; omega, by have := (hU.cf b hb).2; have := (HTs.out.trans0 tc).size; omega⟩))
      have hall : ∀ s ∈ sl ++ [(⟨sA, sn, sc⟩ : SL)], ∀ b ∈ fpo s.A, b < W2.heap.size := fun s hs b hb => by
       rcases List.mem_append.1 hs with q | q
       ·exact HBs.out s q b hb
       ·simp only [List.mem_singleton] at q; subst q; have := (hU.cf b hb).2; omega
      refine ⟨k + 1, L', lc', _, by omega, by go_num, rfl, lh (by rw [Hmv.out]; exact hsn.touch ht (fun s hs b hb hm => by have := hall s hs b hb; have := HFs.out b hm; omega)), lh hown, lh (fun b hb => ?_), lh hall, lh ((HTs.out.trans0 tc).trans ht (fun b hb => .inr (HFs.out b hb)))⟩
      rcases hf b hb with q | q
      ·exact HFs.out b q
      ·rw [World.size_alloc, World.size_alloc] at q; have := HTs.out.size; omega
     case measure => simp [intOf]; omega
    ·as_aux_lemma =>
     obtain rfl : k = j := by omega
     have hsl : SlcsAt w.heap.size wr sl (vs.map (·.2.1)) := by
      have := HSl.out
      rwa [<- HLN.out.2.2, List.take_length] at this
     have hTw := (HT0.out.1.trans0 HT.out).trans0 HTs.out
     have hsc := HSC.out HLN.out.1 wr w.heap.size Ls lcs sl hTw hTw.size hsl HOs.out.rd
     rw [HLN.out.2.2] at hsc
     simp only [PC.val] at hsc
     have Hsc := lh hsc
     have HB := lh ((HT.out.trans0 HTs.out).blk HT0.out.2.1 (by simp))
     have HBr := lh ((HT.out.trans0 HTs.out).blk HT0.out.2.2.1 (by simp))
     have HTw := lh hTw
     have HRW := lh fun w' (t : Touch [] wr w') => HRC.out HLN.out.1 w' L lc tl (hTw.trans0 t) ⟨HS2.out.1, fun i a b => by
      obtain ⟨lo, hi, hU, _⟩ := HS2.out.2 i a b
      exact hU.tab.touch0 (HTs.out.trans0 t)⟩ (RdK.touch0 HO.out.rd (HTs.out.trans0 t))
     rw [HLN.out.2.1] at HRW
     simp only [PC.val] at HRW
     obtain ⟨p0, p1, p2, p3, p4, p5, p6, p7, p8, p9, p10, p11, p12, p13, p14, p15⟩ := blk16 HB.out
     clear hsc hTw hsl hlt hslk HSl HOs HFs HBs htlj HS2 HO
     go_wp2_with fail
     refine Hsc.out.mono ?_
     rintro e w5 ⟨⟨sA, sn, sc⟩, rfl, s1, s2, s3, s4, t5⟩
     have HY := lh (And.intro s1 (And.intro s2 (And.intro s3 t5)))
     have hrw := HRW.out w5 t5
     have Hrw := lh hrw
     have HB5 := lh (t5.blk HB.out (by simp))
     have HBr5 := lh (t5.blk HBr.out (by simp))
     clear s1 s2 s3 s4 t5 hrw p0 p1 p2 p3 p4 p5 p6 p7 p8 p9 p10 p11 p12 p13 p14 p15 Hsc
     obtain ⟨p0, p1, p2, p3, p4, p5, p6, p7, p8, p9, p10, p11, p12, p13, p14, p15⟩ := blk16 HB5.out
     go_wp2_with fail
     refine Hrw.out.mono ?_
     rintro e w6 ⟨⟨rA, rn, rc⟩, rfl, r1, r2, t6⟩
     have HZ := lh (And.intro r1 (And.intro r2 t6))
     have HBr6 := lh (t6.blk HBr5.out (by simp))
     obtain ⟨rer, rrows⟩ := rv
     dsimp only at hrn HVe HZ
     clear r1 r2 t6 Hrw p0 p1 p2 p3 p4 p5 p6 p7 p8 p9 p10 p11 p12 p13 p14 p15
     obtain ⟨z0, z1, y0, y1⟩ := blk2 HBr6.out
     by_cases hr0 : rer = 0
     ·as_aux_lemma =>
      have HVf := lh (show nodeE vs cs (rer, rrows) = if fitV cs rrows = 0 then (0, cs, sortR rrows) else (fitV cs rrows, [], []) by rw [HVe.out, if_pos hr0])
      subst hr0
      clear HVe
      by_cases hf0 : fitV cs rrows = 0
      ·as_aux_lemma =>
       have HVg := lh (show nodeE vs cs (0, rrows) = (0, cs, sortR rrows) by rw [HVf.out, if_pos hf0])
       have Hmk := lh (make_yes sA sc sn cs HY.out.1.symm HY.out.2.1 Hok.out.1 rA rc rn rrows HZ.out.1.symm Hok.out.2.1 Hok.out.2.2 w6 (HY.out.2.2.1.touch0 HZ.out.2.2) HZ.out.2.1 (by have := HY.out.1; omega) (by have := HZ.out.1; omega) hf0)
       clear HVf hf0
       go_wp2_with fail
       refine Hmk.out.mono ?_
       rintro e w7 ⟨⟨mA, mn, mc⟩, ⟨gA, gn', gc'⟩, out, rfl, hnt, hso, t7⟩
       have HM := lh (And.intro hnt (And.intro hso (And.intro t7 (t7.blk HBr6.out (by simp)))))
       clear hnt hso t7 Hmk z0 z1 y0 y1
       obtain ⟨z0, z1, y0, y1⟩ := blk2 HM.out.2.2.2
       go_wp2_with fail
       obtain ⟨hnt, hso, t7, hr7⟩ := HM.out
       have tq := touch2 w7 (w.heap.size + 1) (.slice mA mn mc) (.slice gA gn' gc')
       have hT6 := (HTw.out.trans0 HY.out.2.2.2).trans0 HZ.out.2.2
       have hs6 := hT6.size
       have hWs := HT0.out.2.2.2
       have hs7 : w.heap.size + 2 <= w6.heap.size := by
        have h1 := (((HT.out.trans0 HTs.out).trans0 HY.out.2.2.2).trans0 HZ.out.2.2).size
        omega
       refine bodyPost_ret (results_cell_two rfl _ _ (w.heap.size + 1) _ _ _ _ rfl (set2 hr7 rfl _ _) Tryz.underlying27 rfl rfl) rfl ?_
       rw [HPO.out, HVg.out, <- sortR_of hso]
       refine ⟨⟨mA, mn, mc⟩, ⟨gA, gn', gc'⟩, rfl, ?_, (hT6.trans0 t7).trans tq (fun b hb => .inr (by simp at hb; omega))⟩
       refine ⟨hnt.n, hnt.le, RdK.touch hnt.cols tq (fun b hb hm => ?_), fun b hb => ⟨?_, ?_⟩, hnt.m, ?_, fun b hb => ?_, hnt.apart⟩
       ·have := (hnt.cf b hb).1; simp at hm; omega
       ·have := (hnt.cf b hb).1; omega
       ·have := (hnt.cf b hb).2; have := tq.size; omega
       ·exact (hnt.rws.touch tq (fun b hb => by simp at hb; omega) (fun b hb => hnt.rf b hb)).base (by omega)
       ·have := hnt.rf b hb; omega
      ·as_aux_lemma =>
       have HVg := lh (show nodeE vs cs (0, rrows) = (fitV cs rrows, [], []) by rw [HVf.out, if_neg hf0])
       have hmk := make_no sA sc sn cs HY.out.1.symm Hok.out.1 rA rc rn rrows HZ.out.1.symm Hok.out.2.1 w6 (HY.out.2.2.1.touch0 HZ.out.2.2) HZ.out.2.1 (by have := HY.out.1; omega) (by have := HZ.out.1; omega) hf0
       obtain ⟨K, hK⟩ : ∃ K, K = fitV cs rrows := ⟨_, rfl⟩
       rw [<- hK] at hmk HVg
       have Hmk := lh hmk
       clear HVf hf0 hK hmk
       go_wp2_with fail
       refine Hmk.out.mono ?_
       rintro e w7 ⟨rfl, t7⟩
       have HM := lh (And.intro t7 (t7.blk HBr6.out (by simp)))
       clear t7 Hmk z0 z1 y0 y1
       obtain ⟨z0, z1, y0, y1⟩ := blk2 HM.out.2
       go_wp2_with fail
       have hT6 := (HTw.out.trans0 HY.out.2.2.2).trans0 HZ.out.2.2
       refine bodyPost_ret (results_cell_two rfl _ _ (w.heap.size + 1) _ _ _ _ rfl (set2 HM.out.2 rfl _ _) Tryz.underlying27 rfl rfl) rfl ?_
       rw [HPO.out, HVg.out]
       exact EvPost.err K ((hT6.trans0 HM.out.1).trans (touch2 _ _ _ _) (fun b hb => .inr (by simp at hb; omega)))
     ·as_aux_lemma =>
      have HVf := lh (show nodeE vs cs (rer, rrows) = (rer, [], []) by rw [HVe.out, if_neg hr0])
      have hq : (rer == 0) = false := by rw [beq_eq_false_iff_ne]; exact hr0
      have hq' : (rer != 0) = true := by rw [bne, hq]; rfl
      clear HVe
      go_wp2_with fail
      have hT6 := (HTw.out.trans0 HY.out.2.2.2).trans0 HZ.out.2.2
      refine bodyPost_ret (results_cell_two rfl _ _ (w.heap.size + 1) _ _ _ _ rfl (set2 HBr6.out rfl _ _) Tryz.underlying27 rfl rfl) rfl ?_
      rw [HPO.out, HVf.out]
      exact EvPost.err rer (hT6.trans (touch2 _ _ _ _) (fun b hb => .inr (by simp at hb; omega)))
end
end Go.Proofs.YtafoklilkdnepaaGreatDoor
