/- Part 20 of the texts of this proof, one behind the other; each begins with its own sentence. No condition beyond those that its theorems state. -/
import Derived.Test.YtafoklilkdnepaaGreatDoorRu19
import Derived.BigQuiet
import Derived.IntWalk
/- expr.Expr.Type. For every expression and schema. (The first part of XTopX.) -/
namespace Go.Proofs.YtafoklilkdnepaaGreatDoor
open Go.RowKit
attribute [local go_sem ↓] Go.wp_at_zero Go.wp_at_succ

set_option maxRecDepth 20000 in
set_option maxHeartbeats 3200000 in
theorem typeX_any (n : Nat) (e : TX n) (x : XC) (A : Option Addr) (cap m : Nat) (cs : List CD) (hm : cs.length = m) (hok : ∀ c ∈ cs, c.Ok) (w : World) (hx : ExP xcE anyB n w x e) (hcs : ColsAt w A cs) (hmb : m ≤ 140737000000000)
  (hs : sizeX n e ≤ 1000000) (hall : allX (fun q => q.v.text.size ≤ 140737000000000) n e) :
  Calls Tryz.prog 68 #[x.val, .slice A m cap] w fun r w' => r = .returned (.tuple #[.int .i64 (typeX cs n e).1, .int .i64 (typeX cs n e).2]) ∧ Touch [] w w' := by
 have Hchk := Lib.hid fun w' (t : Touch [] w w') => check_any A cap m cs hm hok w' (hcs.touch0 t) (by omega)
 have Hsz := Lib.hid fun w' (t : Touch [] w w') => sizeX_any n e x w' (hx.touch0 t) (by omega)
 have Hty := Lib.hid fun w' (t : Touch [] w w') => typed_any n e x A cap m cs hm 1 w' (hx.touch0 t) (hcs.touch0 t) hmb hs hall (by omega)
 obtain ⟨res, hres⟩ : ∃ res, res = typeX cs n e := ⟨_, rfl⟩
 rw [← hres]
 unfold typeX at hres
 obtain ⟨⟨k, nm, ⟨vk, vn, vt⟩, op⟩, XA, xm, c⟩ := x
 simp only [XC.val] at Hchk Hsz Hty ⊢
 clear hx hall hs
 have t0 := (Touch.refl [] w).alloc (.cells #[.int .i64 k, .string nm, .int .i64 vk, .int .i64 vn, .string vt, .string op, .slice XA xm c] 44)
 have hb := heap_alloc_new w (.cells #[.int .i64 k, .string nm, .int .i64 vk, .int .i64 vn, .string vt, .string op, .slice XA xm c] 44)
 have Hb := Lib.hid hb
 clear hb
 obtain ⟨cv, hcv⟩ : ∃ r, r = checkV cs := ⟨_, rfl⟩
 rw [← hcv] at Hchk hres
 clear hcv
 by_cases h0 : cv = 0
 rotate_left
 ·rw [if_neg h0] at hres
  have Hf := Lib.hid hres
  have q0 : (cv != 0) = true := by simpa using h0
  clear h0 hres
  go_enter Tryz.func68, Tryz.ntmps68
  go_wp2_with fail
  refine (Hchk.out _ t0).mono ?_
  rintro e w1 ⟨rfl, t1⟩
  go_wp2_with fail
  go_ret2
  exact ⟨by rw [Hf.out]; rfl, t0.trans0 t1⟩
 subst h0
 rw [if_pos rfl] at hres
 obtain ⟨sz, hsz⟩ : ∃ r, r = sizeX n e := ⟨_, rfl⟩
 rw [← hsz] at Hsz hres
 clear hsz
 by_cases h1 : 256 < sz
 ·rw [if_pos h1] at hres
  have Hf := Lib.hid hres
  have q1 : (256 : Int) < (sz : Int) := by omega
  clear h1 hres
  go_enter Tryz.func68, Tryz.ntmps68
  go_wp2_with fail
  refine (Hchk.out _ t0).mono ?_
  rintro e w1 ⟨rfl, t1⟩
  obtain ⟨c0, c1, c2, c3, c4, c5, c6, _⟩ := blk7 (t1.blk Hb.out (by simp))
  go_wp2_with fail
  refine (Hsz.out _ (t0.trans0 t1)).mono ?_
  rintro e w2 ⟨rfl, t2⟩
  go_wp2_with fail
  go_ret2
  exact ⟨by rw [Hf.out]; rfl, (t0.trans0 t1).trans0 t2⟩
 ·rw [if_neg h1] at hres
  have Hf := Lib.hid hres
  have q1 : ¬ (256 : Int) < (sz : Int) := by omega
  clear h1 hres
  go_enter Tryz.func68, Tryz.ntmps68
  go_wp2_with fail
  refine (Hchk.out _ t0).mono ?_
  rintro e w1 ⟨rfl, t1⟩
  obtain ⟨c0, c1, c2, c3, c4, c5, c6, _⟩ := blk7 (t1.blk Hb.out (by simp))
  go_wp2_with fail
  refine (Hsz.out _ (t0.trans0 t1)).mono ?_
  rintro e w2 ⟨rfl, t2⟩
  obtain ⟨c0, c1, c2, c3, c4, c5, c6, _⟩ := blk7 (t2.blk (t1.blk Hb.out (by simp)) (by simp))
  go_wp2_with fail
  refine (Hty.out _ ((t0.trans0 t1).trans0 t2)).mono ?_
  rintro e w3 ⟨rfl, t3⟩
  go_wp2_with fail
  go_ret2
  exact ⟨by rw [Hf.out]; rfl, ((t0.trans0 t1).trans0 t2).trans0 t3⟩

end Go.Proofs.YtafoklilkdnepaaGreatDoor

/- slices.Grow, slices.Concat over rows of values. For every two rows. -/
namespace Go.Proofs.YtafoklilkdnepaaGreatDoor
open Go.RowKit

set_option maxRecDepth 100000 in
set_option maxHeartbeats 800000 in
theorem growR_any (n : Nat) (hn : n ≤ 1000000) (w : World) :
  Calls Tryz.prog 140 #[.slice none 0 0, .int .i64 n] w fun e w' => ∃ A c, e = .returned (.slice A 0 c) ∧ Made 33 1 slE [] A c w w' := by
 obtain ⟨i0, hi0, hz0, hz1, hz2⟩ := info_parts info_r5
 go_enter Tryz.func140, Tryz.ntmps140
 by_cases h0 : n = 0
 ·subst h0
  go_wp2
  go_ret
  exact ⟨none, 0, rfl, Made.nil _ _ _ _⟩
 ·have hn0 : 0 < n := by omega
  have hge := grownCap_ge w n 0 33
  have hle := grownCap_le_maxLen w n 0 33 (by simp only [maxLen]; omega)
  have hold : (Builtin.firstCells i0.size 0 (.slice none 0 0)).run Tryz.prog w.drew = .ok ([] : List Value).toArray w.drew := run_firstCells_none w.drew i0.size 0 0 0
  have hrz : ∀ ty, (Builtin.append_ #[25, 3] ty #[.slice none 0 0, .int .i64 (n : Int)]).run Tryz.prog w = _ := fun ty =>
   Lib.run_append_grow_zeros w 25 3 ty 33 i0 (.slice none 0 0) .i64 .i64 Tryz.underlying25 Tryz.underlying3 hi0 hz0 none 0 0 [] hold n hn0 (by omega) (by omega) (by omega)
    (by rw [hz2]; omega) (by rw [hz2]; exact growslice_fits (by omega) (by omega))
  simp only [Nat.zero_add] at hrz
  have hsz : (([] : List Value).toArray ++ Builtin.zeroCells (Value.slice none 0 0).cells n ++ Builtin.zeroCells (Value.slice none 0 0).cells (grownCap w n 0 33 - n)).size = grownCap w n 0 33 * 1 := by
   rw [Array.size_append, Array.size_append, size_zeroCells, size_zeroCells]
   simp [Value.cells]
   omega
  have hcut := OwnK.room 33 1 slE w.drew (grownCap w n 0 33) _ hle hsz
  obtain ⟨W, hW⟩ : ∃ W, W = w.drew.alloc (.cells (([] : List Value).toArray ++ Builtin.zeroCells (Value.slice none 0 0).cells n ++ Builtin.zeroCells (Value.slice none 0 0).cells (grownCap w n 0 33 - n)) 33) := ⟨_, rfl⟩
  obtain ⟨G, hG⟩ : ∃ G, G = grownCap w n 0 33 := ⟨_, rfl⟩
  have tW : Touch [] w W := by rw [hW]; exact ((Touch.refl [] w).drew).alloc _
  rw [← hW] at hrz hcut
  rw [← hG] at hrz hcut hge hle
  have hws : w.drew.heap.size = w.heap.size := rfl
  rw [hws] at hcut
  unfold maxLen at hle
  clear hW hG hold hsz hws
  go_wp2_with (at_builtin; refine Lib.wpList_append_run _ rfl _ _ _ _ rfl _ _ rfl rfl _ _ (hrz _) ?_)
  go_ret
  exact ⟨_, G, rfl, hcut, tW, by simp [fpo]⟩

set_option maxRecDepth 20000 in
set_option maxHeartbeats 3200000 in
/-- two rows, one behind the other -/
theorem concatR_any (A1 A2 : Option Addr) (n1 n2 c1 c2 : Nat) (l1 l2 : List SL) (e1 : l1.length = n1) (e2 : l2.length = n2) (h1 : n1 ≤ 100000) (h2 : n2 ≤ 100000) (w : World) (r1 : RdK slE w A1 l1) (r2 : RdK slE w A2 l2) :
  Calls Tryz.prog 98 #[.slice (some ⟨w.heap.size, 0, none⟩) 2 2] (w.alloc (.cells #[.slice A1 n1 c1, .slice A2 n2 c2] 25)) fun e w' =>
   ∃ A c, e = .returned (.slice A (l1 ++ l2).length c) ∧ Made 33 1 slE (l1 ++ l2) A c w w' := by
 subst e1 e2
 have t0 := (Touch.refl [] w).alloc (.cells #[.slice A1 l1.length c1, .slice A2 l2.length c2] 25)
 have hb := heap_alloc_new w (.cells #[.slice A1 l1.length c1, .slice A2 l2.length c2] 25)
 obtain ⟨W, hW⟩ : ∃ W, W = w.alloc (.cells #[.slice A1 l1.length c1, .slice A2 l2.length c2] 25) := ⟨_, rfl⟩
 have hWs : w.heap.size < W.heap.size := by rw [hW, World.size_alloc]; omega
 rw [← hW] at t0 hb ⊢
 have d0 := cell_blk hb (i := 0) rfl
 have d1 := cell_blk hb (i := 1) rfl
 have hlen : (l1 ++ l2).length = l1.length + l2.length := List.length_append
 have Hlen := Lib.hid hlen
 clear hW hlen
 go_enter Tryz.func98, Tryz.ntmps98
 go_wp2
 refine wp_loop_rounds 3 ?_
 rw [rounds_succ]
 go_wp2
 rw [rounds_succ]
 go_wp2
 rw [rounds_succ]
 go_wp2_with fail
 have hgr := growR_any (l1.length + l2.length) (by omega) W
 rw [Int.natCast_add] at hgr
 refine hgr.mono ?_
 rintro e w1 ⟨A3, c3, rfl, hm3⟩
 have b1 := hm3.t.blk hb (by simp)
 have f0 := cell_blk b1 (i := 0) rfl
 have f1 := cell_blk b1 (i := 1) rfl
 have T1 := t0.trans0 hm3.t
 go_wp2_with fail
 refine wp_loop_rounds 3 ?_
 rw [rounds_succ]
 go_wp2_with (at_builtin; refine stop ?_)
 refine go ?_
 refine wpList_appK rfl (.tmp 31) (.tmp 32) 25 rfl 33 _ 1 24 info_r5 Tryz.underlying25 rfl (by omega) slE_length slE_one A3 0 c3 [] rfl rfl hm3.own
  A1 l1.length c1 l1 rfl rfl (r1.touch0 T1) (by omega) (by omega) ?_
 intro A4 c4 w4 hown4 ht4 hf4
 have hm4 := hm3.step hown4 ht4 hf4
 have b4 := hm4.t.blk hb (by simp)
 have g0 := cell_blk b4 (i := 0) rfl
 have g1 := cell_blk b4 (i := 1) rfl
 rw [List.nil_append] at hm4
 go_wp2_with fail
 rw [rounds_succ]
 go_wp2_with (at_builtin; refine stop ?_)
 refine go ?_
 refine wpList_appK rfl (.tmp 31) (.tmp 32) 25 rfl 33 _ 1 24 info_r5 Tryz.underlying25 rfl (by omega) slE_length slE_one A4 l1.length c4 l1 rfl rfl hm4.own
  A2 l2.length c2 l2 rfl rfl (r2.touch0 (t0.trans0 hm4.t)) (by omega) (by omega) ?_
 intro A5 c5 w5 hown5 ht5 hf5
 have hm5 := hm4.step hown5 ht5 hf5
 go_wp2_with fail
 rw [rounds_succ]
 go_wp2
 go_ret
 exact ⟨A5, c5, ret_slice Hlen.out.symm, hm5.own, t0.trans0 hm5.t, fun b hb => by have := hm5.f b hb; omega⟩

end Go.Proofs.YtafoklilkdnepaaGreatDoor

/- relop.Plan.rows at unions: the rows of both. (gen_rlrows3.py) -/
namespace Go.Proofs.YtafoklilkdnepaaGreatDoor
open Go.RowKit

theorem SlsAt.append {w : World} {s1 s2 : List SL} {r1 r2 : List (List VD)} (h1 : SlsAt w s1 r1) (h2 : SlsAt w s2 r2) : SlsAt w (s1 ++ s2) (r1 ++ r2) := by
 refine ⟨by rw [List.length_append, List.length_append, h1.1, h2.1], fun i a b => ?_⟩
 by_cases hi : i < s1.length
 ·have hi2 : i < r1.length := by rw [← h1.1]; exact hi
  rw [List.getElem_append_left hi, List.getElem_append_left hi2]
  exact h1.2 i hi hi2
 ·have hi2 : r1.length ≤ i := by rw [← h1.1]; omega
  have hs : i - s1.length < s2.length := by rw [List.length_append] at a; omega
  have hr : i - r1.length < r2.length := by rw [List.length_append] at b; omega
  rw [List.getElem_append_right (by omega), List.getElem_append_right hi2]
  have := h2.2 (i - s1.length) hs (by rw [← h2.1]; exact hs)
  simp only [h1.1] at this ⊢
  exact this
theorem SlsAt.touch0' {w w' : World} {sl : List SL} {rows : List (List VD)} (h : SlsAt w sl rows) (ht : Touch [] w w') : SlsAt w' sl rows := ⟨h.1, fun i a b => ⟨(h.2 i a b).1, ValsAt.touch0 (h.2 i a b).2 ht⟩⟩
set_option maxRecDepth 40000 in
set_option maxHeartbeats 6400000 in
theorem rows_union (x : PC) (hk0 : x.kind = 7) (L : Option Addr) (lc : Nat) (ta tb : SL × SL) (csA csB : List CD) (rowsA rowsB : List (List VD)) (w : World) (hL : RdK tbE w L [ta, tb]) (hTA : TabAt w ta.1 ta.2 csA rowsA) (hTB : TabAt w tb.1 tb.2 csB rowsB) (hA2 : rowsA.length ≤ 100000) (hB2 : rowsB.length ≤ 100000) :
  Calls Tryz.prog 65 #[x.val, .slice L 2 lc] w (RowsPost (0, rowsA ++ rowsB) w) := by
 obtain ⟨⟨SA, sn, sc⟩, ⟨RA, rn, rc⟩⟩ := ta
 obtain ⟨⟨SB, tn, tc⟩, ⟨RB, un, uc⟩⟩ := tb
 obtain ⟨k0, k1, ⟨A2, n2, c2'⟩, ⟨⟨ck, cn, ⟨cvk, cvn, cvt⟩, cop⟩, CA, cnn, cc⟩, ⟨NA, nn, nc⟩, ⟨EA, en, ec⟩, ⟨OA, ol, oc⟩, ⟨GA, gn, gc⟩, ⟨BA, bn, bc⟩, count⟩ := x
 dsimp only at hk0
 subst hk0
 obtain ⟨ad, bl, bo, rfl, hadd0, hc0⟩ := RdK.cells hL 2 tbE_length (by omega) 0 (by simp)
 obtain ⟨ad', bl', bo', e', hadd1, hc1⟩ := RdK.cells hL 2 tbE_length (by omega) 1 (by simp)
 obtain rfl : ad = ad' := by injection e'
 have l1 := hc0 1 _ rfl
 have l3 := hc1 1 _ rfl
 simp only [Nat.zero_mul, Nat.one_mul, Nat.add_zero] at hadd0 hadd1
 simp only [List.getElem_cons_zero, List.getElem_cons_succ] at l1 l3
 obtain ⟨sl1, hs1, hr1⟩ := hTA.rws
 obtain ⟨sl2, hs2, hr2⟩ := hTB.rws
 have hn1 : rn = rowsA.length := hTA.m
 have hn2 : un = rowsB.length := hTB.m
 have hm1 : sl1.length = rn := by rw [hn1, hs1.1]
 have hm2 : sl2.length = un := by rw [hn2, hs2.1]
 have Hj := Lib.hid fun w' (t : Touch [] w w') => concatR_any RA RB rn un rc uc sl1 sl2 hm1 hm2 (by omega) (by omega) w' (RdK.touch0 hr1 t) (RdK.touch0 hr2 t)
 have HS := Lib.hid (And.intro hs1 hs2)
 have HN := Lib.hid (show sl1.length + sl2.length = (rowsA ++ rowsB).length by rw [List.length_append, hs1.1, hs2.1])
 simp only [PC.val] at *
 obtain ⟨W, hW⟩ : ∃ W, W = w.alloc (.cells #[.int .i64 7, .string k1, .slice A2 n2 c2', .int .i64 ck, .string cn, .int .i64 cvk, .int .i64 cvn, .string cvt, .string cop, .slice CA cnn cc, .slice NA nn nc, .slice EA en ec, .slice OA ol oc, .slice GA gn gc, .slice BA bn bc, .int .i64 count] 49) := ⟨_, rfl⟩
 have t0 : Touch [] w W := hW ▸ (Touch.refl [] w).alloc _
 have hb0 := hW ▸ heap_alloc_new w (.cells #[.int .i64 7, .string k1, .slice A2 n2 c2', .int .i64 ck, .string cn, .int .i64 cvk, .int .i64 cvn, .string cvt, .string cop, .slice CA cnn cc, .slice NA nn nc, .slice EA en ec, .slice OA ol oc, .slice GA gn gc, .slice BA bn bc, .int .i64 count] 49)
 have l1d := t0.drew.cell l1 (by simp)
 have l3d := t0.drew.cell l3 (by simp)
 have p0 : W.cell? ⟨w.heap.size, 0, none⟩ = some (.int .i64 7) := cell_blk hb0 rfl
 have KP : Hid (∀ w', Touch [] W.drew w' → w'.cell? ⟨bl, bo + 1, none⟩ = some (.slice RA rn rc) ∧ w'.cell? ⟨bl', bo' + 1, none⟩ = some (.slice RB un uc)) := Lib.hid fun w' t => ⟨t.cell l1d (by simp), t.cell l3d (by simp)⟩
 have HW := Lib.hid hW
 have HT0 := Lib.hid t0.drew
 clear hTA hTB hL hc0 hc1 hW t0 l1 l3 e' hb0 l1d l3d hs1 hs2 hr1 hr2 hn1 hn2 hm1 hm2
 go_enter Tryz.func65, Tryz.ntmps65
 go_wp2_with fail
 rw [← HW.out]
 clear p0
 go_region_held3 (fun w' => w'.cell? ⟨bl, bo + 1, none⟩ = some (.slice RA rn rc) ∧ w'.cell? ⟨bl', bo' + 1, none⟩ = some (.slice RB un uc)) (first | exact KP.out _ (Touch.refl _ _) | exact KP.out _ ((Touch.refl _ _).alloc _) | exact KP.out _ M1.out.2) (first
  | (go_at_call 98; refine (Hj.out _ HT0.out).mono ?_; rintro e w1 ⟨A1, c1, rfl, m1⟩; have M1 := Lib.hid (And.intro m1.own m1.t); clear m1))
 go_wp2_with fail
 go_ret2
 exact ⟨⟨A1, _, c1⟩, rfl, HN.out, ⟨_, (HS.out.1.touch0' (HT0.out.trans0 M1.out.2)).append (HS.out.2.touch0' (HT0.out.trans0 M1.out.2)), M1.out.1.rd⟩, HT0.out.trans0 M1.out.2⟩
end Go.Proofs.YtafoklilkdnepaaGreatDoor

/- relop.Plan.rows: a plan's rows by the table of its one Arg, where its own function tells them. (gen_rlrows2.py) -/
namespace Go.Proofs.YtafoklilkdnepaaGreatDoor
open Go.RowKit

set_option maxRecDepth 40000 in
set_option maxHeartbeats 6400000 in
theorem rows_where (x : PC) (hk0 : x.kind = 2) (rv : Int × List (List VD)) (L : Option Addr) (lc : Nat) (ta : SL × SL) (w : World) (hL : RdK tbE w L [ta])
  (H : ∀ w', Touch [] w w' → Calls Tryz.prog 94 #[x.val, .agg #[.slice ta.1.A ta.1.n ta.1.c, .slice ta.2.A ta.2.n ta.2.c]] w' (RowsPost rv w')) :
  Calls Tryz.prog 65 #[x.val, .slice L 1 lc] w (RowsPost rv w) := by
 obtain ⟨⟨SA, sn, sc⟩, ⟨RA, rn, rc⟩⟩ := ta
 obtain ⟨k0, k1, ⟨A2, n2, c2'⟩, ⟨⟨ck, cn, ⟨cvk, cvn, cvt⟩, cop⟩, CA, cnn, cc⟩, ⟨NA, nn, nc⟩, ⟨EA, en, ec⟩, ⟨OA, ol, oc⟩, ⟨GA, gn, gc⟩, ⟨BA, bn, bc⟩, count⟩ := x
 dsimp only at hk0 H
 subst hk0
 obtain ⟨ad, bl, bo, rfl, hadd0, hc0⟩ := RdK.cells hL 2 tbE_length (by omega) 0 (by simp)
 have l0 := hc0 0 _ rfl
 have l1 := hc0 1 _ rfl
 simp only [Nat.zero_mul, Nat.add_zero] at hadd0 l0 l1
 simp only [List.getElem_cons_zero] at l0 l1
 have Hj := Lib.hid H
 simp only [PC.val] at *
 obtain ⟨W, hW⟩ : ∃ W, W = w.alloc (.cells #[.int .i64 2, .string k1, .slice A2 n2 c2', .int .i64 ck, .string cn, .int .i64 cvk, .int .i64 cvn, .string cvt, .string cop, .slice CA cnn cc, .slice NA nn nc, .slice EA en ec, .slice OA ol oc, .slice GA gn gc, .slice BA bn bc, .int .i64 count] 49) := ⟨_, rfl⟩
 have t0 : Touch [] w W := hW ▸ (Touch.refl [] w).alloc _
 have hb0 := hW ▸ heap_alloc_new w (.cells #[.int .i64 2, .string k1, .slice A2 n2 c2', .int .i64 ck, .string cn, .int .i64 cvk, .int .i64 cvn, .string cvt, .string cop, .slice CA cnn cc, .slice NA nn nc, .slice EA en ec, .slice OA ol oc, .slice GA gn gc, .slice BA bn bc, .int .i64 count] 49)
 have l0d := t0.drew.cell l0 (by simp)
 have l1d := t0.drew.cell l1 (by simp)
 obtain ⟨p0, p1, p2, p3, p4, p5, p6, p7, p8, p9, p10, p11, p12, p13, p14, p15⟩ := blk16 ((Touch.refl [] W).drew.blk hb0 (by simp))
 have HP : Hid (W.drew.cell? ⟨w.heap.size, 0, none⟩ = some (.int .i64 2) ∧ W.drew.cell? ⟨w.heap.size, 1, none⟩ = some (.string k1) ∧ W.drew.cell? ⟨w.heap.size, 2, none⟩ = some (.slice A2 n2 c2') ∧ W.drew.cell? ⟨w.heap.size, 3, none⟩ = some (.int .i64 ck) ∧ W.drew.cell? ⟨w.heap.size, 4, none⟩ = some (.string cn) ∧ W.drew.cell? ⟨w.heap.size, 5, none⟩ = some (.int .i64 cvk) ∧ W.drew.cell? ⟨w.heap.size, 6, none⟩ = some (.int .i64 cvn) ∧ W.drew.cell? ⟨w.heap.size, 7, none⟩ = some (.string cvt) ∧ W.drew.cell? ⟨w.heap.size, 8, none⟩ = some (.string cop) ∧ W.drew.cell? ⟨w.heap.size, 9, none⟩ = some (.slice CA cnn cc) ∧ W.drew.cell? ⟨w.heap.size, 10, none⟩ = some (.slice NA nn nc) ∧ W.drew.cell? ⟨w.heap.size, 11, none⟩ = some (.slice EA en ec) ∧ W.drew.cell? ⟨w.heap.size, 12, none⟩ = some (.slice OA ol oc) ∧ W.drew.cell? ⟨w.heap.size, 13, none⟩ = some (.slice GA gn gc) ∧ W.drew.cell? ⟨w.heap.size, 14, none⟩ = some (.slice BA bn bc) ∧ W.drew.cell? ⟨w.heap.size, 15, none⟩ = some (.int .i64 count) ∧ W.drew.cell? ⟨bl, bo, none⟩ = some (.slice SA sn sc) ∧ W.drew.cell? ⟨bl, bo + 1, none⟩ = some (.slice RA rn rc)) := Lib.hid ⟨p0, p1, p2, p3, p4, p5, p6, p7, p8, p9, p10, p11, p12, p13, p14, p15, l0d, l1d⟩
 have HW := Lib.hid hW
 have HT0 := Lib.hid t0.drew
 clear H hL hc0 hW t0 l0 l1 hb0 l0d l1d p0 p1 p2 p3 p4 p5 p6 p7 p8 p9 p10 p11 p12 p13 p14 p15
 go_enter Tryz.func65, Tryz.ntmps65
 go_wp2_with fail
 rw [← HW.out]
 go_region_held3 (fun w' => w'.cell? ⟨w.heap.size, 0, none⟩ = some (.int .i64 2) ∧ w'.cell? ⟨w.heap.size, 1, none⟩ = some (.string k1) ∧ w'.cell? ⟨w.heap.size, 2, none⟩ = some (.slice A2 n2 c2') ∧ w'.cell? ⟨w.heap.size, 3, none⟩ = some (.int .i64 ck) ∧ w'.cell? ⟨w.heap.size, 4, none⟩ = some (.string cn) ∧ w'.cell? ⟨w.heap.size, 5, none⟩ = some (.int .i64 cvk) ∧ w'.cell? ⟨w.heap.size, 6, none⟩ = some (.int .i64 cvn) ∧ w'.cell? ⟨w.heap.size, 7, none⟩ = some (.string cvt) ∧ w'.cell? ⟨w.heap.size, 8, none⟩ = some (.string cop) ∧ w'.cell? ⟨w.heap.size, 9, none⟩ = some (.slice CA cnn cc) ∧ w'.cell? ⟨w.heap.size, 10, none⟩ = some (.slice NA nn nc) ∧ w'.cell? ⟨w.heap.size, 11, none⟩ = some (.slice EA en ec) ∧ w'.cell? ⟨w.heap.size, 12, none⟩ = some (.slice OA ol oc) ∧ w'.cell? ⟨w.heap.size, 13, none⟩ = some (.slice GA gn gc) ∧ w'.cell? ⟨w.heap.size, 14, none⟩ = some (.slice BA bn bc) ∧ w'.cell? ⟨w.heap.size, 15, none⟩ = some (.int .i64 count) ∧ w'.cell? ⟨bl, bo, none⟩ = some (.slice SA sn sc) ∧ w'.cell? ⟨bl, bo + 1, none⟩ = some (.slice RA rn rc)) (first | exact HP.out | exact keep18 M1.out.2.2 HP.out) (first
  | (go_at_call 94; refine (Hj.out _ HT0.out).mono ?_; rintro e w1 ⟨⟨A1, n1, c1⟩, rfl, m1⟩; have M1 := Lib.hid m1; clear m1))
 go_wp2_with fail
 go_ret2
 exact ⟨⟨A1, n1, c1⟩, rfl, M1.out.1, M1.out.2.1, HT0.out.trans0 M1.out.2.2⟩

set_option maxRecDepth 40000 in
set_option maxHeartbeats 6400000 in
theorem rows_keep (x : PC) (hk0 : x.kind = 3) (rv : Int × List (List VD)) (L : Option Addr) (lc : Nat) (ta : SL × SL) (w : World) (hL : RdK tbE w L [ta])
  (H : ∀ w', Touch [] w w' → Calls Tryz.prog 95 #[x.val, .agg #[.slice ta.1.A ta.1.n ta.1.c, .slice ta.2.A ta.2.n ta.2.c]] w' (RowsPost rv w')) :
  Calls Tryz.prog 65 #[x.val, .slice L 1 lc] w (RowsPost rv w) := by
 obtain ⟨⟨SA, sn, sc⟩, ⟨RA, rn, rc⟩⟩ := ta
 obtain ⟨k0, k1, ⟨A2, n2, c2'⟩, ⟨⟨ck, cn, ⟨cvk, cvn, cvt⟩, cop⟩, CA, cnn, cc⟩, ⟨NA, nn, nc⟩, ⟨EA, en, ec⟩, ⟨OA, ol, oc⟩, ⟨GA, gn, gc⟩, ⟨BA, bn, bc⟩, count⟩ := x
 dsimp only at hk0 H
 subst hk0
 obtain ⟨ad, bl, bo, rfl, hadd0, hc0⟩ := RdK.cells hL 2 tbE_length (by omega) 0 (by simp)
 have l0 := hc0 0 _ rfl
 have l1 := hc0 1 _ rfl
 simp only [Nat.zero_mul, Nat.add_zero] at hadd0 l0 l1
 simp only [List.getElem_cons_zero] at l0 l1
 have Hj := Lib.hid H
 simp only [PC.val] at *
 obtain ⟨W, hW⟩ : ∃ W, W = w.alloc (.cells #[.int .i64 3, .string k1, .slice A2 n2 c2', .int .i64 ck, .string cn, .int .i64 cvk, .int .i64 cvn, .string cvt, .string cop, .slice CA cnn cc, .slice NA nn nc, .slice EA en ec, .slice OA ol oc, .slice GA gn gc, .slice BA bn bc, .int .i64 count] 49) := ⟨_, rfl⟩
 have t0 : Touch [] w W := hW ▸ (Touch.refl [] w).alloc _
 have hb0 := hW ▸ heap_alloc_new w (.cells #[.int .i64 3, .string k1, .slice A2 n2 c2', .int .i64 ck, .string cn, .int .i64 cvk, .int .i64 cvn, .string cvt, .string cop, .slice CA cnn cc, .slice NA nn nc, .slice EA en ec, .slice OA ol oc, .slice GA gn gc, .slice BA bn bc, .int .i64 count] 49)
 have l0d := t0.drew.cell l0 (by simp)
 have l1d := t0.drew.cell l1 (by simp)
 obtain ⟨p0, p1, p2, p3, p4, p5, p6, p7, p8, p9, p10, p11, p12, p13, p14, p15⟩ := blk16 ((Touch.refl [] W).drew.blk hb0 (by simp))
 have HP : Hid (W.drew.cell? ⟨w.heap.size, 0, none⟩ = some (.int .i64 3) ∧ W.drew.cell? ⟨w.heap.size, 1, none⟩ = some (.string k1) ∧ W.drew.cell? ⟨w.heap.size, 2, none⟩ = some (.slice A2 n2 c2') ∧ W.drew.cell? ⟨w.heap.size, 3, none⟩ = some (.int .i64 ck) ∧ W.drew.cell? ⟨w.heap.size, 4, none⟩ = some (.string cn) ∧ W.drew.cell? ⟨w.heap.size, 5, none⟩ = some (.int .i64 cvk) ∧ W.drew.cell? ⟨w.heap.size, 6, none⟩ = some (.int .i64 cvn) ∧ W.drew.cell? ⟨w.heap.size, 7, none⟩ = some (.string cvt) ∧ W.drew.cell? ⟨w.heap.size, 8, none⟩ = some (.string cop) ∧ W.drew.cell? ⟨w.heap.size, 9, none⟩ = some (.slice CA cnn cc) ∧ W.drew.cell? ⟨w.heap.size, 10, none⟩ = some (.slice NA nn nc) ∧ W.drew.cell? ⟨w.heap.size, 11, none⟩ = some (.slice EA en ec) ∧ W.drew.cell? ⟨w.heap.size, 12, none⟩ = some (.slice OA ol oc) ∧ W.drew.cell? ⟨w.heap.size, 13, none⟩ = some (.slice GA gn gc) ∧ W.drew.cell? ⟨w.heap.size, 14, none⟩ = some (.slice BA bn bc) ∧ W.drew.cell? ⟨w.heap.size, 15, none⟩ = some (.int .i64 count) ∧ W.drew.cell? ⟨bl, bo, none⟩ = some (.slice SA sn sc) ∧ W.drew.cell? ⟨bl, bo + 1, none⟩ = some (.slice RA rn rc)) := Lib.hid ⟨p0, p1, p2, p3, p4, p5, p6, p7, p8, p9, p10, p11, p12, p13, p14, p15, l0d, l1d⟩
 have HW := Lib.hid hW
 have HT0 := Lib.hid t0.drew
 clear H hL hc0 hW t0 l0 l1 hb0 l0d l1d p0 p1 p2 p3 p4 p5 p6 p7 p8 p9 p10 p11 p12 p13 p14 p15
 go_enter Tryz.func65, Tryz.ntmps65
 go_wp2_with fail
 rw [← HW.out]
 go_region_held3 (fun w' => w'.cell? ⟨w.heap.size, 0, none⟩ = some (.int .i64 3) ∧ w'.cell? ⟨w.heap.size, 1, none⟩ = some (.string k1) ∧ w'.cell? ⟨w.heap.size, 2, none⟩ = some (.slice A2 n2 c2') ∧ w'.cell? ⟨w.heap.size, 3, none⟩ = some (.int .i64 ck) ∧ w'.cell? ⟨w.heap.size, 4, none⟩ = some (.string cn) ∧ w'.cell? ⟨w.heap.size, 5, none⟩ = some (.int .i64 cvk) ∧ w'.cell? ⟨w.heap.size, 6, none⟩ = some (.int .i64 cvn) ∧ w'.cell? ⟨w.heap.size, 7, none⟩ = some (.string cvt) ∧ w'.cell? ⟨w.heap.size, 8, none⟩ = some (.string cop) ∧ w'.cell? ⟨w.heap.size, 9, none⟩ = some (.slice CA cnn cc) ∧ w'.cell? ⟨w.heap.size, 10, none⟩ = some (.slice NA nn nc) ∧ w'.cell? ⟨w.heap.size, 11, none⟩ = some (.slice EA en ec) ∧ w'.cell? ⟨w.heap.size, 12, none⟩ = some (.slice OA ol oc) ∧ w'.cell? ⟨w.heap.size, 13, none⟩ = some (.slice GA gn gc) ∧ w'.cell? ⟨w.heap.size, 14, none⟩ = some (.slice BA bn bc) ∧ w'.cell? ⟨w.heap.size, 15, none⟩ = some (.int .i64 count) ∧ w'.cell? ⟨bl, bo, none⟩ = some (.slice SA sn sc) ∧ w'.cell? ⟨bl, bo + 1, none⟩ = some (.slice RA rn rc)) (first | exact HP.out | exact keep18 M1.out.2.2 HP.out) (first
  | (go_at_call 95; refine (Hj.out _ HT0.out).mono ?_; rintro e w1 ⟨⟨A1, n1, c1⟩, rfl, m1⟩; have M1 := Lib.hid m1; clear m1))
 go_wp2_with fail
 go_ret2
 exact ⟨⟨A1, n1, c1⟩, rfl, M1.out.1, M1.out.2.1, HT0.out.trans0 M1.out.2.2⟩

set_option maxRecDepth 40000 in
set_option maxHeartbeats 6400000 in
theorem rows_group (x : PC) (hk0 : x.kind = 6) (rv : Int × List (List VD)) (L : Option Addr) (lc : Nat) (ta : SL × SL) (w : World) (hL : RdK tbE w L [ta])
  (H : ∀ w', Touch [] w w' → Calls Tryz.prog 97 #[x.val, .agg #[.slice ta.1.A ta.1.n ta.1.c, .slice ta.2.A ta.2.n ta.2.c]] w' (RowsPost rv w')) :
  Calls Tryz.prog 65 #[x.val, .slice L 1 lc] w (RowsPost rv w) := by
 obtain ⟨⟨SA, sn, sc⟩, ⟨RA, rn, rc⟩⟩ := ta
 obtain ⟨k0, k1, ⟨A2, n2, c2'⟩, ⟨⟨ck, cn, ⟨cvk, cvn, cvt⟩, cop⟩, CA, cnn, cc⟩, ⟨NA, nn, nc⟩, ⟨EA, en, ec⟩, ⟨OA, ol, oc⟩, ⟨GA, gn, gc⟩, ⟨BA, bn, bc⟩, count⟩ := x
 dsimp only at hk0 H
 subst hk0
 obtain ⟨ad, bl, bo, rfl, hadd0, hc0⟩ := RdK.cells hL 2 tbE_length (by omega) 0 (by simp)
 have l0 := hc0 0 _ rfl
 have l1 := hc0 1 _ rfl
 simp only [Nat.zero_mul, Nat.add_zero] at hadd0 l0 l1
 simp only [List.getElem_cons_zero] at l0 l1
 have Hj := Lib.hid H
 simp only [PC.val] at *
 obtain ⟨W, hW⟩ : ∃ W, W = w.alloc (.cells #[.int .i64 6, .string k1, .slice A2 n2 c2', .int .i64 ck, .string cn, .int .i64 cvk, .int .i64 cvn, .string cvt, .string cop, .slice CA cnn cc, .slice NA nn nc, .slice EA en ec, .slice OA ol oc, .slice GA gn gc, .slice BA bn bc, .int .i64 count] 49) := ⟨_, rfl⟩
 have t0 : Touch [] w W := hW ▸ (Touch.refl [] w).alloc _
 have hb0 := hW ▸ heap_alloc_new w (.cells #[.int .i64 6, .string k1, .slice A2 n2 c2', .int .i64 ck, .string cn, .int .i64 cvk, .int .i64 cvn, .string cvt, .string cop, .slice CA cnn cc, .slice NA nn nc, .slice EA en ec, .slice OA ol oc, .slice GA gn gc, .slice BA bn bc, .int .i64 count] 49)
 have l0d := t0.drew.cell l0 (by simp)
 have l1d := t0.drew.cell l1 (by simp)
 obtain ⟨p0, p1, p2, p3, p4, p5, p6, p7, p8, p9, p10, p11, p12, p13, p14, p15⟩ := blk16 ((Touch.refl [] W).drew.blk hb0 (by simp))
 have HP : Hid (W.drew.cell? ⟨w.heap.size, 0, none⟩ = some (.int .i64 6) ∧ W.drew.cell? ⟨w.heap.size, 1, none⟩ = some (.string k1) ∧ W.drew.cell? ⟨w.heap.size, 2, none⟩ = some (.slice A2 n2 c2') ∧ W.drew.cell? ⟨w.heap.size, 3, none⟩ = some (.int .i64 ck) ∧ W.drew.cell? ⟨w.heap.size, 4, none⟩ = some (.string cn) ∧ W.drew.cell? ⟨w.heap.size, 5, none⟩ = some (.int .i64 cvk) ∧ W.drew.cell? ⟨w.heap.size, 6, none⟩ = some (.int .i64 cvn) ∧ W.drew.cell? ⟨w.heap.size, 7, none⟩ = some (.string cvt) ∧ W.drew.cell? ⟨w.heap.size, 8, none⟩ = some (.string cop) ∧ W.drew.cell? ⟨w.heap.size, 9, none⟩ = some (.slice CA cnn cc) ∧ W.drew.cell? ⟨w.heap.size, 10, none⟩ = some (.slice NA nn nc) ∧ W.drew.cell? ⟨w.heap.size, 11, none⟩ = some (.slice EA en ec) ∧ W.drew.cell? ⟨w.heap.size, 12, none⟩ = some (.slice OA ol oc) ∧ W.drew.cell? ⟨w.heap.size, 13, none⟩ = some (.slice GA gn gc) ∧ W.drew.cell? ⟨w.heap.size, 14, none⟩ = some (.slice BA bn bc) ∧ W.drew.cell? ⟨w.heap.size, 15, none⟩ = some (.int .i64 count) ∧ W.drew.cell? ⟨bl, bo, none⟩ = some (.slice SA sn sc) ∧ W.drew.cell? ⟨bl, bo + 1, none⟩ = some (.slice RA rn rc)) := Lib.hid ⟨p0, p1, p2, p3, p4, p5, p6, p7, p8, p9, p10, p11, p12, p13, p14, p15, l0d, l1d⟩
 have HW := Lib.hid hW
 have HT0 := Lib.hid t0.drew
 clear H hL hc0 hW t0 l0 l1 hb0 l0d l1d p0 p1 p2 p3 p4 p5 p6 p7 p8 p9 p10 p11 p12 p13 p14 p15
 go_enter Tryz.func65, Tryz.ntmps65
 go_wp2_with fail
 rw [← HW.out]
 go_region_held3 (fun w' => w'.cell? ⟨w.heap.size, 0, none⟩ = some (.int .i64 6) ∧ w'.cell? ⟨w.heap.size, 1, none⟩ = some (.string k1) ∧ w'.cell? ⟨w.heap.size, 2, none⟩ = some (.slice A2 n2 c2') ∧ w'.cell? ⟨w.heap.size, 3, none⟩ = some (.int .i64 ck) ∧ w'.cell? ⟨w.heap.size, 4, none⟩ = some (.string cn) ∧ w'.cell? ⟨w.heap.size, 5, none⟩ = some (.int .i64 cvk) ∧ w'.cell? ⟨w.heap.size, 6, none⟩ = some (.int .i64 cvn) ∧ w'.cell? ⟨w.heap.size, 7, none⟩ = some (.string cvt) ∧ w'.cell? ⟨w.heap.size, 8, none⟩ = some (.string cop) ∧ w'.cell? ⟨w.heap.size, 9, none⟩ = some (.slice CA cnn cc) ∧ w'.cell? ⟨w.heap.size, 10, none⟩ = some (.slice NA nn nc) ∧ w'.cell? ⟨w.heap.size, 11, none⟩ = some (.slice EA en ec) ∧ w'.cell? ⟨w.heap.size, 12, none⟩ = some (.slice OA ol oc) ∧ w'.cell? ⟨w.heap.size, 13, none⟩ = some (.slice GA gn gc) ∧ w'.cell? ⟨w.heap.size, 14, none⟩ = some (.slice BA bn bc) ∧ w'.cell? ⟨w.heap.size, 15, none⟩ = some (.int .i64 count) ∧ w'.cell? ⟨bl, bo, none⟩ = some (.slice SA sn sc) ∧ w'.cell? ⟨bl, bo + 1, none⟩ = some (.slice RA rn rc)) (first | exact HP.out | exact keep18 M1.out.2.2 HP.out) (first
  | (go_at_call 97; refine (Hj.out _ HT0.out).mono ?_; rintro e w1 ⟨⟨A1, n1, c1⟩, rfl, m1⟩; have M1 := Lib.hid m1; clear m1))
 go_wp2_with fail
 go_ret2
 exact ⟨⟨A1, n1, c1⟩, rfl, M1.out.1, M1.out.2.1, HT0.out.trans0 M1.out.2.2⟩

end Go.Proofs.YtafoklilkdnepaaGreatDoor

/- (relop.Plan).first's comparing function: first$1. For every rows, every By. -/
namespace Go.Proofs.YtafoklilkdnepaaGreatDoor
open Go.RowKit

/-- one column's say -/
def by1 (cs : List CD) (o : ByteArray × Bool) (a b : List VD) : Int := let c := cmpVV (a.getD ((placeV cs o.1).getD 0) ⟨0, 0, ByteArray.empty⟩) (b.getD ((placeV cs o.1).getD 0) ⟨0, 0, ByteArray.empty⟩); if o.2 then -c else c
/-- what first$1 answers -/
def cmpBy (cs : List CD) : List (ByteArray × Bool) → List VD → List VD → Int
 | [], _, _ => 0
 | o :: os, a, b => if by1 cs o a b = 0 then cmpBy cs os a b else by1 cs o a b
theorem cmpBy_step {cs : List CD} {os : List (ByteArray × Bool)} {a b : List VD} {k : Nat} (h : k < os.length) : cmpBy cs (os.drop k) a b = if by1 cs os[k] a b = 0 then cmpBy cs (os.drop (k + 1)) a b else by1 cs os[k] a b := by
 rw [List.drop_eq_getElem_cons h]; rfl

set_option maxRecDepth 20000 in
set_option maxHeartbeats 1600000 in
theorem first1_any (PB TB : Nat) (A B sA BA : Option Addr) (c1 c2 n m sc bn bc : Nat) (cs : List CD) (os : List (ByteArray × Bool)) (l r : List VD) (hn : l.length = n) (hm : r.length = m) (hbn : os.length = bn) (w : World) (hp : w.cell? ⟨PB, 14, none⟩ = some (.slice BA bn bc)) (ht' : w.cell? ⟨TB, 0, none⟩ = some (.slice sA cs.length sc))
  (hby : RdK odE w BA os) (hcol : ColsAt w sA cs) (h : ValsAt w A l) (h2 : ValsAt w B r) (hl : n ≤ 140737000000000) (hl2 : m ≤ 140737000000000) (hl3 : cs.length ≤ 140737000000000) (hl4 : os.length ≤ 140737000000000) (hin : ∀ o ∈ os, (placeV cs o.1).getD 0 < l.length ∧ (placeV cs o.1).getD 0 < r.length) :
  Calls Tryz.prog 142 #[.slice A n c1, .slice B m c2, .pointer (some ⟨PB, 0, none⟩), .pointer (some ⟨TB, 0, none⟩)] w fun e w' => e = .returned (.int .i64 (cmpBy cs os l r)) ∧ Touch [] w w' := by
 subst hn hm hbn
 have Hp := Lib.hid hp
 have Ht := Lib.hid ht'
 have Hin := Lib.hid hin
 clear hin
 go_enter Tryz.func142, Tryz.ntmps142
 go_wp2
 go_loopw [15] (fun i wr => ∃ k : Nat, k ≤ os.length ∧ i = .int .i64 k ∧ Hid (cmpBy cs os l r = cmpBy cs (os.drop k) l r) ∧ Touch [] w wr) (fun i _ => os.length - (intOf i).toNat)
 case atStart => exact ⟨0, by omega, rfl, Lib.hid rfl, Touch.refl _ _⟩
 case round =>
  obtain ⟨k, hka, rfl, Ho, ht⟩ := hrel
  have Hp2 : wr.cell? ⟨PB, 14, none⟩ = some (.slice BA os.length bc) := ht.cell Hp.out (by simp)
  have Ht2 : wr.cell? ⟨TB, 0, none⟩ = some (.slice sA cs.length sc) := ht.cell Ht.out (by simp)
  by_cases h1 : k < os.length
  ·obtain ⟨ad, b, off, rfl, hadd, hcell⟩ := RdK.cells (hby.touch0 ht) 2 odE_length (by omega) k h1
   have hst := cmpBy_step (cs := cs) (a := l) (b := r) h1
   have hin := Hin.out os[k] (List.getElem_mem h1)
   have e0 := hcell 0 _ rfl
   have e1 := hcell 1 _ rfl
   obtain ⟨o, ho⟩ : ∃ o, o = os[k] := ⟨_, rfl⟩
   rw [← ho] at hst hin e0 e1
   obtain ⟨nm, dn⟩ := o
   dsimp only at hin e0 e1
   rw [Nat.add_zero] at e0
   have hkI : (k : Int) < (os.length : Int) := by omega
   obtain ⟨W, hW⟩ : ∃ W, W = wr.alloc (.cells #[.string nm, .bool dn] 94) := ⟨_, rfl⟩
   have ta : Touch [] wr W := hW ▸ (Touch.refl [] wr).alloc _
   have Ht3 : W.cell? ⟨TB, 0, none⟩ = some (.slice sA cs.length sc) := ta.cell Ht2 (by simp)
   have hbn' : W.heap[wr.heap.size]? = some (.cells #[.string nm, .bool dn] 94 (0, 0)) := hW ▸ heap_alloc_new wr (.cells #[.string nm, .bool dn] 94)
   have z0 : W.cell? ⟨wr.heap.size, 0, none⟩ = some (.string nm) := cell_blk hbn' rfl
   have z1 : W.cell? ⟨wr.heap.size, 1, none⟩ = some (.bool dn) := cell_blk hbn' rfl
   have hf := findC_any sA sc cs.length cs rfl nm W (hcol.touch0 (ht.trans0 ta)) hl3
   have Hf := Lib.hid hf
   have T0 := Lib.hid (ht.trans0 ta)
   have HB := Lib.hid hbn'
   clear hf hbn' ta
   subst hW
   go_wp2_with (go_at_call 130; refine Hf.out.mono ?_; rintro e w1 ⟨rfl, t1⟩)
   have t2 := T0.out.trans0 t1
   have hb2 := t1.blk HB.out (by simp)
   have z2 : w1.cell? ⟨wr.heap.size, 1, none⟩ = some (.bool dn) := cell_blk hb2 rfl
   unfold by1 at hst
   dsimp only at hst
   obtain ⟨i, hi⟩ : ∃ i, i = (placeV cs nm).getD 0 := ⟨_, rfl⟩
   rw [← hi] at hin hst ⊢
   obtain ⟨adl, bl, offl, rfl, haddl, c0, c1, c2⟩ := (h.touch0 t2).at_ i hin.1
   obtain ⟨adr, br, offr, rfl, haddr, d0, d1, d2⟩ := (h2.touch0 t2).at_ i hin.2
   rw [show l.getD i ⟨0, 0, ByteArray.empty⟩ = l[i]'hin.1 by simp [hin.1], show r.getD i ⟨0, 0, ByteArray.empty⟩ = r[i]'hin.2 by simp [hin.2]] at hst
   obtain ⟨x, hx⟩ : ∃ x, x = l[i]'hin.1 := ⟨_, rfl⟩
   obtain ⟨y, hy⟩ : ∃ y, y = r[i]'hin.2 := ⟨_, rfl⟩
   rw [← hx, ← hy] at hst
   rw [← hx] at c0 c1 c2
   rw [← hy] at d0 d1 d2
   obtain ⟨k1, n1, s1⟩ := x
   obtain ⟨k2, n2, s2⟩ := y
   simp only at c0 c1 c2 d0 d1 d2
   have hcv := fun w' => cmpVal_any ⟨k1, n1, s1⟩ ⟨k2, n2, s2⟩ w'
   simp only [VD.val] at hcv
   obtain ⟨q, hq⟩ : ∃ q, q = cmpVV ⟨k1, n1, s1⟩ ⟨k2, n2, s2⟩ := ⟨_, rfl⟩
   have hqb := cmpVV_b ⟨k1, n1, s1⟩ ⟨k2, n2, s2⟩
   rw [← hq] at hst hcv hqb
   obtain ⟨hqb1, hqb2⟩ := hqb
   have Hcv := Lib.hid hcv
   have Hst := Lib.hid hst
   have HB2 := Lib.hid hb2
   have hiL : (i : Int) < (l.length : Int) := by omega
   have hiR : (i : Int) < (r.length : Int) := by omega
   have hi0 : (0 : Int) ≤ (i : Int) := by omega
   have T2 := Lib.hid t2
   clear hst hcv hx hy hq hi hin t1 t2 hb2
   have c0 := TW.cell c0
   have c1 := TW.cell c1
   have c2 := TW.cell c2
   have d0 := TW.cell d0
   have d1 := TW.cell d1
   have d2 := TW.cell d2
   clear hp ht' Hp2 Ht2 e0 e1 Ht3 z0 z1 hby hcol h h2 ht T0 HB
   go_wp2_with fail
   refine wp_region_tw w1 (Touch.refl _ _) (by kernel_rfl) (by kernel_rfl) ?_
   repeat (go_big_quiet_step ((go_at_call 112; exact Calls.tw _ (Hcv.out _))))
   refine wpQuiet_nil ?_
   rintro _ ⟨x9, rfl⟩
   have z9 : x9.w.cell? ⟨wr.heap.size, 1, none⟩ = some (.bool dn) := x9.t.cell z2 (by simp)
   have T9 := Lib.hid (T2.out.trans0 x9.t)
   clear z2 c0 c1 c2 d0 d1 d2
   cases dn with
   | true =>
    have Hst2 := Lib.hid (show cmpBy cs (os.drop k) l r = if -q = 0 then cmpBy cs (os.drop (k + 1)) l r else -q from Hst.out)
    by_cases h0 : q = 0
    ·subst h0
     have Hq := Lib.hid (show cmpBy cs os l r = cmpBy cs (os.drop (k + 1)) l r by rw [Ho.out, Hst2.out]; rfl)
     go_wp2_with fail
     go_roundw
     case rel => exact ⟨k + 1, by omega, by go_num, Hq, T9.out⟩
     case measure => simp [intOf]; omega
    ·have Hq := Lib.hid (show cmpBy cs os l r = -q by rw [Ho.out, Hst2.out, if_neg (by omega)])
     have h0' : ¬ (-q = 0) := by omega
     go_wp2_with fail
     go_ret
     exact ⟨by rw [Hq.out]; go_num, T9.out⟩
   | false =>
    have Hst2 := Lib.hid (show cmpBy cs (os.drop k) l r = if q = 0 then cmpBy cs (os.drop (k + 1)) l r else q from Hst.out)
    by_cases h0 : q = 0
    ·subst h0
     have Hq := Lib.hid (show cmpBy cs os l r = cmpBy cs (os.drop (k + 1)) l r by rw [Ho.out, Hst2.out]; rfl)
     go_wp2_with fail
     go_roundw
     case rel => exact ⟨k + 1, by omega, by go_num, Hq, T9.out⟩
     case measure => simp [intOf]; omega
    ·have Hq := Lib.hid (show cmpBy cs os l r = q by rw [Ho.out, Hst2.out, if_neg h0])
     go_wp2_with fail
     go_ret
     exact ⟨by rw [Hq.out]; rfl, T9.out⟩
  ·have hkI : ¬ (k : Int) < (os.length : Int) := by omega
   obtain rfl : k = os.length := by omega
   go_wp2
   go_ret
   exact ⟨by rw [Ho.out, List.drop_length]; rfl, ht⟩
end Go.Proofs.YtafoklilkdnepaaGreatDoor
