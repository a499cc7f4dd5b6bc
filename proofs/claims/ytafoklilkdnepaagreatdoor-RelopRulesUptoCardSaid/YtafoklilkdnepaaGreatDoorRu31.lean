/- Part 31 of the texts of this proof, one behind the other; each begins with its own sentence. No condition beyond those that its theorems state. -/
import Derived.Test.YtafoklilkdnepaaGreatDoorRu30
/- relop.Plan.eval at distinct. For every plan whose Arg's table is known. (gen_rlevd.py) -/
namespace Go.Proofs.YtafoklilkdnepaaGreatDoor
open Go.RowKit

theorem TabU.touch0' {lo hi : Nat} {w w' : World} {s r : SL} {cs : List CD} {rows : List (List VD)} (h : TabU lo hi w s r cs rows) (ht : Touch [] w w') : TabU lo hi w' s r cs rows := h.touch ht (by simp)
set_option maxRecDepth 40000 in
set_option maxHeartbeats 12800000 in
theorem eval_distinct (x : PC) (hk0 : x.kind = 8) (hm : x.args.n = 1) (I : Option Addr) (ic n : Nat) (w : World) (y : PC) (hX : RdK pcE w x.args.A [y]) (v : Int × List CD × List (List VD)) (hE : EvalC w I ic n y v)
  (hok : ∀ c ∈ v.2.1, c.Ok) (hvl : v.2.1.length ≤ 1000000) (hrk : RowsOk v.2.2) (hrl : RowsLe v.2.2) (hrn : v.2.2.length ≤ 100000) :
  Calls Tryz.prog 30 #[x.val, .slice I n ic] w (EvPost (nodeE [v] v.2.1 (0, cptR v.2.2)) w) := by
 obtain ⟨PO, hPO⟩ : ∃ PO, PO = EvPost (nodeE [v] v.2.1 (0, cptR v.2.2)) w := ⟨_, rfl⟩
 rw [← hPO]
 have HPO := Lib.hid hPO
 have Hrd := Lib.hid fun (L : Option Addr) (lc : Nat) (s r : SL) w' => rows_distinct x hk0 L lc s r v.2.2 w'
 have Hsd := Lib.hid fun (L : Option Addr) (lc : Nat) (s : SL) w' (h : RdK slE w' L [s]) => schema_distinct x hk0 L lc s w' h
 obtain ⟨k0, k1, ⟨A2, n2, c2'⟩, ⟨⟨ck, cn, ⟨cvk, cvn, cvt⟩, cop⟩, CA, cnn, cc⟩, ⟨NA, nn, nc⟩, ⟨EA, en, ec⟩, ⟨OA, ol, oc⟩, ⟨GA, gn, gc⟩, ⟨BA, bn, bc⟩, count⟩ := x
 dsimp only at hk0 hm hX
 subst hk0 hm
 simp only [PC.val] at *
 obtain ⟨W, hW⟩ : ∃ W, W = (w.alloc (.cells #[.int .i64 8, .string k1, .slice A2 1 c2', .int .i64 ck, .string cn, .int .i64 cvk, .int .i64 cvn, .string cvt, .string cop, .slice CA cnn cc, .slice NA nn nc, .slice EA en ec, .slice OA ol oc, .slice GA gn gc, .slice BA bn bc, .int .i64 count] 49)).alloc (.cells #[.slice none 0 0, .slice none 0 0] 27) := ⟨_, rfl⟩
 have t0 : Touch [] w W := hW ▸ ((Touch.refl [] w).alloc _).alloc _
 have hb0 : W.heap[w.heap.size]? = some (.cells #[.int .i64 8, .string k1, .slice A2 1 c2', .int .i64 ck, .string cn, .int .i64 cvk, .int .i64 cvn, .string cvt, .string cop, .slice CA cnn cc, .slice NA nn nc, .slice EA en ec, .slice OA ol oc, .slice GA gn gc, .slice BA bn bc, .int .i64 count] 49 (0, 0)) := hW ▸ ((Touch.refl [] (w.alloc (.cells #[.int .i64 8, .string k1, .slice A2 1 c2', .int .i64 ck, .string cn, .int .i64 cvk, .int .i64 cvn, .string cvt, .string cop, .slice CA cnn cc, .slice NA nn nc, .slice EA en ec, .slice OA ol oc, .slice GA gn gc, .slice BA bn bc, .int .i64 count] 49))).alloc (.cells #[.slice none 0 0, .slice none 0 0] 27)).blk (heap_alloc_new w _) (by simp)
 have hbt : W.heap[w.heap.size + 1]? = some (.cells #[.slice none 0 0, .slice none 0 0] 27 (0, 0)) := by
  have := heap_alloc_new (w.alloc (.cells #[.int .i64 8, .string k1, .slice A2 1 c2', .int .i64 ck, .string cn, .int .i64 cvk, .int .i64 cvn, .string cvt, .string cop, .slice CA cnn cc, .slice NA nn nc, .slice EA en ec, .slice OA ol oc, .slice GA gn gc, .slice BA bn bc, .int .i64 count] 49)) (.cells #[.slice none 0 0, .slice none 0 0] 27)
  rw [World.size_alloc] at this
  exact hW ▸ this
 have hWs : W.heap.size = w.heap.size + 2 := by rw [hW]; simp
 have HW := Lib.hid hW
 have HT0 := Lib.hid (And.intro t0 (And.intro hb0 (And.intro hbt hWs)))
 have hX2 := RdK.touch0 hX t0
 have q2 : W.cell? ⟨w.heap.size, 2, none⟩ = some (.slice A2 1 c2') := cell_blk hb0 rfl
 obtain ⟨ad, b1, o1, rfl, hadd, hc⟩ := RdK.cells hX2 16 pcE_length (by omega) 0 (by simp)
 have hty := hE
 clear hX hX2 hW
 obtain ⟨y0, y1, ⟨yA2, yn2, yc2⟩, ⟨⟨yck, ycn, ⟨ycvk, ycvn, ycvt⟩, ycop⟩, yCA, ycnn, ycc⟩, ⟨yNA, ynn, ync⟩, ⟨yEA, yen, yec⟩, ⟨yOA, yol, yoc⟩, ⟨yGA, ygn, ygc⟩, ⟨yBA, ybn, ybc⟩, ycount⟩ := y
 have e0 := hc 0 _ rfl; have e1 := hc 1 _ rfl; have e2 := hc 2 _ rfl; have e3 := hc 3 _ rfl; have e4 := hc 4 _ rfl; have e5 := hc 5 _ rfl; have e6 := hc 6 _ rfl; have e7 := hc 7 _ rfl
 have e8 := hc 8 _ rfl; have e9 := hc 9 _ rfl; have e10 := hc 10 _ rfl; have e11 := hc 11 _ rfl; have e12 := hc 12 _ rfl; have e13 := hc 13 _ rfl; have e14 := hc 14 _ rfl; have e15 := hc 15 _ rfl
 rw [Nat.add_zero] at e0
 rw [Nat.zero_mul] at hadd
 simp only [List.getElem_cons_zero] at e0 e1 e2 e3 e4 e5 e6 e7 e8 e9 e10 e11 e12 e13 e14 e15
 have ta := (Touch.refl [] W).alloc (.cells #[.int .i64 y0, .string y1, .slice yA2 yn2 yc2, .int .i64 yck, .string ycn, .int .i64 ycvk, .int .i64 ycvn, .string ycvt, .string ycop, .slice yCA ycnn ycc, .slice yNA ynn ync, .slice yEA yen yec, .slice yOA yol yoc, .slice yGA ygn ygc, .slice yBA ybn ybc, .int .i64 ycount] 49)
 have hty2 := hty _ (t0.trans0 ta)
 simp only [PC.val] at hty2
 have Hty := Lib.hid hty2
 have HTa := Lib.hid ta
 have Hok := Lib.hid (And.intro hok (And.intro hrk hrl))
 clear hc hty hty2 ta t0 hb0 hbt hWs hPO hE hok hrk hrl
 go_enter Tryz.func30, Tryz.ntmps30
 go_wp2_with fail
 rw [← HW.out]
 refine wp_loop_rounds 2 ?_
 rw [rounds_succ]
 go_wp2_with fail
 refine Hty.out.mono ?_
 rintro e w1 ⟨⟨sA, sn, sc⟩, ⟨rA, rn, rc⟩, rfl, hnt, t1⟩
 obtain ⟨uer, ucs, urows⟩ := v
 dsimp only at hnt hvl hrn Hrd
 clear e0 e1 e2 e3 e4 e5 e6 e7 e8 e9 e10 e11 e12 e13 e14 e15 q2 Hty
 by_cases hz : uer = 0
 rotate_left
 ·as_aux_lemma =>
  have HVe := Lib.hid (show nodeE [(uer, ucs, urows)] ucs (0, cptR urows) = (uer, [], []) by
   have : errL ([(uer, ucs, urows)].map fun v : Int × List CD × List (List VD) => (v.1, v.2.1)) = uer := by simp [errL, hz]
   unfold nodeE; rw [this, if_neg hz])
  have hq : (uer == 0) = false := by rw [beq_eq_false_iff_ne]; exact hz
  have hq' : (uer != 0) = true := by rw [bne, hq]; rfl
  have ta2 := (Touch.refl [] w1).alloc (.cells #[.slice sA sn sc, .slice rA rn rc] 27)
  have hr2 := ta2.blk (t1.blk (HTa.out.blk HT0.out.2.2.1 (by simp)) (by simp)) (by simp)
  obtain ⟨z0, z1, y0', y1'⟩ := blk2 hr2
  have HT1 := Lib.hid (And.intro (((HT0.out.1.trans0 HTa.out).trans0 t1).trans0 ta2) hr2)
  clear hnt t1 hr2 ta2
  go_wp2_with fail
  refine bodyPost_ret (results_cell_two rfl _ _ (w.heap.size + 1) _ _ _ _ rfl (set2 HT1.out.2 rfl _ _) Tryz.underlying27 rfl rfl) rfl ?_
  rw [HPO.out]
  dsimp only
  rw [HVe.out]
  exact EvPost.err uer (HT1.out.1.trans (touch2 _ _ _ _) (fun b hb => .inr (by simp at hb; omega)))
 ·subst hz
  as_aux_lemma =>
  have HVe := Lib.hid (show nodeE [(0, ucs, urows)] ucs (0, cptR urows) = if fitV ucs (cptR urows) = 0 then (0, ucs, sortR (cptR urows)) else (fitV ucs (cptR urows), [], []) by
   have : errL ([((0 : Int), ucs, urows)].map fun v : Int × List CD × List (List VD) => (v.1, v.2.1)) = 0 := by simp [errL]
   unfold nodeE; rw [this, if_pos rfl, if_pos rfl])
  have HUT := Lib.hid (TabU.of hnt)
  have tb := (Touch.refl [] w1).alloc (.cells #[.slice sA sn sc, .slice rA rn rc] 27)
  have tc := tb.alloc (.cells #[.slice sA sn sc, .slice rA rn rc] 27)
  have HT1 := Lib.hid (And.intro (HTa.out.trans0 t1) (And.intro tc t1.size))
  have hrd1 := RdK.one (enc := tbE) (w1.alloc (.cells #[.slice sA sn sc, .slice rA rn rc] 27)) 27 (⟨sA, sn, sc⟩, ⟨rA, rn, rc⟩) #[.slice sA sn sc, .slice rA rn rc] rfl
  rw [World.size_alloc] at hrd1
  have HR1 := Lib.hid hrd1
  clear hnt t1 tb tc hrd1
  go_wp2_with (at_builtin; refine stop ?_)
  refine go ?_
  refine wpList_appK (enc := tbE) rfl (.tmp 37) (.tmp 39) 115 rfl 27 _ 2 48 info_t5 Tryz.underlying115 rfl (by omega) tbE_length tbE_one none 0 0 [] rfl rfl (OwnK.nil _ _ _ _)
   (some ⟨w1.heap.size + 1, 0, none⟩) 1 1 [(⟨sA, sn, sc⟩, ⟨rA, rn, rc⟩)] rfl rfl HR1.out (by omega) (by omega) ?_
  intro L lc w2 hown ht hf
  rw [List.nil_append] at hown
  have hT2 : Touch [] W w2 := (HT1.out.1.trans0 HT1.out.2.1).trans0 (ht.mono (by simp [fpo]))
  have hq0 := hT2.blk HT0.out.2.1 (by simp)
  have hk8 : w2.cell? ⟨w.heap.size, 0, none⟩ = some (.int .i64 8) := cell_blk hq0 rfl
  have hU2 : TabU (W.heap.size + 1) w1.heap.size w2 ⟨sA, sn, sc⟩ ⟨rA, rn, rc⟩ ucs urows := by
   have := HUT.out.touch (HT1.out.2.1.trans0 (ht.mono (by simp [fpo]))) (by simp)
   rwa [World.size_alloc] at this
  have hLf : ∀ b ∈ fpo L, w1.heap.size + 2 ≤ b := fun b hb => by
   rcases hf b hb with q | q
   ·simp [fpo] at q
   ·rw [q]; simp
  have H2 := Lib.hid (And.intro hT2 (And.intro hown (And.intro hU2 (And.intro hLf (show w1.heap.size ≤ w2.heap.size from Nat.le_trans (by rw [World.size_alloc, World.size_alloc]; omega) (Touch.size (ht.mono (by simp [fpo]) : Touch [] _ w2)))))))
  obtain ⟨adL, bL, oL, rfl, haddL, hcL⟩ := RdK.cells hown.rd 2 tbE_length (by omega) 0 (by simp)
  have m0 := hcL 0 _ rfl
  have m1 := hcL 1 _ rfl
  rw [Nat.add_zero] at m0
  rw [Nat.zero_mul] at haddL
  simp only [List.getElem_cons_zero] at m0 m1
  clear HT1 HR1 HUT hown ht hf hT2 hq0 hU2 hLf hcL
  go_wp2_with fail
  rw [rounds_succ]
  go_wp2_with fail
  refine wp_loop_rounds 2 ?_
  rw [rounds_succ]
  go_wp2_with (at_builtin; refine stop ?_)
  refine go ?_
  have td := ((Touch.refl [] w2).alloc (.cells #[.slice sA sn sc, .slice rA rn rc] 27)).alloc (.cells #[.slice sA sn sc] 24)
  have hrd2 := RdK.one (enc := slE) (w2.alloc (.cells #[.slice sA sn sc, .slice rA rn rc] 27)) 24 ⟨sA, sn, sc⟩ #[.slice sA sn sc] rfl
  rw [World.size_alloc] at hrd2
  refine wpList_appK (enc := slE) rfl (.tmp 60) (.tmp 63) 119 rfl 24 _ 1 24 info_s5 Tryz.underlying119 rfl (by omega) slE_length slE_one none 0 0 [] rfl rfl (OwnK.nil _ _ _ _)
   (some ⟨w2.heap.size + 1, 0, none⟩) 1 1 [⟨sA, sn, sc⟩] rfl rfl hrd2 (by omega) (by omega) ?_
  intro L2 lc2 w4 hown2 ht2 hf2
  rw [List.nil_append] at hown2
  have hT4 : Touch [] w2 w4 := td.trans0 (ht2.mono (by simp [fpo]))
  have H4 := Lib.hid (And.intro hT4 hown2.rd)
  obtain ⟨p0, p1, p2, p3, p4, p5, p6, p7, p8, p9, p10, p11, p12, p13, p14, p15⟩ := blk16 ((H2.out.1.trans0 hT4).blk HT0.out.2.1 (by simp))
  clear m0 m1 hk8 hown2 ht2 hf2 hT4 td hrd2
  go_wp2_with fail
  rw [rounds_succ]
  go_wp2_with fail
  refine (Hsd.out L2 lc2 ⟨sA, sn, sc⟩ w4 H4.out.2).mono ?_
  rintro e w5 ⟨rfl, t5⟩
  have T5 := Lib.hid (H4.out.1.trans0 t5)
  clear p0 p1 p2 p3 p4 p5 p6 p7 p8 p9 p10 p11 p12 p13 p14 p15 t5
  obtain ⟨p0, p1, p2, p3, p4, p5, p6, p7, p8, p9, p10, p11, p12, p13, p14, p15⟩ := blk16 ((H2.out.1.trans0 T5.out).blk HT0.out.2.1 (by simp))
  have hU5 := H2.out.2.2.1.touch0' T5.out
  obtain ⟨sl, hs, ho, ha⟩ := hU5.rws
  have Hrw := Lib.hid (Hrd.out (some adL) lc ⟨sA, sn, sc⟩ ⟨rA, rn, rc⟩ w5 (RdK.touch0 H2.out.2.1.rd T5.out) hU5.m hrn Hok.out.2.1 sl hs ho (fun s hs b hb => (ha s hs b hb).1))
  have HU5 := Lib.hid hU5
  clear hs ho ha hU5 Hsd Hrd
  go_wp2_with fail
  refine Hrw.out.mono ?_
  rintro e w6 ⟨⟨qA, qn, qc⟩, rfl, r1, r2, t6⟩
  have hbr : w6.heap[w.heap.size + 1]? = some (.cells #[.slice none 0 0, .slice none 0 0] 27 (0, 0)) := t6.blk ((H2.out.1.trans0 T5.out).blk HT0.out.2.2.1 (by simp)) (fun hm => by have := HU5.out.rf _ hm; have := HT0.out.2.2.2; omega)
  have hcol : ColsAt w6 sA ucs := RdK.touch HU5.out.cols t6 (fun b hb hm => HU5.out.apart b hb hm)
  have hT6 : Touch [] w w6 := (HT0.out.1.trans0 (H2.out.1.trans0 T5.out)).trans t6 (fun b hb => .inr (by have := HU5.out.rf b hb; have := HT0.out.2.2.2; omega))
  have HZ := Lib.hid (And.intro r1 (And.intro r2 (And.intro hcol (And.intro hT6 (And.intro hbr (show w.heap.size + 2 ≤ w6.heap.size from by have h1 := t6.size; have h2 := (H2.out.1.trans0 T5.out).size; have := HT0.out.2.2.2; omega))))))
  have hvk : RowsOk (cptR urows) := fun r hr => Hok.out.2.1 r (cptR_mem hr)
  have hvl2 : RowsLe (cptR urows) := fun r hr => Hok.out.2.2 r (cptR_mem hr)
  have hcl := cptR_le urows
  obtain ⟨rrows, hrr⟩ : ∃ r, r = cptR urows := ⟨_, rfl⟩
  rw [← hrr] at HVe HZ hvk hvl2 hcl HPO
  have HV := Lib.hid (And.intro hvk (And.intro hvl2 hcl))
  obtain ⟨z0, z1, y0', y1'⟩ := blk2 hbr
  have HN := Lib.hid (And.intro HU5.out.n HU5.out.le)
  clear p0 p1 p2 p3 p4 p5 p6 p7 p8 p9 p10 p11 p12 p13 p14 p15 r1 r2 t6 hcol hT6 hbr hvk hvl2 hcl hrr Hrw haddL
  by_cases hf0 : fitV ucs rrows = 0
  ·as_aux_lemma =>
   have HVg := Lib.hid (show nodeE [(0, ucs, urows)] ucs (0, rrows) = (0, ucs, sortR rrows) by rw [HVe.out, if_pos hf0])
   have Hmk := Lib.hid (make_yes sA sc sn ucs HN.out.1.symm HN.out.2 Hok.out.1 qA qc qn rrows HZ.out.1.symm HV.out.1 HV.out.2.1 w6 HZ.out.2.2.1 HZ.out.2.1 (by have h := HN.out.1; (try dsimp only at h); omega) (by have h := HZ.out.1; have h2 := HV.out.2.2; (try dsimp only at h h2); omega) hf0)
   clear HVe hf0
   go_wp2_with fail
   refine Hmk.out.mono ?_
   rintro e w7 ⟨⟨mA, mn, mc⟩, ⟨gA, gn', gc'⟩, out, rfl, hnt, hso, t7⟩
   have HM := Lib.hid (And.intro hnt (And.intro hso (And.intro t7 (t7.blk HZ.out.2.2.2.2.1 (by simp)))))
   clear hnt hso t7 Hmk z0 z1 y0' y1'
   obtain ⟨z0, z1, y0', y1'⟩ := blk2 HM.out.2.2.2
   go_wp2_with fail
   obtain ⟨hnt, hso, t7, hr7⟩ := HM.out
   have tq := touch2 w7 (w.heap.size + 1) (.slice mA mn mc) (.slice gA gn' gc')
   have hs7 := HZ.out.2.2.2.2.2
   refine bodyPost_ret (results_cell_two rfl _ _ (w.heap.size + 1) _ _ _ _ rfl (set2 hr7 rfl _ _) Tryz.underlying27 rfl rfl) rfl ?_
   rw [HPO.out]
   dsimp only
   rw [HVg.out, ← sortR_of hso]
   refine ⟨⟨mA, mn, mc⟩, ⟨gA, gn', gc'⟩, rfl, ?_, (HZ.out.2.2.2.1.trans0 t7).trans tq (fun b hb => .inr (by simp at hb; omega))⟩
   refine ⟨hnt.n, hnt.le, RdK.touch hnt.cols tq (fun b hb hm => ?_), fun b hb => ⟨?_, ?_⟩, hnt.m, ?_, fun b hb => ?_, hnt.apart⟩
   ·have := (hnt.cf b hb).1; simp at hm; omega
   ·have := (hnt.cf b hb).1; omega
   ·have := (hnt.cf b hb).2; have := tq.size; omega
   ·exact (hnt.rws.touch tq (fun b hb => by simp at hb; omega) (fun b hb => hnt.rf b hb)).base (by omega)
   ·have := hnt.rf b hb; omega
  ·as_aux_lemma =>
   have hmk := make_no sA sc sn ucs HN.out.1.symm Hok.out.1 qA qc qn rrows HZ.out.1.symm HV.out.1 w6 HZ.out.2.2.1 HZ.out.2.1 (by have h := HN.out.1; (try dsimp only at h); omega) (by have h := HZ.out.1; have h2 := HV.out.2.2; (try dsimp only at h h2); omega) hf0
   have HVg := Lib.hid (show nodeE [(0, ucs, urows)] ucs (0, rrows) = (fitV ucs rrows, [], []) by rw [HVe.out, if_neg hf0])
   obtain ⟨K, hK⟩ : ∃ K, K = fitV ucs rrows := ⟨_, rfl⟩
   rw [← hK] at hmk HVg
   have Hmk := Lib.hid hmk
   clear HVe hf0 hK hmk
   go_wp2_with fail
   refine Hmk.out.mono ?_
   rintro e w7 ⟨rfl, t7⟩
   have HM := Lib.hid (And.intro t7 (t7.blk HZ.out.2.2.2.2.1 (by simp)))
   clear t7 Hmk z0 z1 y0' y1'
   obtain ⟨z0, z1, y0', y1'⟩ := blk2 HM.out.2
   go_wp2_with fail
   refine bodyPost_ret (results_cell_two rfl _ _ (w.heap.size + 1) _ _ _ _ rfl (set2 HM.out.2 rfl _ _) Tryz.underlying27 rfl rfl) rfl ?_
   rw [HPO.out]
   dsimp only
   rw [HVg.out]
   exact EvPost.err K ((HZ.out.2.2.2.1.trans0 HM.out.1).trans (touch2 _ _ _ _) (fun b hb => .inr (by simp at hb; omega)))
end Go.Proofs.YtafoklilkdnepaaGreatDoor

/- RelopRules: what its plans tell. No program's function. -/
namespace Go.Proofs.YtafoklilkdnepaaGreatDoor
open Go.RowKit

theorem checkT_parts {cs : List CD} {rows : List (List VD)} (h : checkT cs rows = 0) : fitV cs rows = 0 ∧ sortedV rows = true := by
 unfold checkT at h
 by_cases h1 : fitV cs rows = 0
 ·rw [if_pos h1] at h
  by_cases h2 : sortedV rows = true
  ·exact ⟨h1, h2⟩
  ·rw [if_neg h2] at h; exact absurd h (by decide)
 ·rw [if_neg h1] at h; exact absurd h h1
theorem sortedV_step {rows : List (List VD)} (h : sortedV rows = true) (k : Nat) (hk : k + 1 < rows.length) : cmpRV rows[k] rows[k + 1] ≤ 0 := by
 unfold sortedV at h
 rw [List.all_eq_true] at h
 have := of_decide_eq_true (h k (List.mem_range.2 (by omega)))
 have e1 : rows.getD (k + 1) [] = rows[k + 1] := by simp [List.getD, hk]
 have e2 : rows.getD k [] = rows[k] := by simp [List.getD, show k < rows.length by omega]
 rw [e1, e2] at this
 have := cmpRV_neg rows[k + 1] rows[k]
 omega
theorem sortedV_pair {rows : List (List VD)} (h : sortedV rows = true) : rows.Pairwise fun a b => cmpRV a b ≤ 0 := by
 rw [List.pairwise_iff_getElem]
 intro i j hi hj hij
 obtain ⟨d, rfl⟩ : ∃ d, j = i + 1 + d := ⟨j - (i + 1), by omega⟩
 clear hij
 induction d with
 | zero => exact sortedV_step h i (by omega)
 | succ d ih =>
  have h1 := ih (by omega)
  have h2 := sortedV_step h (i + 1 + d) (by omega)
  exact (tr_row _ _ _ h1 h2).1
theorem sortR_same {rows : List (List VD)} (h : rows.Pairwise fun a b => cmpRV a b ≤ 0) : sortR rows = rows := (sortR_of ⟨.refl _, h⟩).symm
theorem sortR_is (rows : List (List VD)) : SortedOf rows (sortR rows) := by
 refine ⟨List.mergeSort_perm _ _, ?_⟩
 have := List.pairwise_mergeSort (le := fun a b : List VD => decide (cmpRV a b ≤ 0))
  (fun a b c h1 h2 => by
   have := tr_row a b c (of_decide_eq_true h1) (of_decide_eq_true h2)
   exact decide_eq_true this.1)
  (fun a b => by
   have := cmpRV_neg a b
   by_cases h : cmpRV a b ≤ 0
   ·rw [decide_eq_true h]; rfl
   ·rw [decide_eq_true (show cmpRV b a ≤ 0 by omega), Bool.or_true]) rows
 exact this.imp fun h => of_decide_eq_true h
theorem fitV_sub {cs : List CD} {rows out : List (List VD)} (h : fitV cs rows = 0) (hm : ∀ r ∈ out, r ∈ rows) (hl : out.length ≤ rows.length) : fitV cs out = 0 := by
 obtain ⟨h1, h2, h3⟩ := fitV_zero h
 unfold fitV
 rw [if_pos h1, if_neg (by omega), if_pos]
 rw [List.all_eq_true] at h3 ⊢
 exact fun r hr => h3 r (hm r hr)

/-- the one source -/
def srcs1 (cs : List CD) (rows : List (List VD)) : List SrcD := [⟨⟨#[120]⟩, cs, rows⟩]
theorem src1_x (cs : List CD) (rows : List (List VD)) : srcI (srcs1 cs rows) ⟨#[120]⟩ = some 0 := srcI_some (l := srcs1 cs rows) (k := 0) (by simp [srcs1]) rfl (fun j hj => absurd hj (by omega))
theorem scan1_x {cs : List CD} {rows : List (List VD)} (h : checkT cs rows = 0) : scanV (srcs1 cs rows) ⟨#[120]⟩ = (0, cs) := by
 unfold scanV
 rw [src1_x]
 simp only [srcs1, List.getElem?_cons_zero]
 exact if_pos h
/-- a small table that is right, and the world that holds it as source x -/
structure RuAt (W : World) (I : Option Addr) (ic : Nat) (cs : List CD) (rows : List (List VD)) : Prop where
 tb : TbOk cs rows
 ck : checkT cs rows = 0
 nd : NeedsAt W
 src : SrcsAt W I (srcs1 cs rows)
section
variable {W : World} {I : Option Addr} {ic : Nat} {cs : List CD} {rows : List (List VD)}
theorem RuAt.touch0 {W' : World} (h : RuAt W I ic cs rows) (t : Touch [] W W') : RuAt W' I ic cs rows := ⟨h.tb, h.ck, h.nd.touch0 t, h.src.touch0 t⟩
theorem RuAt.fit (h : RuAt W I ic cs rows) : fitV cs rows = 0 := (checkT_parts h.ck).1
theorem RuAt.check (h : RuAt W I ic cs rows) : checkV cs = 0 := (fitV_zero h.fit).1
theorem RuAt.pair (h : RuAt W I ic cs rows) : rows.Pairwise fun a b => cmpRV a b ≤ 0 := sortedV_pair (checkT_parts h.ck).2
theorem RuAt.fits (h : RuAt W I ic cs rows) : ∀ r ∈ rows, fitR cs r = true := List.all_eq_true.1 (fitV_zero h.fit).2.2
theorem RuAt.scanT (h : RuAt W I ic cs rows) (d : Int) (hd : d ≤ 16) : TypedC W I ic 1 (scanC ⟨#[120]⟩) d (0, cs) := by
 have := typedC_scan (scanC ⟨#[120]⟩) rfl rfl d hd I ic 1 (srcs1 cs rows) rfl (by omega) (fun s hs => by
  simp only [srcs1, List.mem_singleton] at hs
  subst hs
  exact h.tb.src _) W h.nd h.src
 rw [show (scanC ⟨#[120]⟩).name = ⟨#[120]⟩ from rfl, scan1_x h.ck] at this
 exact this
theorem RuAt.scanE (h : RuAt W I ic cs rows) : EvalC W I ic 1 (scanC ⟨#[120]⟩) (0, cs, rows) :=
 evalC_scan (scanC ⟨#[120]⟩) rfl rfl I ic 1 (srcs1 cs rows) rfl (by omega) 0 (by simp [srcs1]) (src1_x cs rows) (by simp only [srcs1, List.getElem_cons_zero]; have := h.tb.n; omega) (by simp only [srcs1, List.getElem_cons_zero]; have := h.tb.m; omega) h.tb.rle W h.src
theorem scanSz (s : ByteArray) (w : World) : SizeC w (scanC s) 1 := sizeC_leaf _ rfl w
/-- a plan of one Arg: how many plans, and its type -/
theorem one_size (x : PC) (hm : x.args.n = 1) (y : PC) (hX : RdK pcE W x.args.A [y]) (k : Nat) (hk : k ≤ 100) (hy : SizeC W y k) : SizeC W x (1 + k) := by
 have := sizeC_node x [y] [k] W (by rw [hm]; rfl) (by rw [hm]; rfl) hX (fun i a b => by
  obtain rfl : i = 0 := by simp at a; omega
  exact hy) (by simp; omega) (by omega)
 simpa using this
theorem RuAt.oneT (h : RuAt W I ic cs rows) (x : PC) (kk : Nat) (hk0 : x.kind = kk) (hk2 : 2 ≤ kk) (hk9 : kk ≤ 9) (hnd : needV kk = 1) (hm : x.args.n = 1) (y : PC) (hX : RdK pcE W x.args.A [y]) (d : Int) (hd0 : 0 ≤ d) (hd : d ≤ 16) (v : Int × List CD) (hy : TypedC W I ic 1 y (d + 1) v) (er : Int) (hs : v.1 = 0 → SchemaC W x [v.2] (er, cs)) : TypedC W I ic 1 x d (nodeV [v] (er, cs)) :=
 typedC_node x kk 1 hk0 hk2 hk9 hm hnd d hd0 hd I ic 1 W h.nd [y] [v] rfl rfl hX (fun i a b => by
  obtain rfl : i = 0 := by simp at a; omega
  exact hy) (er, cs) (fun h0 => hs (by
   unfold errL at h0
   by_cases hv : v.1 = 0
   ·exact hv
   ·rw [if_neg hv] at h0; exact h0)) h.tb.cols (by have := h.tb.n; show cs.length ≤ _; omega)
theorem errL1 {v : Int × List CD} (h : errL [v] = 0) : v.1 = 0 := by
 unfold errL at h
 by_cases hv : v.1 = 0
 ·exact hv
 ·rw [if_neg hv] at h; exact h
theorem errL2 {u v : Int × List CD} (h : errL [u, v] = 0) : u.1 = 0 ∧ v.1 = 0 := by
 unfold errL at h
 by_cases hv : u.1 = 0
 ·rw [if_pos hv] at h
  exact ⟨hv, errL1 h⟩
 ·rw [if_neg hv] at h; exact absurd h hv
theorem nodeV_zero {vs : List (Int × List CD)} {v : Int × List CD} (h : (nodeV vs v).1 = 0) : errL vs = 0 ∧ v.1 = 0 ∧ (nodeV vs v) = (0, v.2) := by
 unfold nodeV at h ⊢
 by_cases h1 : errL vs = 0
 ·rw [if_pos h1] at h ⊢
  by_cases h2 : v.1 = 0
  ·rw [if_pos h2] at h ⊢
   by_cases h3 : checkV v.2 = 0
   ·rw [if_pos h3]; exact ⟨h1, h2, rfl⟩
   ·rw [if_neg h3] at h; exact absurd h h3
  ·rw [if_neg h2] at h; exact absurd h h2
 ·rw [if_neg h1] at h; exact absurd h h1
theorem nodeE_zero {vs : List (Int × List CD × List (List VD))} {cs : List CD} {rv : Int × List (List VD)} (h : (nodeE vs cs rv).1 = 0) : errL (vs.map fun v => (v.1, v.2.1)) = 0 ∧ rv.1 = 0 ∧ fitV cs rv.2 = 0 ∧ nodeE vs cs rv = (0, cs, sortR rv.2) := by
 unfold nodeE at h ⊢
 by_cases h1 : errL (vs.map fun v => (v.1, v.2.1)) = 0
 ·rw [if_pos h1] at h ⊢
  by_cases h2 : rv.1 = 0
  ·rw [if_pos h2] at h ⊢
   by_cases h3 : fitV cs rv.2 = 0
   ·rw [if_pos h3]; exact ⟨h1, h2, h3, rfl⟩
   ·rw [if_neg h3] at h; exact absurd h h3
  ·rw [if_neg h2] at h; exact absurd h h2
 ·rw [if_neg h1] at h; exact absurd h h1
/-- a condition that came in, or its not -/
structure CondAt {m : Nat} (W : World) (x : XC) (e : TX m) : Prop where
 at_ : ExP xcE anyB m W x e
 sz : sizeX m e ≤ 1000000
 tx : allX (fun q => q.v.text.size ≤ 140737000000000) m e
theorem CondAt.touch0 {m : Nat} {x : XC} {e : TX m} {W' : World} (h : CondAt W x e) (t : Touch [] W W') : CondAt W' x e := ⟨h.at_.touch0 t, h.sz, h.tx⟩
theorem CondAt.ets {m : Nat} {x : XC} {e : TX m} (h : CondAt W x e) (hc : ∀ c ∈ cs, c.Ok) (hl : cs.length ≤ 16) : ETypeS W x cs (typeX cs m e) :=
 fun w' A c t hcs => typeX_any m e x A c cs.length cs rfl hc w' (h.at_.touch0 t) hcs (by omega) h.sz h.tx
theorem CondAt.not {m : Nat} {x y : XC} {e : TX m} (h : CondAt W x e) (hs : sizeX m e ≤ 60) {w : World} (hy : ExP xcE anyB (m + 1) w y (notX m e)) : CondAt w y (notX m e) :=
 ⟨hy, by
  show 1 + ([e].map (sizeX m)).sum ≤ _
  simp; omega, ⟨Nat.zero_le _, fun a ha => by
  have : a = e := List.mem_singleton.1 ha
  subst this; exact h.tx⟩⟩
/-- where's schema and rows -/
def whT {m : Nat} (cs : List CD) (e : TX m) : Int × List CD := nodeV [(0, cs)] ((typeX cs m e).2, cs)
def whE {m : Nat} (cs : List CD) (rows : List (List VD)) (e : TX m) : Int × List CD × List (List VD) := nodeE [(0, cs, rows)] cs (whereV cs e rows)
theorem whereV_mem {m : Nat} {e : TX m} {r : List VD} (h : r ∈ (whereV cs e rows).2) : r ∈ rows := by
 unfold whereV at h
 split at h
 ·exact (List.mem_filter.1 h).1
 ·simp at h
theorem whereV_le {m : Nat} (e : TX m) : (whereV cs e rows).2.length ≤ rows.length := by
 unfold whereV
 split
 ·exact List.length_filter_le _ _
 ·simp
theorem RuAt.whT (h : RuAt W I ic cs rows) {m : Nat} (x : PC) (hk0 : x.kind = 2) (hm : x.args.n = 1) (hX : RdK pcE W x.args.A [scanC ⟨#[120]⟩]) (e : TX m) (hc : CondAt W x.cond e) (d : Int) (hd0 : 0 ≤ d) (hd : d ≤ 15) : TypedC W I ic 1 x d (whT cs e) :=
 h.oneT x 2 hk0 (by omega) (by omega) rfl hm _ hX d hd0 (by omega) (0, cs) (h.scanT _ (by omega)) _ (fun _ => schemaC_where x hk0 cs _ W (hc.ets h.tb.cols h.tb.n))
theorem RuAt.whE (h : RuAt W I ic cs rows) {m : Nat} (x : PC) (hk0 : x.kind = 2) (hm : x.args.n = 1) (hX : RdK pcE W x.args.A [scanC ⟨#[120]⟩]) (e : TX m) (hc : CondAt W x.cond e) : EvalC W I ic 1 x (whE cs rows e) := by
 refine evalC_node x 2 1 hk0 (by omega) hm (by omega) I ic 1 W [scanC ⟨#[120]⟩] [(0, cs, rows)] rfl rfl hX (fun i a b => ?_) _ cs (fun _ => schemaC_where x hk0 cs _ W (hc.ets h.tb.cols h.tb.n)) _ (fun _ => ?_) h.tb.cols (by have := h.tb.n; omega) (fun r hr => h.tb.rok r (whereV_mem hr)) (fun r hr => h.tb.rle r (whereV_mem hr)) (by have := whereV_le (cs := cs) (rows := rows) e; have := h.tb.m; omega)
 ·obtain rfl : i = 0 := by simp at a; omega
  exact h.scanE
 ·exact rowsC_where x hk0 e cs rows W hc.at_ h.tb.cols (by have := h.tb.n; omega) (by have := h.tb.m; omega) h.tb.rok hc.sz hc.tx
theorem whE_len {m : Nat} (e : TX m) : (_root_.Go.Proofs.YtafoklilkdnepaaGreatDoor.whE cs rows e).2.2.length ≤ rows.length := by
 unfold _root_.Go.Proofs.YtafoklilkdnepaaGreatDoor.whE nodeE
 have h0 := whereV_le (cs := cs) (rows := rows) e
 have h1 : (sortR (whereV cs e rows).2).length = (whereV cs e rows).2.length := (sortR_is _).1.length_eq
 split
 ·split
  ·split
   ·dsimp only; omega
   ·simp
  ·simp
 ·simp
theorem whE_mem {m : Nat} {e : TX m} {r : List VD} (h : r ∈ (_root_.Go.Proofs.YtafoklilkdnepaaGreatDoor.whE cs rows e).2.2) : r ∈ rows := by
 unfold _root_.Go.Proofs.YtafoklilkdnepaaGreatDoor.whE nodeE at h
 split at h
 ·split at h
  ·split at h
   ·exact whereV_mem ((sortR_is _).1.mem_iff.1 h)
   ·simp at h
  ·simp at h
 ·simp at h
/-- the union of where and where not -/
def boT {m : Nat} (cs : List CD) (e : TX m) : Int × List CD := nodeV [whT cs e, whT cs (notX m e)] (0, cs)
def boE {m : Nat} (cs : List CD) (rows : List (List VD)) (e : TX m) : Int × List CD × List (List VD) := nodeE [whE cs rows e, whE cs rows (notX m e)] cs (0, (whE cs rows e).2.2 ++ (whE cs rows (notX m e)).2.2)
theorem RuAt.both (h : RuAt W I ic cs rows) {m : Nat} (x y z : PC) (hk0 : x.kind = 7) (hm : x.args.n = 2) (hX : RdK pcE W x.args.A [y, z]) (e : TX m)
  (hky : y.kind = 2) (hmy : y.args.n = 1) (hXy : RdK pcE W y.args.A [scanC ⟨#[120]⟩]) (hcy : CondAt W y.cond e)
  (hkz : z.kind = 2) (hmz : z.args.n = 1) (hXz : RdK pcE W z.args.A [scanC ⟨#[120]⟩]) (hcz : CondAt W z.cond (notX m e)) :
  Calls Tryz.prog 12 #[x.val, .slice I 1 ic] W (EvPost (topV (boT cs e) (boE cs rows e)) W) := by
 have hcl := h.tb.n
 have heq : eqCs cs cs = true := (eqCs_iff _ _).2 rfl
 have hsch : SchemaC W x [cs, cs] (0, cs) := by
  have := schemaC_union x hk0 cs cs (by omega) (by omega) W
  rw [if_pos heq] at this
  exact this
 refine evalTop x 5 (by omega) I ic 1 _ _ W ?_ ?_ (fun _ => ?_)
 ·have := sizeC_node x [y, z] [2, 2] W (by rw [hm]; rfl) (by rw [hm]; rfl) hX (fun i a b => by
   have : i = 0 ∨ i = 1 := by simp at a; omega
   rcases this with rfl | rfl
   ·exact one_size y hmy _ hXy 1 (by omega) (scanSz _ W)
   ·exact one_size z hmz _ hXz 1 (by omega) (scanSz _ W)) (by simp) (by omega)
  exact this
 ·refine typedC_node x 7 2 hk0 (by omega) (by omega) hm rfl 1 (by omega) (by omega) I ic 1 W h.nd [y, z] [_, _] rfl rfl hX (fun i a b => ?_) (0, cs) (fun h0 => ?_) h.tb.cols (by show cs.length ≤ _; omega)
  ·have : i = 0 ∨ i = 1 := by simp at a; omega
   rcases this with rfl | rfl
   ·exact h.whT y hky hmy hXy e hcy _ (by omega) (by omega)
   ·exact h.whT z hkz hmz hXz _ hcz _ (by omega) (by omega)
  ·obtain ⟨h1, h2⟩ := errL2 h0
   have e1 := (nodeV_zero h1).2.2
   have e2 := (nodeV_zero h2).2.2
   show SchemaC W x [(_root_.Go.Proofs.YtafoklilkdnepaaGreatDoor.whT cs e).2, (_root_.Go.Proofs.YtafoklilkdnepaaGreatDoor.whT cs (notX m e)).2] (0, cs)
   unfold _root_.Go.Proofs.YtafoklilkdnepaaGreatDoor.whT
   rw [e1, e2]
   exact hsch
 ·refine evalC_node x 7 2 hk0 (by omega) hm (by omega) I ic 1 W [y, z] [_, _] rfl rfl hX (fun i a b => ?_) 0 cs (fun h0 => ?_) (0, _) (fun _ => ?_) h.tb.cols (by omega) ?_ ?_ ?_
  ·have : i = 0 ∨ i = 1 := by simp at a; omega
   rcases this with rfl | rfl
   ·exact h.whE y hky hmy hXy e hcy
   ·exact h.whE z hkz hmz hXz _ hcz
  ·obtain ⟨h1, h2⟩ := errL2 h0
   have e1 := (nodeE_zero h1).2.2.2
   have e2 := (nodeE_zero h2).2.2.2
   show SchemaC W x [(_root_.Go.Proofs.YtafoklilkdnepaaGreatDoor.whE cs rows e).2.1, (_root_.Go.Proofs.YtafoklilkdnepaaGreatDoor.whE cs rows (notX m e)).2.1] (0, cs)
   unfold _root_.Go.Proofs.YtafoklilkdnepaaGreatDoor.whE
   rw [e1, e2]
   exact hsch
  ·have l1 := whE_len (cs := cs) (rows := rows) e
   have l2 := whE_len (cs := cs) (rows := rows) (notX m e)
   have := h.tb.m
   exact rowsC_union x hk0 _ _ (_root_.Go.Proofs.YtafoklilkdnepaaGreatDoor.whE cs rows e).2.2 (_root_.Go.Proofs.YtafoklilkdnepaaGreatDoor.whE cs rows (notX m e)).2.2 W (by omega) (by omega)
  ·intro r hr
   rcases List.mem_append.1 hr with hr | hr
   ·exact h.tb.rok r (whE_mem hr)
   ·exact h.tb.rok r (whE_mem hr)
  ·intro r hr
   rcases List.mem_append.1 hr with hr | hr
   ·exact h.tb.rle r (whE_mem hr)
   ·exact h.tb.rle r (whE_mem hr)
  ·have l1 := whE_len (cs := cs) (rows := rows) e
   have l2 := whE_len (cs := cs) (rows := rows) (notX m e)
   have := h.tb.m
   rw [List.length_append]; omega
theorem topV_zero {v : Int × List CD} {ev : Int × List CD × List (List VD)} (h : (topV v ev).1 = 0) : v.1 = 0 ∧ ev.1 = 0 ∧ topV v ev = ev := by
 unfold topV at h ⊢
 by_cases h1 : v.1 = 0
 ·rw [if_pos h1] at h ⊢; exact ⟨h1, h, rfl⟩
 ·rw [if_neg h1] at h; exact absurd h h1
/-- .. is the table -/
theorem RuAt.bothV (h : RuAt W I ic cs rows) {m : Nat} (e : TX m) (h0 : (topV (boT cs e) (boE cs rows e)).1 = 0) : topV (boT cs e) (boE cs rows e) = (0, cs, rows) := by
 obtain ⟨-, h1, h2⟩ := topV_zero h0
 rw [h2]
 obtain ⟨g1, -, -, g4⟩ := nodeE_zero h1
 unfold boE
 rw [g4]
 obtain ⟨p1, p2⟩ := errL2 g1
 obtain ⟨-, q1, -, q2⟩ := nodeE_zero p1
 obtain ⟨-, r1, -, r2⟩ := nodeE_zero p2
 unfold _root_.Go.Proofs.YtafoklilkdnepaaGreatDoor.whE at *
 rw [q2, r2]
 unfold whereV at q1 r1 ⊢
 have z1 : errF (fun r => (topX cs r m e).2) rows = 0 := by
  by_cases hz : errF (fun r => (topX cs r m e).2) rows = 0
  ·exact hz
  ·rw [if_neg hz] at q1; exact q1
 have z2 : errF (fun r => (topX cs r (m + 1) (notX m e)).2) rows = 0 := by
  by_cases hz : errF (fun r => (topX cs r (m + 1) (notX m e)).2) rows = 0
  ·exact hz
  ·rw [if_neg hz] at r1; exact r1
 rw [if_pos z1, if_pos z2]
 have := parts_sorted (fun r => (topX cs r m e).1.tru) (fun r => (topX cs r (m + 1) (notX m e)).1.tru) (rows := rows) h.pair (fun r hr => topX_not (errF_all z1 r hr) (errF_all z2 r hr)) (sortR_is _) (sortR_is _) (sortR_is _)
 rw [this]
/-- distinct -/
theorem RuAt.dsT (h : RuAt W I ic cs rows) (x : PC) (hk0 : x.kind = 8) (hm : x.args.n = 1) (y : PC) (hX : RdK pcE W x.args.A [y]) (d : Int) (hd0 : 0 ≤ d) (hd : d ≤ 15) (hy : TypedC W I ic 1 y (d + 1) (0, cs)) : TypedC W I ic 1 x d (0, cs) := by
 have := h.oneT x 8 hk0 (by omega) (by omega) rfl hm y hX d hd0 (by omega) (0, cs) hy 0 (fun _ => schemaC_distinct x hk0 cs W)
 rw [nodeV_ok rfl rfl h.check] at this
 exact this
theorem RuAt.dsE (h : RuAt W I ic cs rows) (x : PC) (hk0 : x.kind = 8) (hm : x.args.n = 1) (y : PC) (hX : RdK pcE W x.args.A [y]) (out : List (List VD)) (hmem : ∀ r ∈ out, r ∈ rows) (hle : out.length ≤ rows.length) (hp : out.Pairwise fun a b => cmpRV a b ≤ 0) (hy : EvalC W I ic 1 y (0, cs, out)) : EvalC W I ic 1 x (0, cs, cptR out) := by
 intro w' t
 have hl := cptR_le out
 have := eval_distinct x hk0 hm I ic 1 w' y (RdK.touch0 hX t) (0, cs, out) (fun w'' t2 => hy w'' (t.trans0 t2)) h.tb.cols (by have := h.tb.n; show cs.length ≤ _; omega) (fun r hr => h.tb.rok r (hmem r hr)) (fun r hr => h.tb.rle r (hmem r hr)) (by have := h.tb.m; show out.length ≤ _; omega)
 rw [nodeE_ok rfl rfl (fitV_sub h.fit (fun r hr => hmem r (cptR_mem hr)) (by show (cptR out).length ≤ _; omega))] at this
 have hs : sortR (cptR out) = cptR out := sortR_same ((cptR_strict out hp).imp fun h => by omega)
 rw [show ((0 : Int), cptR out).2 = cptR out from rfl, hs] at this
 exact this
theorem RuAt.once (h : RuAt W I ic cs rows) (x : PC) (hk0 : x.kind = 8) (hm : x.args.n = 1) (hX : RdK pcE W x.args.A [scanC ⟨#[120]⟩]) :
  Calls Tryz.prog 12 #[x.val, .slice I 1 ic] W (EvPost (0, cs, cptR rows) W) := by
 have := evalTop x 2 (by omega) I ic 1 (0, cs) (0, cs, cptR rows) W (one_size x hm _ hX 1 (by omega) (scanSz _ W)) (h.dsT x hk0 hm _ hX 1 (by omega) (by omega) (h.scanT _ (by omega))) (fun _ => h.dsE x hk0 hm _ hX rows (fun _ hr => hr) (Nat.le_refl _) h.pair h.scanE)
 rw [show topV (0, cs) (0, cs, cptR rows) = (0, cs, cptR rows) from if_pos rfl] at this
 exact this
theorem RuAt.twice (h : RuAt W I ic cs rows) (x y : PC) (hk0 : x.kind = 8) (hm : x.args.n = 1) (hX : RdK pcE W x.args.A [y]) (hky : y.kind = 8) (hmy : y.args.n = 1) (hXy : RdK pcE W y.args.A [scanC ⟨#[120]⟩]) :
  Calls Tryz.prog 12 #[x.val, .slice I 1 ic] W (EvPost (0, cs, cptR rows) W) := by
 have hs := one_size x hm y hX 2 (by omega) (one_size y hmy _ hXy 1 (by omega) (scanSz _ W))
 have hE := h.dsE x hk0 hm y hX (cptR rows) (fun _ hr => cptR_mem hr) (cptR_le rows) ((cptR_strict rows h.pair).imp fun h => by omega) (h.dsE y hky hmy _ hXy rows (fun _ hr => hr) (Nat.le_refl _) h.pair h.scanE)
 rw [cptR_twice rows h.pair] at hE
 have := evalTop x 3 (by omega) I ic 1 (0, cs) (0, cs, cptR rows) W hs (h.dsT x hk0 hm y hX 1 (by omega) (by omega) (h.dsT y hky hmy _ hXy 2 (by omega) (by omega) (h.scanT _ (by omega)))) (fun _ => hE)
 rw [show topV (0, cs) (0, cs, cptR rows) = (0, cs, cptR rows) from if_pos rfl] at this
 exact this
/-- first: all, or as many as it may -/
def soV (cs : List CD) (rows : List (List VD)) (count : Int) : Int × List CD × List (List VD) := if count < 0 then (20, [], []) else (0, cs, rows.take count.toNat)
theorem RuAt.some (h : RuAt W I ic cs rows) (x : PC) (hk0 : x.kind = 9) (hm : x.args.n = 1) (hX : RdK pcE W x.args.A [scanC ⟨#[120]⟩]) (hb : x.by_.n = 0) :
  Calls Tryz.prog 12 #[x.val, .slice I 1 ic] W (EvPost (soV cs rows x.count) W) := by
 have hcl := h.tb.n
 have hrl := h.tb.m
 have hsz := one_size x hm _ hX 1 (by omega) (scanSz _ W)
 have hsch := schemaC_first x hk0 [] (by rw [hb]; rfl) (by simp) cs (by omega) W (RdK.nil _ _ _)
 have hty := h.oneT x 9 hk0 (by omega) (by omega) rfl hm _ hX 1 (by omega) (by omega) (0, cs) (h.scanT _ (by omega)) _ (fun _ => hsch)
 by_cases hc : x.count < 0
 ·have hv : byV cs [] x.count = 20 := by unfold byV; rw [if_pos hc]
  have hn : nodeV [(0, cs)] (byV cs [] x.count, cs) = (20, []) := by rw [hv]; rfl
  rw [hn] at hty
  have := evalTop x 2 (by omega) I ic 1 (20, []) (20, [], []) W hsz hty (fun q => absurd q (by decide))
  rw [show topV (20, []) (20, [], []) = (20, [], []) from rfl] at this
  unfold soV
  rw [if_pos hc]
  exact this
 ·have hv : byV cs [] x.count = 0 := by unfold byV; rw [if_neg hc]; rfl
  rw [hv, nodeV_ok rfl rfl h.check] at hty
  rw [hv] at hsch
  have hmem : ∀ r ∈ rows.take x.count.toNat, r ∈ rows := fun r hr => List.mem_of_mem_take hr
  have htl : (rows.take x.count.toNat).length ≤ rows.length := by rw [List.length_take]; omega
  have hE := evalC_node x 9 1 hk0 (by omega) hm (by omega) I ic 1 W [scanC ⟨#[120]⟩] [(0, cs, rows)] rfl rfl hX (fun i a b => by
   obtain rfl : i = 0 := by simp at a; omega
   exact h.scanE) 0 cs (fun _ => hsch) (0, rows.take x.count.toNat) (fun _ => by
    have := rowsC_first x hk0 cs [] rows W (by rw [hb]; rfl) (RdK.nil _ _ _) (by omega) (by omega) (by omega) (by simp) (fun r hr => ⟨by have := (h.tb.r r hr).1; omega, by simp⟩)
    rw [firstL_none] at this
    exact this) h.tb.cols (by omega) (fun r hr => h.tb.rok r (hmem r hr)) (fun r hr => h.tb.rle r (hmem r hr)) (by show (rows.take x.count.toNat).length ≤ _; omega)
  rw [nodeE_ok rfl rfl (fitV_sub h.fit hmem htl)] at hE
  have hs : sortR (rows.take x.count.toNat) = rows.take x.count.toNat := sortR_same (h.pair.sublist (List.take_sublist _ _))
  rw [show ((0 : Int), rows.take x.count.toNat).2 = rows.take x.count.toNat from rfl, hs] at hE
  have := evalTop x 2 (by omega) I ic 1 (0, cs) _ W hsz hty (fun _ => hE)
  rw [show topV (0, cs) (0, cs, rows.take x.count.toNat) = (0, cs, rows.take x.count.toNat) from if_pos rfl] at this
  unfold soV
  rw [if_neg hc]
  exact this
end
end Go.Proofs.YtafoklilkdnepaaGreatDoor
