/- Part 35 of the texts of this proof, one behind the other. No condition beyond those that its theorems state. -/
import Derived.Test.YtafoklilkdnepaaGreatDoorRn34
import Derived.Deep.DeepCutAuto
import Derived.Deep.MidRow
set_option maxRecDepth 40000
set_option maxHeartbeats 25600000
namespace Go.Proofs.YtafoklilkdnepaaGreatDoor
section
open Go.RowKit
theorem small_at {w : World} {s r : SL} {cs : List CD} {rows : List (List VD)} (hX : TabAt w s r cs rows) (ht : TbIn cs rows) : Calls Tryz.prog 13 #[.agg #[.slice s.A s.n s.c, .slice r.A r.n r.c]] w fun e w' => e = .returned (.bool (smallT cs rows)) /\ Touch [] w w' :=
 smallTable_any s.A r.A s.c r.c s.n r.n cs rows hX.n.symm hX.m.symm ⟨by have := ht.n; have := hX.n; omega, fun c hc => ⟨by have := (ht.c c hc).1; omega, (ht.c c hc).2⟩⟩ ⟨by have := ht.m; have := hX.m; omega, fun r hr => ⟨by have := (ht.r r hr).1; omega, fun v hv => ((ht.r r hr).2 v hv).le' (by omega)⟩⟩ w hX.cols hX.rws
theorem two_boxes {w W : World} {c1 c2 : Array Value} {t1 t2 : TypeId} (hW : W = (w.alloc (.cells c1 t1)).alloc (.cells c2 t2)) : Touch [] w W /\ W.heap[w.heap.size]? = some (.cells c1 t1 (0, 0)) /\ W.heap[w.heap.size + 1]? = some (.cells c2 t2 (0, 0)) /\ W.heap.size = w.heap.size + 2 := by
 subst hW
 have h1 := heap_alloc_new (w.alloc (.cells c1 t1)) (.cells c2 t2)
 rw [World.size_alloc] at h1
 exact ⟨((Touch.refl [] w).alloc _).alloc _, ((Touch.refl [] (w.alloc (.cells c1 t1))).alloc (.cells c2 t2)).blk (heap_alloc_new w _) (by simp), h1, by simp⟩
theorem blkz20 {w : World} {g : Nat} {a0 a1 a2 a3 a4 a5 a6 a7 a8 a9 a10 a11 a12 a13 a14 a15 a16 a17 a18 a19 : Value} {t : TypeId} (h : w.heap[g]? = some (.cells #[a0, a1, a2, a3, a4, a5, a6, a7, a8, a9, a10, a11, a12, a13, a14, a15, a16, a17, a18, a19] t (0, 0))) : w.cell? ⟨g, 0, none⟩ = some a0 /\ w.cell? ⟨g, 1, none⟩ = some a1 /\ w.cell? ⟨g, 2, none⟩ = some a2 /\ w.cell? ⟨g, 3, none⟩ = some a3 /\ w.cell? ⟨g, 4, none⟩ = some a4 /\ w.cell? ⟨g, 5, none⟩ = some a5 /\ w.cell? ⟨g, 6, none⟩ = some a6 /\ w.cell? ⟨g, 7, none⟩ = some a7 /\ w.cell? ⟨g, 8, none⟩ = some a8 /\ w.cell? ⟨g, 9, none⟩ = some a9 /\ w.cell? ⟨g, 10, none⟩ = some a10 /\ w.cell? ⟨g, 11, none⟩ = some a11 /\ w.cell? ⟨g, 12, none⟩ = some a12 /\ w.cell? ⟨g, 13, none⟩ = some a13 /\ w.cell? ⟨g, 14, none⟩ = some a14 /\ w.cell? ⟨g, 15, none⟩ = some a15 /\ w.cell? ⟨g, 16, none⟩ = some a16 /\ w.cell? ⟨g, 17, none⟩ = some a17 /\ w.cell? ⟨g, 18, none⟩ = some a18 /\ w.cell? ⟨g, 19, none⟩ = some a19 :=
 ⟨cell_blk h rfl, cell_blk h rfl, cell_blk h rfl, cell_blk h rfl, cell_blk h rfl, cell_blk h rfl, cell_blk h rfl, cell_blk h rfl, cell_blk h rfl, cell_blk h rfl, cell_blk h rfl, cell_blk h rfl, cell_blk h rfl, cell_blk h rfl, cell_blk h rfl, cell_blk h rfl, cell_blk h rfl, cell_blk h rfl, cell_blk h rfl, cell_blk h rfl⟩
theorem PD.In.fine5 {m : Nat} {d : PD m} (h : d.In) (hs : d.Small) : d.Fine := ⟨hs, h.k, h.q, h.c, h.x, h.n, h.a⟩
theorem nest_a1 {m m' : Nat} (x : PC) (d : PD m) (sx rx sy ry : SL) (a b : List CD) (ra rb : List (List VD)) (z : PC) (o : PD m') (w : World) (hP : PlanAt w x d) (hX : TabAt w sx rx a ra) (hY : TabAt w sy ry b rb) (hZ : PlanAt w z o) (hd : d.In) (ho : o.In) (hta : TbIn a ra) (htb : TbIn b rb) (hG : NeedsAt w) (hPw : PowAt w) (h1 : smallT a ra = false) :
  Calls Tryz.prog 6 #[stVal x sx rx sy ry, z.val] w fun e w' => e = .returned (.bool true) /\ Touch [] w w' := by
 have Hst := lh fun w' (t : Touch [] w w') => small_at (hX.touch0 t) hta
 have Hsu := lh fun w' (t : Touch [] w w') => small_at (hY.touch0 t) htb
 have Hsp := lh fun w' (t : Touch [] w w') => smallPlan_any m x d hd.ok w' (hP.touch0 t)
 have Hsq := lh fun w' (t : Touch [] w w') => smallPlan_any m' z o ho.ok w' (hZ.touch0 t)
 have Hne := lh fun w' => need5_any z.kind w'
 have Haw := lh fun w' (t : Touch [] w w') => awake5_any w' (hG.touch0 t)
 have Hsc := lh fun w' => scansB_any x sx rx sy ry w'
 have HP := lh hP
 have HX := lh hX
 have HY := lh hY
 have HZ := lh hZ
 have HD := lh hd
 have HO := lh ho
 have HTA := lh hta
 have HTB := lh htb
 have HG := lh hG
 have HPW := lh hPw
 have Hkd := lh hP.kind
 have Hkz := lh hZ.kind
 clear hP hX hY hZ hd ho hta htb hG hPw
 obtain ⟨k0, k1, ⟨A2, n2, c2'⟩, ⟨⟨ck, cn, ⟨cvk, cvn, cvt⟩, cop⟩, CA, cnn, cc⟩, ⟨NA, nn, nc⟩, ⟨EA, en, ec⟩, ⟨OA, ol, oc⟩, ⟨GA, gn, gc⟩, ⟨BA, bn, bc⟩, count⟩ := x
 obtain ⟨sxA, sxn, sxc⟩ := sx
 obtain ⟨rxA, rxn, rxc⟩ := rx
 obtain ⟨syA, syn, syc⟩ := sy
 obtain ⟨ryA, ryn, ryc⟩ := ry
 obtain ⟨j0, j1, ⟨JA, jan, jac⟩, ⟨⟨jck, jcn, ⟨jvk, jvn, jvt⟩, jop⟩, DA, dn, dc⟩, ⟨NB, nbn, nbc⟩, ⟨EB, ebn, ebc⟩, ⟨OB, obn, obc⟩, ⟨GB, gbn, gbc⟩, ⟨BB, bbn, bbc⟩, jcount⟩ := z
 simp only [stVal, PC.val] at *
 rw [h1] at Hst
 clear h1
 obtain ⟨W, hW⟩ : ∃ W, W = (w.alloc (.cells #[.int .i64 k0, .string k1, .slice A2 n2 c2', .int .i64 ck, .string cn, .int .i64 cvk, .int .i64 cvn, .string cvt, .string cop, .slice CA cnn cc, .slice NA nn nc, .slice EA en ec, .slice OA ol oc, .slice GA gn gc, .slice BA bn bc, .int .i64 count, .slice sxA sxn sxc, .slice rxA rxn rxc, .slice syA syn syc, .slice ryA ryn ryc] 55)).alloc (.cells #[.int .i64 j0, .string j1, .slice JA jan jac, .int .i64 jck, .string jcn, .int .i64 jvk, .int .i64 jvn, .string jvt, .string jop, .slice DA dn dc, .slice NB nbn nbc, .slice EB ebn ebc, .slice OB obn obc, .slice GB gbn gbc, .slice BB bbn bbc, .int .i64 jcount] 49) := ⟨_, rfl⟩
 obtain ⟨t0, hbs, hbz, hWs⟩ := two_boxes hW
 have HW := lh hW
 have HT := lh t0
 have HB := lh hbs
 have HBZ := lh hbz
 have HWS := lh hWs
 clear hW t0 hbs hbz hWs
 go_enter Tryz.func6, Tryz.ntmps6
 go_wp2_with fail
 rw [<- HW.out]
 refine (Hst.out _ HT.out).mono ?_
 rintro e w1 ⟨rfl, t1⟩
 have T1 := lh ((Touch.refl [] W).trans0 t1)
 have B1 := lh (T1.out.blk HB.out (by simp))
 have Z1 := lh (T1.out.blk HBZ.out (by simp))
 clear t1
 go_wp2_with fail
 refine (Haw.out _ (HT.out.trans0 T1.out)).mono ?_
 rintro e w9 ⟨rfl, t9⟩
 have HT9 := lh ((HT.out.trans0 T1.out).trans0 t9)
 clear t9
 go_wp2_with fail
 go_ret
 exact ⟨rfl, HT9.out⟩
theorem nest_a2 {m m' : Nat} (x : PC) (d : PD m) (sx rx sy ry : SL) (a b : List CD) (ra rb : List (List VD)) (z : PC) (o : PD m') (w : World) (hP : PlanAt w x d) (hX : TabAt w sx rx a ra) (hY : TabAt w sy ry b rb) (hZ : PlanAt w z o) (hd : d.In) (ho : o.In) (hta : TbIn a ra) (htb : TbIn b rb) (hG : NeedsAt w) (hPw : PowAt w) (h1 : smallT a ra = true) (h2 : smallT b rb = false) :
  Calls Tryz.prog 6 #[stVal x sx rx sy ry, z.val] w fun e w' => e = .returned (.bool true) /\ Touch [] w w' := by
 have Hst := lh fun w' (t : Touch [] w w') => small_at (hX.touch0 t) hta
 have Hsu := lh fun w' (t : Touch [] w w') => small_at (hY.touch0 t) htb
 have Hsp := lh fun w' (t : Touch [] w w') => smallPlan_any m x d hd.ok w' (hP.touch0 t)
 have Hsq := lh fun w' (t : Touch [] w w') => smallPlan_any m' z o ho.ok w' (hZ.touch0 t)
 have Hne := lh fun w' => need5_any z.kind w'
 have Haw := lh fun w' (t : Touch [] w w') => awake5_any w' (hG.touch0 t)
 have Hsc := lh fun w' => scansB_any x sx rx sy ry w'
 have HP := lh hP
 have HX := lh hX
 have HY := lh hY
 have HZ := lh hZ
 have HD := lh hd
 have HO := lh ho
 have HTA := lh hta
 have HTB := lh htb
 have HG := lh hG
 have HPW := lh hPw
 have Hkd := lh hP.kind
 have Hkz := lh hZ.kind
 clear hP hX hY hZ hd ho hta htb hG hPw
 obtain ⟨k0, k1, ⟨A2, n2, c2'⟩, ⟨⟨ck, cn, ⟨cvk, cvn, cvt⟩, cop⟩, CA, cnn, cc⟩, ⟨NA, nn, nc⟩, ⟨EA, en, ec⟩, ⟨OA, ol, oc⟩, ⟨GA, gn, gc⟩, ⟨BA, bn, bc⟩, count⟩ := x
 obtain ⟨sxA, sxn, sxc⟩ := sx
 obtain ⟨rxA, rxn, rxc⟩ := rx
 obtain ⟨syA, syn, syc⟩ := sy
 obtain ⟨ryA, ryn, ryc⟩ := ry
 obtain ⟨j0, j1, ⟨JA, jan, jac⟩, ⟨⟨jck, jcn, ⟨jvk, jvn, jvt⟩, jop⟩, DA, dn, dc⟩, ⟨NB, nbn, nbc⟩, ⟨EB, ebn, ebc⟩, ⟨OB, obn, obc⟩, ⟨GB, gbn, gbc⟩, ⟨BB, bbn, bbc⟩, jcount⟩ := z
 simp only [stVal, PC.val] at *
 rw [h1] at Hst
 rw [h2] at Hsu
 clear h1 h2
 obtain ⟨W, hW⟩ : ∃ W, W = (w.alloc (.cells #[.int .i64 k0, .string k1, .slice A2 n2 c2', .int .i64 ck, .string cn, .int .i64 cvk, .int .i64 cvn, .string cvt, .string cop, .slice CA cnn cc, .slice NA nn nc, .slice EA en ec, .slice OA ol oc, .slice GA gn gc, .slice BA bn bc, .int .i64 count, .slice sxA sxn sxc, .slice rxA rxn rxc, .slice syA syn syc, .slice ryA ryn ryc] 55)).alloc (.cells #[.int .i64 j0, .string j1, .slice JA jan jac, .int .i64 jck, .string jcn, .int .i64 jvk, .int .i64 jvn, .string jvt, .string jop, .slice DA dn dc, .slice NB nbn nbc, .slice EB ebn ebc, .slice OB obn obc, .slice GB gbn gbc, .slice BB bbn bbc, .int .i64 jcount] 49) := ⟨_, rfl⟩
 obtain ⟨t0, hbs, hbz, hWs⟩ := two_boxes hW
 have HW := lh hW
 have HT := lh t0
 have HB := lh hbs
 have HBZ := lh hbz
 have HWS := lh hWs
 clear hW t0 hbs hbz hWs
 go_enter Tryz.func6, Tryz.ntmps6
 go_wp2_with fail
 rw [<- HW.out]
 refine (Hst.out _ HT.out).mono ?_
 rintro e w1 ⟨rfl, t1⟩
 have T1 := lh ((Touch.refl [] W).trans0 t1)
 have B1 := lh (T1.out.blk HB.out (by simp))
 have Z1 := lh (T1.out.blk HBZ.out (by simp))
 clear t1
 have c1_18 : w1.cell? ⟨w.heap.size, 18, none⟩ = some (.slice syA syn syc) := cell_blk B1.out rfl
 have c1_19 : w1.cell? ⟨w.heap.size, 19, none⟩ = some (.slice ryA ryn ryc) := cell_blk B1.out rfl
 go_wp2_with fail
 refine (Hsu.out _ (HT.out.trans0 T1.out)).mono ?_
 rintro e w2 ⟨rfl, t2⟩
 have T2 := lh (T1.out.trans0 t2)
 have B2 := lh (T2.out.blk HB.out (by simp))
 have Z2 := lh (T2.out.blk HBZ.out (by simp))
 clear t2
 go_wp2_with fail
 refine (Haw.out _ (HT.out.trans0 T2.out)).mono ?_
 rintro e w9 ⟨rfl, t9⟩
 have HT9 := lh ((HT.out.trans0 T2.out).trans0 t9)
 clear t9
 go_wp2_with fail
 go_ret
 exact ⟨rfl, HT9.out⟩
theorem nest_a3 {m m' : Nat} (x : PC) (d : PD m) (sx rx sy ry : SL) (a b : List CD) (ra rb : List (List VD)) (z : PC) (o : PD m') (w : World) (hP : PlanAt w x d) (hX : TabAt w sx rx a ra) (hY : TabAt w sy ry b rb) (hZ : PlanAt w z o) (hd : d.In) (ho : o.In) (hta : TbIn a ra) (htb : TbIn b rb) (hG : NeedsAt w) (hPw : PowAt w) (h1 : smallT a ra = true) (h2 : smallT b rb = true) (h3 : smallPl d = false) :
  Calls Tryz.prog 6 #[stVal x sx rx sy ry, z.val] w fun e w' => e = .returned (.bool true) /\ Touch [] w w' := by
 have Hst := lh fun w' (t : Touch [] w w') => small_at (hX.touch0 t) hta
 have Hsu := lh fun w' (t : Touch [] w w') => small_at (hY.touch0 t) htb
 have Hsp := lh fun w' (t : Touch [] w w') => smallPlan_any m x d hd.ok w' (hP.touch0 t)
 have Hsq := lh fun w' (t : Touch [] w w') => smallPlan_any m' z o ho.ok w' (hZ.touch0 t)
 have Hne := lh fun w' => need5_any z.kind w'
 have Haw := lh fun w' (t : Touch [] w w') => awake5_any w' (hG.touch0 t)
 have Hsc := lh fun w' => scansB_any x sx rx sy ry w'
 have HP := lh hP
 have HX := lh hX
 have HY := lh hY
 have HZ := lh hZ
 have HD := lh hd
 have HO := lh ho
 have HTA := lh hta
 have HTB := lh htb
 have HG := lh hG
 have HPW := lh hPw
 have Hkd := lh hP.kind
 have Hkz := lh hZ.kind
 clear hP hX hY hZ hd ho hta htb hG hPw
 obtain ⟨k0, k1, ⟨A2, n2, c2'⟩, ⟨⟨ck, cn, ⟨cvk, cvn, cvt⟩, cop⟩, CA, cnn, cc⟩, ⟨NA, nn, nc⟩, ⟨EA, en, ec⟩, ⟨OA, ol, oc⟩, ⟨GA, gn, gc⟩, ⟨BA, bn, bc⟩, count⟩ := x
 obtain ⟨sxA, sxn, sxc⟩ := sx
 obtain ⟨rxA, rxn, rxc⟩ := rx
 obtain ⟨syA, syn, syc⟩ := sy
 obtain ⟨ryA, ryn, ryc⟩ := ry
 obtain ⟨j0, j1, ⟨JA, jan, jac⟩, ⟨⟨jck, jcn, ⟨jvk, jvn, jvt⟩, jop⟩, DA, dn, dc⟩, ⟨NB, nbn, nbc⟩, ⟨EB, ebn, ebc⟩, ⟨OB, obn, obc⟩, ⟨GB, gbn, gbc⟩, ⟨BB, bbn, bbc⟩, jcount⟩ := z
 simp only [stVal, PC.val] at *
 rw [h1] at Hst
 rw [h2] at Hsu
 rw [h3] at Hsp
 clear h1 h2 h3
 obtain ⟨W, hW⟩ : ∃ W, W = (w.alloc (.cells #[.int .i64 k0, .string k1, .slice A2 n2 c2', .int .i64 ck, .string cn, .int .i64 cvk, .int .i64 cvn, .string cvt, .string cop, .slice CA cnn cc, .slice NA nn nc, .slice EA en ec, .slice OA ol oc, .slice GA gn gc, .slice BA bn bc, .int .i64 count, .slice sxA sxn sxc, .slice rxA rxn rxc, .slice syA syn syc, .slice ryA ryn ryc] 55)).alloc (.cells #[.int .i64 j0, .string j1, .slice JA jan jac, .int .i64 jck, .string jcn, .int .i64 jvk, .int .i64 jvn, .string jvt, .string jop, .slice DA dn dc, .slice NB nbn nbc, .slice EB ebn ebc, .slice OB obn obc, .slice GB gbn gbc, .slice BB bbn bbc, .int .i64 jcount] 49) := ⟨_, rfl⟩
 obtain ⟨t0, hbs, hbz, hWs⟩ := two_boxes hW
 have HW := lh hW
 have HT := lh t0
 have HB := lh hbs
 have HBZ := lh hbz
 have HWS := lh hWs
 clear hW t0 hbs hbz hWs
 go_enter Tryz.func6, Tryz.ntmps6
 go_wp2_with fail
 rw [<- HW.out]
 refine (Hst.out _ HT.out).mono ?_
 rintro e w1 ⟨rfl, t1⟩
 have T1 := lh ((Touch.refl [] W).trans0 t1)
 have B1 := lh (T1.out.blk HB.out (by simp))
 have Z1 := lh (T1.out.blk HBZ.out (by simp))
 clear t1
 have c1_18 : w1.cell? ⟨w.heap.size, 18, none⟩ = some (.slice syA syn syc) := cell_blk B1.out rfl
 have c1_19 : w1.cell? ⟨w.heap.size, 19, none⟩ = some (.slice ryA ryn ryc) := cell_blk B1.out rfl
 go_wp2_with fail
 refine (Hsu.out _ (HT.out.trans0 T1.out)).mono ?_
 rintro e w2 ⟨rfl, t2⟩
 have T2 := lh (T1.out.trans0 t2)
 have B2 := lh (T2.out.blk HB.out (by simp))
 have Z2 := lh (T2.out.blk HBZ.out (by simp))
 clear t2
 clear c1_18 c1_19
 obtain ⟨c2_0, c2_1, c2_2, c2_3, c2_4, c2_5, c2_6, c2_7, c2_8, c2_9, c2_10, c2_11, c2_12, c2_13, c2_14, c2_15, -⟩ := blkz20 B2.out
 go_wp2_with fail
 refine (Hsp.out _ (HT.out.trans0 T2.out)).mono ?_
 rintro e w3 ⟨rfl, t3⟩
 have T3 := lh (T2.out.trans0 t3)
 have B3 := lh (T3.out.blk HB.out (by simp))
 have Z3 := lh (T3.out.blk HBZ.out (by simp))
 clear t3
 go_wp2_with fail
 refine (Haw.out _ (HT.out.trans0 T3.out)).mono ?_
 rintro e w9 ⟨rfl, t9⟩
 have HT9 := lh ((HT.out.trans0 T3.out).trans0 t9)
 clear t9
 go_wp2_with fail
 go_ret
 exact ⟨rfl, HT9.out⟩
theorem nest_a4 {m m' : Nat} (x : PC) (d : PD m) (sx rx sy ry : SL) (a b : List CD) (ra rb : List (List VD)) (z : PC) (o : PD m') (w : World) (hP : PlanAt w x d) (hX : TabAt w sx rx a ra) (hY : TabAt w sy ry b rb) (hZ : PlanAt w z o) (hd : d.In) (ho : o.In) (hta : TbIn a ra) (htb : TbIn b rb) (hG : NeedsAt w) (hPw : PowAt w) (h1 : smallT a ra = true) (h2 : smallT b rb = true) (h3 : smallPl d = true) (h4 : smallPl o = false) :
  Calls Tryz.prog 6 #[stVal x sx rx sy ry, z.val] w fun e w' => e = .returned (.bool true) /\ Touch [] w w' := by
 have Hst := lh fun w' (t : Touch [] w w') => small_at (hX.touch0 t) hta
 have Hsu := lh fun w' (t : Touch [] w w') => small_at (hY.touch0 t) htb
 have Hsp := lh fun w' (t : Touch [] w w') => smallPlan_any m x d hd.ok w' (hP.touch0 t)
 have Hsq := lh fun w' (t : Touch [] w w') => smallPlan_any m' z o ho.ok w' (hZ.touch0 t)
 have Hne := lh fun w' => need5_any z.kind w'
 have Haw := lh fun w' (t : Touch [] w w') => awake5_any w' (hG.touch0 t)
 have Hsc := lh fun w' => scansB_any x sx rx sy ry w'
 have HP := lh hP
 have HX := lh hX
 have HY := lh hY
 have HZ := lh hZ
 have HD := lh hd
 have HO := lh ho
 have HTA := lh hta
 have HTB := lh htb
 have HG := lh hG
 have HPW := lh hPw
 have Hkd := lh hP.kind
 have Hkz := lh hZ.kind
 clear hP hX hY hZ hd ho hta htb hG hPw
 obtain ⟨k0, k1, ⟨A2, n2, c2'⟩, ⟨⟨ck, cn, ⟨cvk, cvn, cvt⟩, cop⟩, CA, cnn, cc⟩, ⟨NA, nn, nc⟩, ⟨EA, en, ec⟩, ⟨OA, ol, oc⟩, ⟨GA, gn, gc⟩, ⟨BA, bn, bc⟩, count⟩ := x
 obtain ⟨sxA, sxn, sxc⟩ := sx
 obtain ⟨rxA, rxn, rxc⟩ := rx
 obtain ⟨syA, syn, syc⟩ := sy
 obtain ⟨ryA, ryn, ryc⟩ := ry
 obtain ⟨j0, j1, ⟨JA, jan, jac⟩, ⟨⟨jck, jcn, ⟨jvk, jvn, jvt⟩, jop⟩, DA, dn, dc⟩, ⟨NB, nbn, nbc⟩, ⟨EB, ebn, ebc⟩, ⟨OB, obn, obc⟩, ⟨GB, gbn, gbc⟩, ⟨BB, bbn, bbc⟩, jcount⟩ := z
 simp only [stVal, PC.val] at *
 rw [h1] at Hst
 rw [h2] at Hsu
 rw [h3] at Hsp
 rw [h4] at Hsq
 clear h1 h2 h3 h4
 obtain ⟨W, hW⟩ : ∃ W, W = (w.alloc (.cells #[.int .i64 k0, .string k1, .slice A2 n2 c2', .int .i64 ck, .string cn, .int .i64 cvk, .int .i64 cvn, .string cvt, .string cop, .slice CA cnn cc, .slice NA nn nc, .slice EA en ec, .slice OA ol oc, .slice GA gn gc, .slice BA bn bc, .int .i64 count, .slice sxA sxn sxc, .slice rxA rxn rxc, .slice syA syn syc, .slice ryA ryn ryc] 55)).alloc (.cells #[.int .i64 j0, .string j1, .slice JA jan jac, .int .i64 jck, .string jcn, .int .i64 jvk, .int .i64 jvn, .string jvt, .string jop, .slice DA dn dc, .slice NB nbn nbc, .slice EB ebn ebc, .slice OB obn obc, .slice GB gbn gbc, .slice BB bbn bbc, .int .i64 jcount] 49) := ⟨_, rfl⟩
 obtain ⟨t0, hbs, hbz, hWs⟩ := two_boxes hW
 have HW := lh hW
 have HT := lh t0
 have HB := lh hbs
 have HBZ := lh hbz
 have HWS := lh hWs
 clear hW t0 hbs hbz hWs
 go_enter Tryz.func6, Tryz.ntmps6
 go_wp2_with fail
 rw [<- HW.out]
 refine (Hst.out _ HT.out).mono ?_
 rintro e w1 ⟨rfl, t1⟩
 have T1 := lh ((Touch.refl [] W).trans0 t1)
 have B1 := lh (T1.out.blk HB.out (by simp))
 have Z1 := lh (T1.out.blk HBZ.out (by simp))
 clear t1
 have c1_18 : w1.cell? ⟨w.heap.size, 18, none⟩ = some (.slice syA syn syc) := cell_blk B1.out rfl
 have c1_19 : w1.cell? ⟨w.heap.size, 19, none⟩ = some (.slice ryA ryn ryc) := cell_blk B1.out rfl
 go_wp2_with fail
 refine (Hsu.out _ (HT.out.trans0 T1.out)).mono ?_
 rintro e w2 ⟨rfl, t2⟩
 have T2 := lh (T1.out.trans0 t2)
 have B2 := lh (T2.out.blk HB.out (by simp))
 have Z2 := lh (T2.out.blk HBZ.out (by simp))
 clear t2
 clear c1_18 c1_19
 obtain ⟨c2_0, c2_1, c2_2, c2_3, c2_4, c2_5, c2_6, c2_7, c2_8, c2_9, c2_10, c2_11, c2_12, c2_13, c2_14, c2_15, -⟩ := blkz20 B2.out
 go_wp2_with fail
 refine (Hsp.out _ (HT.out.trans0 T2.out)).mono ?_
 rintro e w3 ⟨rfl, t3⟩
 have T3 := lh (T2.out.trans0 t3)
 have B3 := lh (T3.out.blk HB.out (by simp))
 have Z3 := lh (T3.out.blk HBZ.out (by simp))
 clear t3
 clear c2_0 c2_1 c2_2 c2_3 c2_4 c2_5 c2_6 c2_7 c2_8 c2_9 c2_10 c2_11 c2_12 c2_13 c2_14 c2_15
 obtain ⟨z3_0, z3_1, z3_2, z3_3, z3_4, z3_5, z3_6, z3_7, z3_8, z3_9, z3_10, z3_11, z3_12, z3_13, z3_14, z3_15⟩ := blk16 Z3.out
 go_wp2_with fail
 refine (Hsq.out _ (HT.out.trans0 T3.out)).mono ?_
 rintro e w4 ⟨rfl, t4⟩
 have T4 := lh (T3.out.trans0 t4)
 have B4 := lh (T4.out.blk HB.out (by simp))
 have Z4 := lh (T4.out.blk HBZ.out (by simp))
 clear t4
 go_wp2_with fail
 refine (Haw.out _ (HT.out.trans0 T4.out)).mono ?_
 rintro e w9 ⟨rfl, t9⟩
 have HT9 := lh ((HT.out.trans0 T4.out).trans0 t9)
 clear t9
 go_wp2_with fail
 go_ret
 exact ⟨rfl, HT9.out⟩
theorem nest_a5 {m m' : Nat} (x : PC) (d : PD m) (sx rx sy ry : SL) (a b : List CD) (ra rb : List (List VD)) (z : PC) (o : PD m') (w : World) (hP : PlanAt w x d) (hX : TabAt w sx rx a ra) (hY : TabAt w sy ry b rb) (hZ : PlanAt w z o) (hd : d.In) (ho : o.In) (hta : TbIn a ra) (htb : TbIn b rb) (hG : NeedsAt w) (hPw : PowAt w) (h1 : smallT a ra = true) (h2 : smallT b rb = true) (h3 : smallPl d = true) (h4 : smallPl o = true) (h5 : needI z.kind ≠ 1) :
  Calls Tryz.prog 6 #[stVal x sx rx sy ry, z.val] w fun e w' => e = .returned (.bool true) /\ Touch [] w w' := by
 have Hst := lh fun w' (t : Touch [] w w') => small_at (hX.touch0 t) hta
 have Hsu := lh fun w' (t : Touch [] w w') => small_at (hY.touch0 t) htb
 have Hsp := lh fun w' (t : Touch [] w w') => smallPlan_any m x d hd.ok w' (hP.touch0 t)
 have Hsq := lh fun w' (t : Touch [] w w') => smallPlan_any m' z o ho.ok w' (hZ.touch0 t)
 have Hne := lh fun w' => need5_any z.kind w'
 have Haw := lh fun w' (t : Touch [] w w') => awake5_any w' (hG.touch0 t)
 have Hsc := lh fun w' => scansB_any x sx rx sy ry w'
 have HP := lh hP
 have HX := lh hX
 have HY := lh hY
 have HZ := lh hZ
 have HD := lh hd
 have HO := lh ho
 have HTA := lh hta
 have HTB := lh htb
 have HG := lh hG
 have HPW := lh hPw
 have Hkd := lh hP.kind
 have Hkz := lh hZ.kind
 clear hP hX hY hZ hd ho hta htb hG hPw
 obtain ⟨k0, k1, ⟨A2, n2, c2'⟩, ⟨⟨ck, cn, ⟨cvk, cvn, cvt⟩, cop⟩, CA, cnn, cc⟩, ⟨NA, nn, nc⟩, ⟨EA, en, ec⟩, ⟨OA, ol, oc⟩, ⟨GA, gn, gc⟩, ⟨BA, bn, bc⟩, count⟩ := x
 obtain ⟨sxA, sxn, sxc⟩ := sx
 obtain ⟨rxA, rxn, rxc⟩ := rx
 obtain ⟨syA, syn, syc⟩ := sy
 obtain ⟨ryA, ryn, ryc⟩ := ry
 obtain ⟨j0, j1, ⟨JA, jan, jac⟩, ⟨⟨jck, jcn, ⟨jvk, jvn, jvt⟩, jop⟩, DA, dn, dc⟩, ⟨NB, nbn, nbc⟩, ⟨EB, ebn, ebc⟩, ⟨OB, obn, obc⟩, ⟨GB, gbn, gbc⟩, ⟨BB, bbn, bbc⟩, jcount⟩ := z
 simp only [stVal, PC.val] at *
 have h5' : (needI j0 == 1) = false := by rw [beq_eq_false_iff_ne]; exact h5
 have h5a : (needI j0 = 1) = False := eq_false h5
 have h5b : (needI j0 != 1) = true := by rw [bne, h5']; rfl
 obtain ⟨K, hK⟩ : ∃ K, K = needI j0 := ⟨_, rfl⟩
 rw [<- hK] at h5' h5a h5b Hne
 clear h5 hK
 rw [h1] at Hst
 rw [h2] at Hsu
 rw [h3] at Hsp
 rw [h4] at Hsq
 clear h1 h2 h3 h4
 obtain ⟨W, hW⟩ : ∃ W, W = (w.alloc (.cells #[.int .i64 k0, .string k1, .slice A2 n2 c2', .int .i64 ck, .string cn, .int .i64 cvk, .int .i64 cvn, .string cvt, .string cop, .slice CA cnn cc, .slice NA nn nc, .slice EA en ec, .slice OA ol oc, .slice GA gn gc, .slice BA bn bc, .int .i64 count, .slice sxA sxn sxc, .slice rxA rxn rxc, .slice syA syn syc, .slice ryA ryn ryc] 55)).alloc (.cells #[.int .i64 j0, .string j1, .slice JA jan jac, .int .i64 jck, .string jcn, .int .i64 jvk, .int .i64 jvn, .string jvt, .string jop, .slice DA dn dc, .slice NB nbn nbc, .slice EB ebn ebc, .slice OB obn obc, .slice GB gbn gbc, .slice BB bbn bbc, .int .i64 jcount] 49) := ⟨_, rfl⟩
 obtain ⟨t0, hbs, hbz, hWs⟩ := two_boxes hW
 have HW := lh hW
 have HT := lh t0
 have HB := lh hbs
 have HBZ := lh hbz
 have HWS := lh hWs
 clear hW t0 hbs hbz hWs
 go_enter Tryz.func6, Tryz.ntmps6
 go_wp2_with fail
 rw [<- HW.out]
 refine (Hst.out _ HT.out).mono ?_
 rintro e w1 ⟨rfl, t1⟩
 have T1 := lh ((Touch.refl [] W).trans0 t1)
 have B1 := lh (T1.out.blk HB.out (by simp))
 have Z1 := lh (T1.out.blk HBZ.out (by simp))
 clear t1
 have c1_18 : w1.cell? ⟨w.heap.size, 18, none⟩ = some (.slice syA syn syc) := cell_blk B1.out rfl
 have c1_19 : w1.cell? ⟨w.heap.size, 19, none⟩ = some (.slice ryA ryn ryc) := cell_blk B1.out rfl
 go_wp2_with fail
 refine (Hsu.out _ (HT.out.trans0 T1.out)).mono ?_
 rintro e w2 ⟨rfl, t2⟩
 have T2 := lh (T1.out.trans0 t2)
 have B2 := lh (T2.out.blk HB.out (by simp))
 have Z2 := lh (T2.out.blk HBZ.out (by simp))
 clear t2
 clear c1_18 c1_19
 obtain ⟨c2_0, c2_1, c2_2, c2_3, c2_4, c2_5, c2_6, c2_7, c2_8, c2_9, c2_10, c2_11, c2_12, c2_13, c2_14, c2_15, -⟩ := blkz20 B2.out
 go_wp2_with fail
 refine (Hsp.out _ (HT.out.trans0 T2.out)).mono ?_
 rintro e w3 ⟨rfl, t3⟩
 have T3 := lh (T2.out.trans0 t3)
 have B3 := lh (T3.out.blk HB.out (by simp))
 have Z3 := lh (T3.out.blk HBZ.out (by simp))
 clear t3
 clear c2_0 c2_1 c2_2 c2_3 c2_4 c2_5 c2_6 c2_7 c2_8 c2_9 c2_10 c2_11 c2_12 c2_13 c2_14 c2_15
 obtain ⟨z3_0, z3_1, z3_2, z3_3, z3_4, z3_5, z3_6, z3_7, z3_8, z3_9, z3_10, z3_11, z3_12, z3_13, z3_14, z3_15⟩ := blk16 Z3.out
 go_wp2_with fail
 refine (Hsq.out _ (HT.out.trans0 T3.out)).mono ?_
 rintro e w4 ⟨rfl, t4⟩
 have T4 := lh (T3.out.trans0 t4)
 have B4 := lh (T4.out.blk HB.out (by simp))
 have Z4 := lh (T4.out.blk HBZ.out (by simp))
 clear t4
 clear z3_0 z3_1 z3_2 z3_3 z3_4 z3_5 z3_6 z3_7 z3_8 z3_9 z3_10 z3_11 z3_12 z3_13 z3_14 z3_15
 have z4_0 : w4.cell? ⟨w.heap.size + 1, 0, none⟩ = some (.int .i64 j0) := cell_blk Z4.out rfl
 go_wp2_with fail
 refine (Hne.out _).mono ?_
 rintro e w5 ⟨rfl, t5⟩
 have T5 := lh (T4.out.trans0 t5)
 have B5 := lh (T5.out.blk HB.out (by simp))
 have Z5 := lh (T5.out.blk HBZ.out (by simp))
 clear t5
 go_wp2_with fail
 refine (Haw.out _ (HT.out.trans0 T5.out)).mono ?_
 rintro e w9 ⟨rfl, t9⟩
 have HT9 := lh ((HT.out.trans0 T5.out).trans0 t9)
 clear t9
 go_wp2_with fail
 go_ret
 exact ⟨rfl, HT9.out⟩
theorem nest_a6 {m m' : Nat} (x : PC) (d : PD m) (sx rx sy ry : SL) (a b : List CD) (ra rb : List (List VD)) (z : PC) (o : PD m') (w : World) (hP : PlanAt w x d) (hX : TabAt w sx rx a ra) (hY : TabAt w sy ry b rb) (hZ : PlanAt w z o) (hd : d.In) (ho : o.In) (hta : TbIn a ra) (htb : TbIn b rb) (hG : NeedsAt w) (hPw : PowAt w) (h1 : smallT a ra = true) (h2 : smallT b rb = true) (h3 : smallPl d = true) (h4 : smallPl o = true) (h5 : needI z.kind = 1) (h6 : x.kind = 1) :
  Calls Tryz.prog 6 #[stVal x sx rx sy ry, z.val] w fun e w' => e = .returned (.bool true) /\ Touch [] w w' := by
 have Hst := lh fun w' (t : Touch [] w w') => small_at (hX.touch0 t) hta
 have Hsu := lh fun w' (t : Touch [] w w') => small_at (hY.touch0 t) htb
 have Hsp := lh fun w' (t : Touch [] w w') => smallPlan_any m x d hd.ok w' (hP.touch0 t)
 have Hsq := lh fun w' (t : Touch [] w w') => smallPlan_any m' z o ho.ok w' (hZ.touch0 t)
 have Hne := lh fun w' => need5_any z.kind w'
 have Haw := lh fun w' (t : Touch [] w w') => awake5_any w' (hG.touch0 t)
 have Hsc := lh fun w' => scansB_any x sx rx sy ry w'
 have HP := lh hP
 have HX := lh hX
 have HY := lh hY
 have HZ := lh hZ
 have HD := lh hd
 have HO := lh ho
 have HTA := lh hta
 have HTB := lh htb
 have HG := lh hG
 have HPW := lh hPw
 have Hkd := lh hP.kind
 have Hkz := lh hZ.kind
 clear hP hX hY hZ hd ho hta htb hG hPw
 obtain ⟨k0, k1, ⟨A2, n2, c2'⟩, ⟨⟨ck, cn, ⟨cvk, cvn, cvt⟩, cop⟩, CA, cnn, cc⟩, ⟨NA, nn, nc⟩, ⟨EA, en, ec⟩, ⟨OA, ol, oc⟩, ⟨GA, gn, gc⟩, ⟨BA, bn, bc⟩, count⟩ := x
 obtain ⟨sxA, sxn, sxc⟩ := sx
 obtain ⟨rxA, rxn, rxc⟩ := rx
 obtain ⟨syA, syn, syc⟩ := sy
 obtain ⟨ryA, ryn, ryc⟩ := ry
 obtain ⟨j0, j1, ⟨JA, jan, jac⟩, ⟨⟨jck, jcn, ⟨jvk, jvn, jvt⟩, jop⟩, DA, dn, dc⟩, ⟨NB, nbn, nbc⟩, ⟨EB, ebn, ebc⟩, ⟨OB, obn, obc⟩, ⟨GB, gbn, gbc⟩, ⟨BB, bbn, bbc⟩, jcount⟩ := z
 simp only [stVal, PC.val] at *
 rw [h5] at Hne
 have H6 := lh h6
 clear h5 h6
 rw [h1] at Hst
 rw [h2] at Hsu
 rw [h3] at Hsp
 rw [h4] at Hsq
 clear h1 h2 h3 h4
 obtain ⟨W, hW⟩ : ∃ W, W = (w.alloc (.cells #[.int .i64 k0, .string k1, .slice A2 n2 c2', .int .i64 ck, .string cn, .int .i64 cvk, .int .i64 cvn, .string cvt, .string cop, .slice CA cnn cc, .slice NA nn nc, .slice EA en ec, .slice OA ol oc, .slice GA gn gc, .slice BA bn bc, .int .i64 count, .slice sxA sxn sxc, .slice rxA rxn rxc, .slice syA syn syc, .slice ryA ryn ryc] 55)).alloc (.cells #[.int .i64 j0, .string j1, .slice JA jan jac, .int .i64 jck, .string jcn, .int .i64 jvk, .int .i64 jvn, .string jvt, .string jop, .slice DA dn dc, .slice NB nbn nbc, .slice EB ebn ebc, .slice OB obn obc, .slice GB gbn gbc, .slice BB bbn bbc, .int .i64 jcount] 49) := ⟨_, rfl⟩
 obtain ⟨t0, hbs, hbz, hWs⟩ := two_boxes hW
 have HW := lh hW
 have HT := lh t0
 have HB := lh hbs
 have HBZ := lh hbz
 have HWS := lh hWs
 clear hW t0 hbs hbz hWs
 go_enter Tryz.func6, Tryz.ntmps6
 go_wp2_with fail
 rw [<- HW.out]
 refine (Hst.out _ HT.out).mono ?_
 rintro e w1 ⟨rfl, t1⟩
 have T1 := lh ((Touch.refl [] W).trans0 t1)
 have B1 := lh (T1.out.blk HB.out (by simp))
 have Z1 := lh (T1.out.blk HBZ.out (by simp))
 clear t1
 have c1_18 : w1.cell? ⟨w.heap.size, 18, none⟩ = some (.slice syA syn syc) := cell_blk B1.out rfl
 have c1_19 : w1.cell? ⟨w.heap.size, 19, none⟩ = some (.slice ryA ryn ryc) := cell_blk B1.out rfl
 go_wp2_with fail
 refine (Hsu.out _ (HT.out.trans0 T1.out)).mono ?_
 rintro e w2 ⟨rfl, t2⟩
 have T2 := lh (T1.out.trans0 t2)
 have B2 := lh (T2.out.blk HB.out (by simp))
 have Z2 := lh (T2.out.blk HBZ.out (by simp))
 clear t2
 clear c1_18 c1_19
 obtain ⟨c2_0, c2_1, c2_2, c2_3, c2_4, c2_5, c2_6, c2_7, c2_8, c2_9, c2_10, c2_11, c2_12, c2_13, c2_14, c2_15, -⟩ := blkz20 B2.out
 go_wp2_with fail
 refine (Hsp.out _ (HT.out.trans0 T2.out)).mono ?_
 rintro e w3 ⟨rfl, t3⟩
 have T3 := lh (T2.out.trans0 t3)
 have B3 := lh (T3.out.blk HB.out (by simp))
 have Z3 := lh (T3.out.blk HBZ.out (by simp))
 clear t3
 clear c2_0 c2_1 c2_2 c2_3 c2_4 c2_5 c2_6 c2_7 c2_8 c2_9 c2_10 c2_11 c2_12 c2_13 c2_14 c2_15
 obtain ⟨z3_0, z3_1, z3_2, z3_3, z3_4, z3_5, z3_6, z3_7, z3_8, z3_9, z3_10, z3_11, z3_12, z3_13, z3_14, z3_15⟩ := blk16 Z3.out
 go_wp2_with fail
 refine (Hsq.out _ (HT.out.trans0 T3.out)).mono ?_
 rintro e w4 ⟨rfl, t4⟩
 have T4 := lh (T3.out.trans0 t4)
 have B4 := lh (T4.out.blk HB.out (by simp))
 have Z4 := lh (T4.out.blk HBZ.out (by simp))
 clear t4
 clear z3_0 z3_1 z3_2 z3_3 z3_4 z3_5 z3_6 z3_7 z3_8 z3_9 z3_10 z3_11 z3_12 z3_13 z3_14 z3_15
 have z4_0 : w4.cell? ⟨w.heap.size + 1, 0, none⟩ = some (.int .i64 j0) := cell_blk Z4.out rfl
 go_wp2_with fail
 refine (Hne.out _).mono ?_
 rintro e w5 ⟨rfl, t5⟩
 have T5 := lh (T4.out.trans0 t5)
 have B5 := lh (T5.out.blk HB.out (by simp))
 have Z5 := lh (T5.out.blk HBZ.out (by simp))
 clear t5
 have h6' : (k0 == 1) = true := by rw [H6.out]; rfl
 have h6a : (k0 = 1) = True := eq_true H6.out
 have c5_0 : w5.cell? ⟨w.heap.size, 0, none⟩ = some (.int .i64 k0) := cell_blk B5.out rfl
 go_wp2_with fail
 refine (Haw.out _ (HT.out.trans0 T5.out)).mono ?_
 rintro e w9 ⟨rfl, t9⟩
 have HT9 := lh ((HT.out.trans0 T5.out).trans0 t9)
 clear t9
 go_wp2_with fail
 go_ret
 exact ⟨rfl, HT9.out⟩
end
end Go.Proofs.YtafoklilkdnepaaGreatDoor
