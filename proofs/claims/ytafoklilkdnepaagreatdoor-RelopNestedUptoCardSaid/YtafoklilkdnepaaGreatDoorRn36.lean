/- Part 36 of the texts of this proof, one behind the other. No condition beyond those that its theorems state. -/
import Derived.Test.YtafoklilkdnepaaGreatDoorRn35
import Derived.Test.YtafoklilkdnepaaGreatDoorRows
import Derived.Deep.DeepHandedRow
import Derived.Lib.LaidTab
import Derived.Lib.LaidIn
import GoSem.PinnedTables
set_option maxRecDepth 40000
set_option maxHeartbeats 25600000
namespace Go.Proofs.YtafoklilkdnepaaGreatDoor
section
open Go.RowKit
theorem nest_b {m m' : Nat} (x : PC) (d : PD m) (sx rx sy ry : SL) (a b : List CD) (ra rb : List (List VD)) (z : PC) (o : PD m') (w : World) (hP : PlanAt w x d) (hX : TabAt w sx rx a ra) (hY : TabAt w sy ry b rb) (hZ : PlanAt w z o) (hd : d.In) (ho : o.In) (hta : TbIn a ra) (htb : TbIn b rb) (hG : NeedsAt w) (hPw : PowAt w) (h1 : smallT a ra = true) (h2 : smallT b rb = true) (h3 : smallPl d = true) (h4 : smallPl o = true) (h5 : needI z.kind = 1) (h6 : x.kind ≠ 1) :
  Calls Tryz.prog 6 #[stVal x sx rx sy ry, z.val] w fun e w' => e = .returned (.bool true) /\ Touch [] w w' := by
 have Hst := lh fun w' (t : Touch [] w w') => small_at (hX.touch0 t) hta
 have Hsu := lh fun w' (t : Touch [] w w') => small_at (hY.touch0 t) htb
 have Hsp := lh fun w' (t : Touch [] w w') => smallPlan_any m x d hd.ok w' (hP.touch0 t)
 have Hsq := lh fun w' (t : Touch [] w w') => smallPlan_any m' z o ho.ok w' (hZ.touch0 t)
 have Hne := lh fun w' => need5_any z.kind w'
 have Haw := lh fun w' (t : Touch [] w w') => awake5_any w' (hG.touch0 t)
 have Hsc := lh fun w' => scansB_any x sx rx sy ry w'
 have HP := lh hP
 have HX := lh hX
 have HY := lh hY
 have HZ := lh hZ
 have HD := lh hd
 have HO := lh ho
 have HTA := lh hta
 have HTB := lh htb
 have HG := lh hG
 have HPW := lh hPw
 have Hkd := lh hP.kind
 have Hkz := lh hZ.kind
 clear hP hX hY hZ hd ho hta htb hG hPw
 obtain ⟨k0, k1, ⟨A2, n2, c2'⟩, ⟨⟨ck, cn, ⟨cvk, cvn, cvt⟩, cop⟩, CA, cnn, cc⟩, ⟨NA, nn, nc⟩, ⟨EA, en, ec⟩, ⟨OA, ol, oc⟩, ⟨GA, gn, gc⟩, ⟨BA, bn, bc⟩, count⟩ := x
 obtain ⟨sxA, sxn, sxc⟩ := sx
 obtain ⟨rxA, rxn, rxc⟩ := rx
 obtain ⟨syA, syn, syc⟩ := sy
 obtain ⟨ryA, ryn, ryc⟩ := ry
 obtain ⟨j0, j1, ⟨JA, jan, jac⟩, ⟨⟨jck, jcn, ⟨jvk, jvn, jvt⟩, jop⟩, DA, dn, dc⟩, ⟨NB, nbn, nbc⟩, ⟨EB, ebn, ebc⟩, ⟨OB, obn, obc⟩, ⟨GB, gbn, gbc⟩, ⟨BB, bbn, bbc⟩, jcount⟩ := z
 simp only [stVal, PC.val] at *
 have h6' : (k0 == 1) = false := by rw [beq_eq_false_iff_ne]; exact h6
 have Hfd := lh (HD.out.fine5 (smallPl_true h3))
 have Hfo := lh (HO.out.fine5 (smallPl_true h4))
 have Hoa := lh (HTA.out.tb h1)
 have Hob := lh (HTB.out.tb h2)
 have Hk1 := lh (show d.kind ≠ 1 from Hkd.out ▸ h6)
 have Hon := lh (show needI o.kind = 1 from Hkz.out ▸ h5)
 rw [h5] at Hne
 clear h5 h6
 rw [h1] at Hst
 rw [h2] at Hsu
 rw [h3] at Hsp
 rw [h4] at Hsq
 clear h1 h2 h3 h4
 obtain ⟨W, hW⟩ : ∃ W, W = (w.alloc (.cells #[.int .i64 k0, .string k1, .slice A2 n2 c2', .int .i64 ck, .string cn, .int .i64 cvk, .int .i64 cvn, .string cvt, .string cop, .slice CA cnn cc, .slice NA nn nc, .slice EA en ec, .slice OA ol oc, .slice GA gn gc, .slice BA bn bc, .int .i64 count, .slice sxA sxn sxc, .slice rxA rxn rxc, .slice syA syn syc, .slice ryA ryn ryc] 55)).alloc (.cells #[.int .i64 j0, .string j1, .slice JA jan jac, .int .i64 jck, .string jcn, .int .i64 jvk, .int .i64 jvn, .string jvt, .string jop, .slice DA dn dc, .slice NB nbn nbc, .slice EB ebn ebc, .slice OB obn obc, .slice GB gbn gbc, .slice BB bbn bbc, .int .i64 jcount] 49) := ⟨_, rfl⟩
 obtain ⟨t0, hbs, hbz, hWs⟩ := two_boxes hW
 have HW := lh hW
 have HT := lh t0
 have HB := lh hbs
 have HBZ := lh hbz
 have HWS := lh hWs
 clear hW t0 hbs hbz hWs
 go_enter Tryz.func6, Tryz.ntmps6
 go_upto_region 1 with fail
 rw [<- HW.out]
 go_cut [47] (fun c wx => c = .bool false /\ Hid (Touch [] W wx))
 case first =>
  have c0_16 : W.cell? ⟨w.heap.size, 16, none⟩ = some (.slice sxA sxn sxc) := cell_blk HB.out rfl
  have c0_17 : W.cell? ⟨w.heap.size, 17, none⟩ = some (.slice rxA rxn rxc) := cell_blk HB.out rfl
  go_wp2_with fail
  refine (Hst.out _ HT.out).mono ?_
  rintro e w1 ⟨rfl, t1⟩
  have T1 := lh ((Touch.refl [] W).trans0 t1)
  have B1 := lh (T1.out.blk HB.out (by simp))
  have Z1 := lh (T1.out.blk HBZ.out (by simp))
  clear t1
  have c1_18 : w1.cell? ⟨w.heap.size, 18, none⟩ = some (.slice syA syn syc) := cell_blk B1.out rfl
  have c1_19 : w1.cell? ⟨w.heap.size, 19, none⟩ = some (.slice ryA ryn ryc) := cell_blk B1.out rfl
  go_wp2_with fail
  refine (Hsu.out _ (HT.out.trans0 T1.out)).mono ?_
  rintro e w2 ⟨rfl, t2⟩
  have T2 := lh (T1.out.trans0 t2)
  have B2 := lh (T2.out.blk HB.out (by simp))
  have Z2 := lh (T2.out.blk HBZ.out (by simp))
  clear t2
  clear c1_18 c1_19
  obtain ⟨c2_0, c2_1, c2_2, c2_3, c2_4, c2_5, c2_6, c2_7, c2_8, c2_9, c2_10, c2_11, c2_12, c2_13, c2_14, c2_15, -⟩ := blkz20 B2.out
  go_wp2_with fail
  refine (Hsp.out _ (HT.out.trans0 T2.out)).mono ?_
  rintro e w3 ⟨rfl, t3⟩
  have T3 := lh (T2.out.trans0 t3)
  have B3 := lh (T3.out.blk HB.out (by simp))
  have Z3 := lh (T3.out.blk HBZ.out (by simp))
  clear t3
  clear c2_0 c2_1 c2_2 c2_3 c2_4 c2_5 c2_6 c2_7 c2_8 c2_9 c2_10 c2_11 c2_12 c2_13 c2_14 c2_15
  obtain ⟨z3_0, z3_1, z3_2, z3_3, z3_4, z3_5, z3_6, z3_7, z3_8, z3_9, z3_10, z3_11, z3_12, z3_13, z3_14, z3_15⟩ := blk16 Z3.out
  go_wp2_with fail
  refine (Hsq.out _ (HT.out.trans0 T3.out)).mono ?_
  rintro e w4 ⟨rfl, t4⟩
  have T4 := lh (T3.out.trans0 t4)
  have B4 := lh (T4.out.blk HB.out (by simp))
  have Z4 := lh (T4.out.blk HBZ.out (by simp))
  clear t4
  clear z3_0 z3_1 z3_2 z3_3 z3_4 z3_5 z3_6 z3_7 z3_8 z3_9 z3_10 z3_11 z3_12 z3_13 z3_14 z3_15
  have z4_0 : w4.cell? ⟨w.heap.size + 1, 0, none⟩ = some (.int .i64 j0) := cell_blk Z4.out rfl
  go_wp2_with fail
  refine (Hne.out _).mono ?_
  rintro e w5 ⟨rfl, t5⟩
  have T5 := lh (T4.out.trans0 t5)
  have B5 := lh (T5.out.blk HB.out (by simp))
  have Z5 := lh (T5.out.blk HBZ.out (by simp))
  clear t5
  have c5_0 : w5.cell? ⟨w.heap.size, 0, none⟩ = some (.int .i64 k0) := cell_blk B5.out rfl
  go_wp2_with fail
  go_meet
  exact ⟨rfl, T5⟩
 case rest =>
  obtain ⟨rfl, T3⟩ := hcut
  obtain ⟨w3, hw3⟩ : ∃ w3, w3 = wc := ⟨_, rfl⟩
  subst hw3
  have B3 := lh (T3.out.blk HB.out (by simp))
  have Hs3 := lh (show w.heap.size + 2 <= w3.heap.size by have := T3.out.size; have := HWS.out; omega)
  clear Hst Hsu Hsp Hsq Hne HW h6'
  go_upto_region 3 with fail
  go_cut [5, 6] (fun v5 v6 wx => ∃ (A : Option Addr) (n c : Nat) (I : Option Addr) (G : Nat), v5 = .pointer (some ⟨G, 0, none⟩) /\ v6 = .slice I 3 3 /\ Hid ((n : Int) = needI k0 /\ RdK pcE wx A ([scanC ⟨#[120]⟩, scanC ⟨#[121]⟩].take n) /\ RdK srE wx I [⟨⟨#[120]⟩, ⟨sxA, sxn, sxc⟩, ⟨rxA, rxn, rxc⟩⟩, ⟨⟨#[121]⟩, ⟨syA, syn, syc⟩, ⟨ryA, ryn, ryc⟩⟩, ⟨⟨#[120]⟩, noS, noS⟩] /\ wx.heap[G]? = some (.cells #[.int .i64 k0, .string k1, .slice A n c, .int .i64 ck, .string cn, .int .i64 cvk, .int .i64 cvn, .string cvt, .string cop, .slice CA cnn cc, .slice NA nn nc, .slice EA en ec, .slice OA ol oc, .slice GA gn gc, .slice BA bn bc, .int .i64 count] 49 (0, 0)) /\ Touch [] w3 wx /\ (∀ b ∈ fpo A, w3.heap.size <= b) /\ (∀ b ∈ fpo I, w3.heap.size <= b) /\ w3.heap.size <= G))
  case first =>
   refine wp_region_lit (l := [_, _, _, _, _, _, _, _]) ?_
   refine wpList_load_mid rfl 55 (.tmp 2) rfl w.heap.size 0 rfl [.int .i64 k0, .string k1, .slice A2 n2 c2', .int .i64 ck, .string cn, .int .i64 cvk, .int .i64 cvn, .string cvt, .string cop, .slice CA cnn cc, .slice NA nn nc, .slice EA en ec, .slice OA ol oc, .slice GA gn gc, .slice BA bn bc, .int .i64 count, .slice sxA sxn sxc, .slice rxA rxn rxc, .slice syA syn syc, .slice ryA ryn ryc] _ (rangeAt_blk B3.out) Tryz.underlying55 rfl (by kernel_rfl) ?_
   simp only [Act.put, List.setIfInBounds_toArray, List.set_cons_zero, List.set_cons_succ]
   go_wp2_with fail
   refine (Hsc.out _).mono ?_
   rintro e w4 ⟨A, n, c, I, rfl, hn, hA, hI, t4, hfA, hfI⟩
   have ta := (Touch.refl [] w4).alloc (.cells #[.int .i64 k0, .string k1, .slice A n c, .int .i64 ck, .string cn, .int .i64 cvk, .int .i64 cvn, .string cvt, .string cop, .slice CA cnn cc, .slice NA nn nc, .slice EA en ec, .slice OA ol oc, .slice GA gn gc, .slice BA bn bc, .int .i64 count] 49)
   have HF := lh (And.intro hn (And.intro (RdK.touch0 hA ta) (And.intro (RdK.touch0 hI ta) (And.intro (heap_alloc_new w4 (.cells #[.int .i64 k0, .string k1, .slice A n c, .int .i64 ck, .string cn, .int .i64 cvk, .int .i64 cvn, .string cvt, .string cop, .slice CA cnn cc, .slice NA nn nc, .slice EA en ec, .slice OA ol oc, .slice GA gn gc, .slice BA bn bc, .int .i64 count] 49)) (And.intro (t4.trans0 ta) (And.intro hfA (And.intro hfI t4.size)))))))
   clear hn hA hI t4 ta hfA hfI
   go_wp2_with fail
   go_meet
   exact ⟨A, n, c, I, _, rfl, rfl, HF⟩
  case rest =>
   obtain ⟨A, n, c, I, G, rfl, rfl, HF⟩ := hcut
   obtain ⟨w5, hw5⟩ : ∃ w5, w5 = wc := ⟨_, rfl⟩
   subst hw5
   obtain ⟨-, -, -, hG5, t35, -, -, hGl⟩ := id HF.out
   have Z5 := lh (t35.blk (T3.out.blk HBZ.out (by simp)) (by simp))
   have G5 := lh hG5
   have Hgl := lh hGl
   have TW5 := lh (HT.out.trans0 (T3.out.trans0 t35))
   have Hs5 := lh (show w.heap.size + 2 <= w5.heap.size by have := t35.size; have := Hs3.out; omega)
   clear hG5 t35 hGl Hsc B3
   go_upto_region 4 with fail
   go_cut [] (fun wx => Hid (Touch [w.heap.size + 1] w5 wx /\ wx.heap[w.heap.size + 1]? = some (.cells #[.int .i64 j0, .string j1, .slice (some ⟨w5.heap.size, 0, none⟩) 1 1, .int .i64 jck, .string jcn, .int .i64 jvk, .int .i64 jvn, .string jvt, .string jop, .slice DA dn dc, .slice NB nbn nbc, .slice EB ebn ebc, .slice OB obn obc, .slice GB gbn gbc, .slice BB bbn bbc, .int .i64 jcount] 49 (0, 0)) /\ RdK pcE wx (some ⟨w5.heap.size, 0, none⟩) [(⟨k0, k1, ⟨A, n, c⟩, ⟨⟨ck, cn, ⟨cvk, cvn, cvt⟩, cop⟩, CA, cnn, cc⟩, ⟨NA, nn, nc⟩, ⟨EA, en, ec⟩, ⟨OA, ol, oc⟩, ⟨GA, gn, gc⟩, ⟨BA, bn, bc⟩, count⟩ : PC)]))
   case first =>
    refine wp_region_lit (l := [_, _, _, _]) ?_
    refine wpList_load_mid rfl 49 (.tmp 5) rfl G 0 rfl [.int .i64 k0, .string k1, .slice A n c, .int .i64 ck, .string cn, .int .i64 cvk, .int .i64 cvn, .string cvt, .string cop, .slice CA cnn cc, .slice NA nn nc, .slice EA en ec, .slice OA ol oc, .slice GA gn gc, .slice BA bn bc, .int .i64 count] _ (rangeAt_blk G5.out) Tryz.underlying49 rfl (by kernel_rfl) ?_
    simp only [Act.put, List.setIfInBounds_toArray, List.set_cons_zero, List.set_cons_succ]
    have ta := (Touch.refl [w.heap.size + 1] w5).alloc (.cells #[.int .i64 k0, .string k1, .slice A n c, .int .i64 ck, .string cn, .int .i64 cvk, .int .i64 cvn, .string cvt, .string cop, .slice CA cnn cc, .slice NA nn nc, .slice EA en ec, .slice OA ol oc, .slice GA gn gc, .slice BA bn bc, .int .i64 count] 49)
    have hz := ((Touch.refl [] w5).alloc (.cells #[.int .i64 k0, .string k1, .slice A n c, .int .i64 ck, .string cn, .int .i64 cvk, .int .i64 cvn, .string cvt, .string cop, .slice CA cnn cc, .slice NA nn nc, .slice EA en ec, .slice OA ol oc, .slice GA gn gc, .slice BA bn bc, .int .i64 count] 49)).blk Z5.out (by simp)
    have hq2 := (cell_blk hz rfl : (w5.alloc (.cells #[.int .i64 k0, .string k1, .slice A n c, .int .i64 ck, .string cn, .int .i64 cvk, .int .i64 cvn, .string cvt, .string cop, .slice CA cnn cc, .slice NA nn nc, .slice EA en ec, .slice OA ol oc, .slice GA gn gc, .slice BA bn bc, .int .i64 count] 49)).cell? ⟨w.heap.size + 1, 2, none⟩ = some (.slice JA jan jac))
    have hf2 := free_blk hz 2
    have HA5 := lh (And.intro ta (And.intro hz (RdK.one (enc := pcE) w5 49 (⟨k0, k1, ⟨A, n, c⟩, ⟨⟨ck, cn, ⟨cvk, cvn, cvt⟩, cop⟩, CA, cnn, cc⟩, ⟨NA, nn, nc⟩, ⟨EA, en, ec⟩, ⟨OA, ol, oc⟩, ⟨GA, gn, gc⟩, ⟨BA, bn, bc⟩, count⟩ : PC) #[.int .i64 k0, .string k1, .slice A n c, .int .i64 ck, .string cn, .int .i64 cvk, .int .i64 cvn, .string cvt, .string cop, .slice CA cnn cc, .slice NA nn nc, .slice EA en ec, .slice OA ol oc, .slice GA gn gc, .slice BA bn bc, .int .i64 count] rfl)))
    clear ta hz
    go_wp2_with fail
    go_meet
    obtain ⟨ta, hz, hr⟩ := HA5.out
    have tb := (Touch.refl [w.heap.size + 1] (w5.alloc (.cells #[.int .i64 k0, .string k1, .slice A n c, .int .i64 ck, .string cn, .int .i64 cvk, .int .i64 cvn, .string cvt, .string cop, .slice CA cnn cc, .slice NA nn nc, .slice EA en ec, .slice OA ol oc, .slice GA gn gc, .slice BA bn bc, .int .i64 count] 49))).setCell (p := ⟨w.heap.size + 1, 2, none⟩) (.inl (by simp)) (.slice (some ⟨w5.heap.size, 0, none⟩) 1 1)
    exact lh ⟨ta.trans tb (by simp), set_blk hz 2 _, RdK.touch hr tb (fun b hb hm => by have := Hs5.out; simp [fpo] at hb hm; omega)⟩
   case rest =>
    obtain ⟨w6, hw6⟩ : ∃ w6, w6 = wc := ⟨_, rfl⟩
    subst hw6
    have H6 := hcut
    have TW6 := lh (TW5.out.trans H6.out.1 (fun b hb => .inr (by simp at hb; omega)))
    have Hs6 := lh (show w.heap.size + 2 <= w6.heap.size by have := H6.out.1.size; have := Hs5.out; omega)
    have G6 := lh (H6.out.1.blk G5.out (by have := Hgl.out; have := Hs3.out; simp; omega))
    have Hns := lh (⟨HG.out.touch0 TW6.out, HPW.out.touch0 TW6.out, (HP.out.touch0 TW6.out).args ⟨A, n, c⟩, Hfd.out, Hfo.out, Hoa.out, Hob.out,
     ⟨_, rfl, RdK.touch HF.out.2.2.1 H6.out.1 (fun b hb hm => by have := HF.out.2.2.2.2.2.2.1 b hb; have := Hs3.out; simp at hm; omega), fun i i1 i2 => by
      have : i = 0 \/ i = 1 \/ i = 2 := by simp at i1; omega
      rcases this with rfl | rfl | rfl
      ·exact ⟨rfl, HX.out.touch0 TW6.out⟩
      ·exact ⟨rfl, HY.out.touch0 TW6.out⟩
      ·exact ⟨rfl, rfl, Nat.le_refl _, RdK.nil _ _ _, rfl, [], ⟨rfl, fun i h => absurd h (by simp)⟩, RdK.nil _ _ _⟩⟩,
     HF.out.1.trans (congrArg needI Hkd.out), RdK.touch HF.out.2.1 H6.out.1 (fun b hb hm => by have := HF.out.2.2.2.2.2.1 b hb; have := Hs3.out; simp at hm; omega), Hk1.out, Hon.out⟩ : NsAt w6 d o (⟨k0, k1, ⟨A, n, c⟩, ⟨⟨ck, cn, ⟨cvk, cvn, cvt⟩, cop⟩, CA, cnn, cc⟩, ⟨NA, nn, nc⟩, ⟨EA, en, ec⟩, ⟨OA, ol, oc⟩, ⟨GA, gn, gc⟩, ⟨BA, bn, bc⟩, count⟩ : PC) I 3 a ra b rb)
    have Hou := lh (Hns.out.outer (z := (⟨j0, j1, ⟨some ⟨w5.heap.size, 0, none⟩, 1, 1⟩, ⟨⟨jck, jcn, ⟨jvk, jvn, jvt⟩, jop⟩, DA, dn, dc⟩, ⟨NB, nbn, nbc⟩, ⟨EB, ebn, ebc⟩, ⟨OB, obn, obc⟩, ⟨GB, gbn, gbc⟩, ⟨BB, bbn, bbc⟩, jcount⟩ : PC)) ((HZ.out.touch0 TW6.out).args ⟨some ⟨w5.heap.size, 0, none⟩, 1, 1⟩) rfl H6.out.2.2)
    have Hin := lh fun w' (t : Touch [] w6 w') => (Hns.out.touch0 t).inner
    have Hty := lh fun w' (t : Touch [] w6 w') => (Hns.out.touch0 t).type (z := (⟨j0, j1, ⟨some ⟨w5.heap.size, 0, none⟩, 1, 1⟩, ⟨⟨jck, jcn, ⟨jvk, jvn, jvt⟩, jop⟩, DA, dn, dc⟩, ⟨NB, nbn, nbc⟩, ⟨EB, ebn, ebc⟩, ⟨OB, obn, obc⟩, ⟨GB, gbn, gbc⟩, ⟨BB, bbn, bbc⟩, jcount⟩ : PC)) ((HZ.out.touch0 (TW6.out.trans0 t)).args ⟨some ⟨w5.heap.size, 0, none⟩, 1, 1⟩) rfl (RdK.touch0 H6.out.2.2 t)
    have Hag := lh fun (Q : Nat) w' (t : Touch [] w w') (hns : NsAt w' d o (⟨k0, k1, ⟨A, n, c⟩, ⟨⟨ck, cn, ⟨cvk, cvn, cvt⟩, cop⟩, CA, cnn, cc⟩, ⟨NA, nn, nc⟩, ⟨EA, en, ec⟩, ⟨OA, ol, oc⟩, ⟨GA, gn, gc⟩, ⟨BA, bn, bc⟩, count⟩ : PC) I 3 a ra b rb) (hX : RdK pcE w' (some ⟨Q, 0, none⟩) [scanC ⟨#[109, 105, 100]⟩]) => hns.again (z := (⟨j0, j1, ⟨some ⟨Q, 0, none⟩, 1, 1⟩, ⟨⟨jck, jcn, ⟨jvk, jvn, jvt⟩, jop⟩, DA, dn, dc⟩, ⟨NB, nbn, nbc⟩, ⟨EB, ebn, ebc⟩, ⟨OB, obn, obc⟩, ⟨GB, gbn, gbc⟩, ⟨BB, bbn, bbc⟩, jcount⟩ : PC)) ((HZ.out.touch0 t).args ⟨some ⟨Q, 0, none⟩, 1, 1⟩) rfl hX
    have He1 := lh (outR_type (d := d) (o := o) (a := a) (ra := ra) (b := b) (rb := rb))
    have He2 := lh (outR_mid (d := d) (o := o) (a := a) (ra := ra) (b := b) (rb := rb))
    obtain ⟨V, hV⟩ : ∃ V, V = outR d o a ra b rb := ⟨_, rfl⟩
    obtain ⟨M, hM⟩ : ∃ M, M = midR d a ra b rb := ⟨_, rfl⟩
    obtain ⟨T, hT⟩ : ∃ T, T = outT d o a ra b rb := ⟨_, rfl⟩
    rw [show topV (progT d a ra b rb) (progE d a ra b rb) = midR d a ra b rb from rfl] at Hin
    rw [<- hV] at Hou Hag He1 He2
    rw [<- hM] at Hin Hag He2
    rw [<- hT] at Hty Hag He1 He2
    have Hvr := lh (show V.2.1.length <= 140737000000000 /\ V.2.2.length <= 140737000000000 /\ ∀ r ∈ V.2.2, r.length <= 140737000000000 from by rw [hV]; exact Hns.out.outLe)
    obtain ⟨er, vcs, vrows⟩ := V
    obtain ⟨e1, mcs, mrows⟩ := M
    obtain ⟨et, tcs⟩ := T
    dsimp only at Hag He1 He2 Hvr
    simp only [PC.val] at Hou Hin Hty Hag
    clear hV hM hT
    go_upto_region 5 with fail
    go_cut [7, 8] (fun v1 v2 wx => ∃ (ag : Nat) (aA : Option Addr) (ak ad : Nat) (aB : Option Addr) (aj af : Nat), v1 = .pointer (some ⟨ag, 0, none⟩) /\ v2 = .int .i64 er /\ Hid (Touch [] w6 wx /\ wx.heap[ag]? = some (.cells #[.slice aA ak ad, .slice aB aj af] 27 (0, 0)) /\ (∃ lo hi, TabU lo hi wx ⟨aA, ak, ad⟩ ⟨aB, aj, af⟩ vcs vrows /\ w.heap.size + 2 <= lo) /\ w6.heap.size <= ag))
    case first =>
     refine wp_region_lit (l := [_, _, _, _, _, _, _, _, _]) ?_
     refine wpList_load_mid rfl 49 (.tmp 3) rfl (w.heap.size + 1) 0 rfl [.int .i64 j0, .string j1, .slice (some ⟨w5.heap.size, 0, none⟩) 1 1, .int .i64 jck, .string jcn, .int .i64 jvk, .int .i64 jvn, .string jvt, .string jop, .slice DA dn dc, .slice NB nbn nbc, .slice EB ebn ebc, .slice OB obn obc, .slice GB gbn gbc, .slice BB bbn bbc, .int .i64 jcount] _ (rangeAt_blk H6.out.2.1) Tryz.underlying49 rfl (by kernel_rfl) ?_
     simp only [Act.put, List.setIfInBounds_toArray, List.set_cons_zero, List.set_cons_succ]
     go_wp2_with fail
     refine Hou.out.mono ?_
     rintro e0 w0 ⟨⟨A1, k1', d1⟩, ⟨B1, j1', f1⟩, rfl, hnt, t0⟩
     have H0 := lh (And.intro (TabU.of hnt) t0)
     clear hnt t0
     go_wp2_with fail
     go_meet
     have tb := (Touch.refl [] w0).alloc (.cells #[.slice A1 k1' d1, .slice B1 j1' f1] 27)
     exact ⟨_, A1, k1', d1, B1, j1', f1, rfl, rfl, lh ⟨H0.out.2.trans0 tb, heap_alloc_new w0 _, ⟨_, _, H0.out.1.touch tb (by simp), by have := Hs6.out; omega⟩, H0.out.2.size⟩⟩
    case rest =>
     obtain ⟨ag, aA, ak, ad, aB, aj, af, rfl, rfl, Ha⟩ := hcut
     obtain ⟨w7, hw7⟩ : ∃ w7, w7 = wc := ⟨_, rfl⟩
     subst hw7
     clear Hou
     have Zb7 := lh (Ha.out.1.blk H6.out.2.1 (by simp))
     have G7 := lh (Ha.out.1.blk G6.out (by simp))
     have Hs7 := lh (show w.heap.size + 2 <= w7.heap.size by have := Ha.out.1.size; have := Hs6.out; omega)
     have Hin7 := lh (Hin.out w7 Ha.out.1)
     clear Hin G5 G6 Z5
     go_upto_region 6 with fail
     go_cut [9, 10] (fun v1 v2 wx => ∃ (mg : Nat) (mA : Option Addr) (mk md : Nat) (mB : Option Addr) (mj mf : Nat), v1 = .pointer (some ⟨mg, 0, none⟩) /\ v2 = .int .i64 e1 /\ Hid (Touch [] w7 wx /\ wx.heap[mg]? = some (.cells #[.slice mA mk md, .slice mB mj mf] 27 (0, 0)) /\ (∃ lo hi, TabU lo hi wx ⟨mA, mk, md⟩ ⟨mB, mj, mf⟩ mcs mrows /\ w.heap.size + 2 <= lo) /\ w7.heap.size <= mg))
     case first =>
      refine wp_region_lit (l := [_, _, _, _, _, _, _, _, _]) ?_
      refine wpList_load_mid rfl 49 (.tmp 5) rfl G 0 rfl [.int .i64 k0, .string k1, .slice A n c, .int .i64 ck, .string cn, .int .i64 cvk, .int .i64 cvn, .string cvt, .string cop, .slice CA cnn cc, .slice NA nn nc, .slice EA en ec, .slice OA ol oc, .slice GA gn gc, .slice BA bn bc, .int .i64 count] _ (rangeAt_blk G7.out) Tryz.underlying49 rfl (by kernel_rfl) ?_
      simp only [Act.put, List.setIfInBounds_toArray, List.set_cons_zero, List.set_cons_succ]
      go_wp2_with fail
      refine Hin7.out.mono ?_
      rintro e0 w0 ⟨⟨A1, k1', d1⟩, ⟨B1, j1', f1⟩, rfl, hnt, t0⟩
      have H0 := lh (And.intro (TabU.of hnt) t0)
      clear hnt t0
      go_wp2_with fail
      go_meet
      have tb := (Touch.refl [] w0).alloc (.cells #[.slice A1 k1' d1, .slice B1 j1' f1] 27)
      exact ⟨_, A1, k1', d1, B1, j1', f1, rfl, rfl, lh ⟨H0.out.2.trans0 tb, heap_alloc_new w0 _, ⟨_, _, H0.out.1.touch tb (by simp), by have := Hs7.out; omega⟩, H0.out.2.size⟩⟩
     case rest =>
      obtain ⟨mg, mA, mk, md, mB, mj, mf, rfl, rfl, Hm⟩ := hcut
      obtain ⟨w8, hw8⟩ : ∃ w8, w8 = wc := ⟨_, rfl⟩
      subst hw8
      clear Hin7 G7
      have T68 := lh (Ha.out.1.trans0 Hm.out.1)
      have Zb8 := lh (Hm.out.1.blk Zb7.out (by simp))
      have Hty8 := lh (Hty.out w8 T68.out)
      clear Hty Zb7
      go_upto_region 7 with fail
      go_cut [11, 12] (fun v1 v2 wx => v2 = .int .i64 et /\ Hid (Touch [] w8 wx))
      case first =>
       refine wp_region_lit (l := [_, _, _, _, _, _, _, _]) ?_
       refine wpList_load_mid rfl 49 (.tmp 3) rfl (w.heap.size + 1) 0 rfl [.int .i64 j0, .string j1, .slice (some ⟨w5.heap.size, 0, none⟩) 1 1, .int .i64 jck, .string jcn, .int .i64 jvk, .int .i64 jvn, .string jvt, .string jop, .slice DA dn dc, .slice NB nbn nbc, .slice EB ebn ebc, .slice OB obn obc, .slice GB gbn gbc, .slice BB bbn bbc, .int .i64 jcount] _ (rangeAt_blk Zb8.out) Tryz.underlying49 rfl (by kernel_rfl) ?_
       simp only [Act.put, List.setIfInBounds_toArray, List.set_cons_zero, List.set_cons_succ]
       go_wp2_with fail
       refine Hty8.out.mono ?_
       rintro e0 w0 ⟨⟨sA, sn, sc⟩, rfl, s1, s2, s3, s4, t0⟩
       have H0 := lh t0
       clear s1 s2 s3 s4 t0
       go_wp2_with fail
       go_meet
       exact ⟨rfl, H0⟩
      case rest =>
       obtain ⟨rfl, H9⟩ := hcut
       obtain ⟨w9, hw9⟩ : ∃ w9, w9 = wc := ⟨_, rfl⟩
       subst hw9
       clear Hty8
       have T69 := lh (T68.out.trans0 H9.out)
       have TW9 := lh (TW6.out.trans0 T69.out)
       have Ag9 := lh ((Hm.out.1.trans0 H9.out).blk Ha.out.2.1 (by simp))
       by_cases ht : et = 0
       ·subst ht
        by_cases hm1 : e1 = 0
        ·subst hm1
         have Zb9 := lh (H9.out.blk Zb8.out (by simp))
         have Mg9 := lh (H9.out.blk Hm.out.2.1 (by simp))
         have Hs9 := lh (show w.heap.size + 2 <= w9.heap.size by have := T69.out.size; have := Hs6.out; omega)
         have Ns9 := lh (Hns.out.touch0 T69.out)
         go_upto_region 12 with fail
         go_cut [] (fun wx => Hid (Touch [w.heap.size + 1] w9 wx /\ wx.heap[w.heap.size + 1]? = some (.cells #[.int .i64 j0, .string j1, .slice (some ⟨w9.heap.size, 0, none⟩) 1 1, .int .i64 jck, .string jcn, .int .i64 jvk, .int .i64 jvn, .string jvt, .string jop, .slice DA dn dc, .slice NB nbn nbc, .slice EB ebn ebc, .slice OB obn obc, .slice GB gbn gbc, .slice BB bbn bbc, .int .i64 jcount] 49 (0, 0)) /\ RdK pcE wx (some ⟨w9.heap.size, 0, none⟩) [scanC ⟨#[109, 105, 100]⟩]))
         case first =>
          have ta := (Touch.refl [w.heap.size + 1] w9).alloc (.cells #[.int .i64 1, .string ⟨#[109, 105, 100]⟩, .slice none 0 0, .int .i64 0, .string ⟨#[]⟩, .int .i64 0, .int .i64 0, .string ⟨#[]⟩, .string ⟨#[]⟩, .slice none 0 0, .slice none 0 0, .slice none 0 0, .slice none 0 0, .slice none 0 0, .slice none 0 0, .int .i64 0] 49)
          have hz := ((Touch.refl [] w9).alloc (.cells #[.int .i64 1, .string ⟨#[109, 105, 100]⟩, .slice none 0 0, .int .i64 0, .string ⟨#[]⟩, .int .i64 0, .int .i64 0, .string ⟨#[]⟩, .string ⟨#[]⟩, .slice none 0 0, .slice none 0 0, .slice none 0 0, .slice none 0 0, .slice none 0 0, .slice none 0 0, .int .i64 0] 49)).blk Zb9.out (by simp)
          have hq2 := (cell_blk hz rfl : (w9.alloc (.cells #[.int .i64 1, .string ⟨#[109, 105, 100]⟩, .slice none 0 0, .int .i64 0, .string ⟨#[]⟩, .int .i64 0, .int .i64 0, .string ⟨#[]⟩, .string ⟨#[]⟩, .slice none 0 0, .slice none 0 0, .slice none 0 0, .slice none 0 0, .slice none 0 0, .slice none 0 0, .int .i64 0] 49)).cell? ⟨w.heap.size + 1, 2, none⟩ = some (.slice (some ⟨w5.heap.size, 0, none⟩) 1 1))
          have hf2 := free_blk hz 2
          have HA5 := lh (And.intro ta (And.intro hz (RdK.one (enc := pcE) w9 49 (scanC ⟨#[109, 105, 100]⟩) #[.int .i64 1, .string ⟨#[109, 105, 100]⟩, .slice none 0 0, .int .i64 0, .string ⟨#[]⟩, .int .i64 0, .int .i64 0, .string ⟨#[]⟩, .string ⟨#[]⟩, .slice none 0 0, .slice none 0 0, .slice none 0 0, .slice none 0 0, .slice none 0 0, .slice none 0 0, .int .i64 0] rfl)))
          clear ta hz
          go_wp2_with fail
          go_meet
          obtain ⟨ta, hz, hr⟩ := HA5.out
          have tb := (Touch.refl [w.heap.size + 1] (w9.alloc (.cells #[.int .i64 1, .string ⟨#[109, 105, 100]⟩, .slice none 0 0, .int .i64 0, .string ⟨#[]⟩, .int .i64 0, .int .i64 0, .string ⟨#[]⟩, .string ⟨#[]⟩, .slice none 0 0, .slice none 0 0, .slice none 0 0, .slice none 0 0, .slice none 0 0, .slice none 0 0, .int .i64 0] 49))).setCell (p := ⟨w.heap.size + 1, 2, none⟩) (.inl (by simp)) (.slice (some ⟨w9.heap.size, 0, none⟩) 1 1)
          exact lh ⟨ta.trans tb (by simp), set_blk hz 2 _, RdK.touch hr tb (fun b hb hm => by have := Hs9.out; simp [fpo] at hb hm; omega)⟩
         case rest =>
          obtain ⟨w10, hw10⟩ : ∃ w10, w10 = wc := ⟨_, rfl⟩
          subst hw10
          have H10 := hcut
          have TW10 := lh (TW9.out.trans H10.out.1 (fun b hb => .inr (by simp at hb; omega)))
          have Mg10 := lh (H10.out.1.blk Mg9.out (by have := Hm.out.2.2.2; have := Hs7.out; simp; omega))
          have Ag10 := lh (H10.out.1.blk Ag9.out (by have := Ha.out.2.2.2; have := Hs6.out; simp; omega))
          have Hs10 := lh (show w.heap.size + 2 <= w10.heap.size by have := H10.out.1.size; have := Hs9.out; omega)
          have Mt10 := lh (show TabAt w10 ⟨mA, mk, md⟩ ⟨mB, mj, mf⟩ mcs mrows by
           obtain ⟨lo, hi, hU, hlo⟩ := Hm.out.2.2.1
           exact ((hU.touch H9.out (by simp)).touch H10.out.1 (fun b hb => by simp at hb; omega)).tab)
          have At10 := lh (show TabAt w10 ⟨aA, ak, ad⟩ ⟨aB, aj, af⟩ vcs vrows by
           obtain ⟨lo, hi, hU, hlo⟩ := Ha.out.2.2.1
           exact ((hU.touch (Hm.out.1.trans0 H9.out) (by simp)).touch H10.out.1 (fun b hb => by simp at hb; omega)).tab)
          have Hpx := lh (⟨HG.out.touch0 TW10.out, HPW.out.touch0 TW10.out, (HP.out.touch0 TW10.out).args ⟨A, n, c⟩, Hfd.out, Hfo.out, Hoa.out, Hob.out,
           ⟨_, rfl, RdK.touch (RdK.touch0 (RdK.touch HF.out.2.2.1 H6.out.1 (fun b hb hm => by have := HF.out.2.2.2.2.2.2.1 b hb; have := Hs3.out; simp at hm; omega)) T69.out) H10.out.1 (fun b hb hm => by have := HF.out.2.2.2.2.2.2.1 b hb; have := Hs3.out; simp at hm; omega), fun i i1 i2 => by
            have : i = 0 \/ i = 1 \/ i = 2 := by simp at i1; omega
            rcases this with rfl | rfl | rfl
            ·exact ⟨rfl, HX.out.touch0 TW10.out⟩
            ·exact ⟨rfl, HY.out.touch0 TW10.out⟩
            ·exact ⟨rfl, rfl, Nat.le_refl _, RdK.nil _ _ _, rfl, [], ⟨rfl, fun i h => absurd h (by simp)⟩, RdK.nil _ _ _⟩⟩,
           HF.out.1.trans (congrArg needI Hkd.out), RdK.touch (RdK.touch0 (RdK.touch HF.out.2.1 H6.out.1 (fun b hb hm => by have := HF.out.2.2.2.2.2.1 b hb; have := Hs3.out; simp at hm; omega)) T69.out) H10.out.1 (fun b hb hm => by have := HF.out.2.2.2.2.2.1 b hb; have := Hs3.out; simp at hm; omega), Hk1.out, Hon.out⟩ : NsAt w10 d o (⟨k0, k1, ⟨A, n, c⟩, ⟨⟨ck, cn, ⟨cvk, cvn, cvt⟩, cop⟩, CA, cnn, cc⟩, ⟨NA, nn, nc⟩, ⟨EA, en, ec⟩, ⟨OA, ol, oc⟩, ⟨GA, gn, gc⟩, ⟨BA, bn, bc⟩, count⟩ : PC) I 3 a ra b rb)
          have Hag10 := lh fun (J : Option Addr) (jc : Nat) w' (t : Touch [] w10 w') (hS : SrcsAt w' J (srcsM mcs mrows)) => Hag.out w9.heap.size w' (TW10.out.trans0 t) (Hpx.out.touch0 t) (RdK.touch0 H10.out.2.2 t) rfl rfl J jc hS
          clear Hag Hns Ns9
          go_upto_region 13 with fail
          go_cut [13, 14] (fun v1 v2 wx => ∃ (bg : Nat) (bA : Option Addr) (bk bd : Nat) (bB : Option Addr) (bj bf : Nat), v1 = .pointer (some ⟨bg, 0, none⟩) /\ v2 = .int .i64 er /\ Hid (Touch [] w10 wx /\ wx.heap[bg]? = some (.cells #[.slice bA bk bd, .slice bB bj bf] 27 (0, 0)) /\ TabAt wx ⟨bA, bk, bd⟩ ⟨bB, bj, bf⟩ vcs vrows))
          case first =>
           refine wp_region_lit (l := [_, _, _, _, _, _, _, _, _, _, _]) ?_
           refine wpList_load_mid rfl 49 (.tmp 3) rfl (w.heap.size + 1) 0 rfl [.int .i64 j0, .string j1, .slice (some ⟨w9.heap.size, 0, none⟩) 1 1, .int .i64 jck, .string jcn, .int .i64 jvk, .int .i64 jvn, .string jvt, .string jop, .slice DA dn dc, .slice NB nbn nbc, .slice EB ebn ebc, .slice OB obn obc, .slice GB gbn gbc, .slice BB bbn bbc, .int .i64 jcount] _ (rangeAt_blk H10.out.2.1) Tryz.underlying49 rfl (by kernel_rfl) ?_
           simp only [Act.put, List.setIfInBounds_toArray, List.set_cons_zero, List.set_cons_succ]
           obtain ⟨g0, g1, -, -⟩ := blk2 Mg10.out
           have ta := (Touch.refl [] w10).alloc (.cells #[.string ⟨#[109, 105, 100]⟩, .slice mA mk md, .slice mB mj mf] 36)
           have hS := RdK.one (enc := srE) w10 36 ⟨⟨#[109, 105, 100]⟩, ⟨mA, mk, md⟩, ⟨mB, mj, mf⟩⟩ #[.string ⟨#[109, 105, 100]⟩, .slice mA mk md, .slice mB mj mf] rfl
           have Hcc := lh ((Hag10.out (some ⟨w10.heap.size, 0, none⟩) 1 _ ta ⟨_, rfl, hS, fun i i1 i2 => by
            obtain rfl : i = 0 := by simp at i1; omega
            exact ⟨rfl, Mt10.out.touch0 ta⟩⟩))
           have Hta := lh ta
           clear ta hS
           go_wp2_with fail
           refine Hcc.out.mono ?_
           rintro e0 w0 ⟨⟨A1, k1', d1⟩, ⟨B1, j1', f1⟩, rfl, hnt, t0⟩
           have H0 := lh (And.intro hnt.tab (Hta.out.trans0 t0))
           clear hnt t0
           go_wp2_with fail
           go_meet
           have tb := (Touch.refl [] w0).alloc (.cells #[.slice A1 k1' d1, .slice B1 j1' f1] 27)
           exact ⟨_, A1, k1', d1, B1, j1', f1, rfl, rfl, lh ⟨H0.out.2.trans0 tb, heap_alloc_new w0 _, H0.out.1.touch0 tb⟩⟩
          case rest =>
           obtain ⟨bg, bA, bk, bd, bB, bj, bf, rfl, rfl, Hb⟩ := hcut
           obtain ⟨w11, hw11⟩ : ∃ w11, w11 = wc := ⟨_, rfl⟩
           subst hw11
           have TW11 := lh (TW10.out.trans0 Hb.out.1)
           have Ag11 := lh (Hb.out.1.blk Ag10.out (by simp))
           have At11 := lh (At10.out.touch0 Hb.out.1)
           obtain ⟨g0, g1, -, -⟩ := blk2 Ag11.out
           obtain ⟨y0, y1, -, -⟩ := blk2 Hb.out.2.1
           obtain rfl : ak = vcs.length := At11.out.n
           obtain rfl : aj = vrows.length := At11.out.m
           obtain rfl : bk = vcs.length := Hb.out.2.2.n
           obtain rfl : bj = vrows.length := Hb.out.2.2.m
           have Heq := lh (tabEqual_same aA aB bA bB ad af bd bf vcs.length vrows.length vcs vrows rfl rfl Hvr.out.2.2 w11 At11.out.cols Hb.out.2.2.cols At11.out.rws Hb.out.2.2.rws Hvr.out.1 Hvr.out.2.1)
           go_wp2_with fail
           refine Heq.out.mono ?_
           rintro e12 w12 ⟨rfl, t12⟩
           have H12 := lh (TW11.out.trans0 t12)
           clear t12
           go_wp2_with fail
           refine (Haw.out _ H12.out).mono ?_
           rintro e13 w13 ⟨rfl, t13⟩
           have H13 := lh (H12.out.trans0 t13)
           clear t13
           go_wp2_with fail
           go_ret
           exact ⟨rfl, H13.out⟩
        ·obtain ⟨rfl, rfl, rfl⟩ : er = e1 /\ vcs = [] /\ vrows = [] := by
          have h := He2.out rfl hm1
          exact ⟨congrArg (fun v : Int × List CD × List (List VD) => v.1) h, congrArg (fun v : Int × List CD × List (List VD) => v.2.1) h, congrArg (fun v : Int × List CD × List (List VD) => v.2.2) h⟩
         obtain ⟨lo, hi, hU, -⟩ := Ha.out.2.2.1
         obtain rfl : aj = 0 := hU.m
         obtain ⟨g0, g1, -, -⟩ := blk2 Ag9.out
         have hq : (er == 0) = false := by rw [beq_eq_false_iff_ne]; exact hm1
         clear hU hm1
         go_wp2_with fail
         refine (Haw.out _ TW9.out).mono ?_
         rintro e10 w10 ⟨rfl, t10⟩
         have H10 := lh (TW9.out.trans0 t10)
         clear t10
         go_wp2_with fail
         go_ret
         exact ⟨rfl, H10.out⟩
       ·obtain ⟨rfl, rfl, rfl⟩ : er = et /\ vcs = [] /\ vrows = [] := by
         have h := He1.out ht
         exact ⟨congrArg (fun v : Int × List CD × List (List VD) => v.1) h, congrArg (fun v : Int × List CD × List (List VD) => v.2.1) h, congrArg (fun v : Int × List CD × List (List VD) => v.2.2) h⟩
        obtain ⟨lo, hi, hU, -⟩ := Ha.out.2.2.1
        obtain rfl : aj = 0 := hU.m
        obtain ⟨g0, g1, -, -⟩ := blk2 Ag9.out
        have hq : (er == 0) = false := by rw [beq_eq_false_iff_ne]; exact ht
        clear hU ht
        go_wp2_with fail
        refine (Haw.out _ TW9.out).mono ?_
        rintro e10 w10 ⟨rfl, t10⟩
        have H10 := lh (TW9.out.trans0 t10)
        clear t10
        go_wp2_with fail
        go_ret
        exact ⟨rfl, H10.out⟩
theorem nest_law {m m' : Nat} (x : PC) (d : PD m) (sx rx sy ry : SL) (a b : List CD) (ra rb : List (List VD)) (z : PC) (o : PD m') (w : World) (hP : PlanAt w x d) (hX : TabAt w sx rx a ra) (hY : TabAt w sy ry b rb) (hZ : PlanAt w z o) (hd : d.In) (ho : o.In) (hta : TbIn a ra) (htb : TbIn b rb) (hG : NeedsAt w) (hPw : PowAt w) :
  Calls Tryz.prog 6 #[stVal x sx rx sy ry, z.val] w fun e w' => e = .returned (.bool true) /\ Touch [] w w' := by
 rcases Bool.eq_false_or_eq_true (smallT a ra) with h1 | h1
 ·rcases Bool.eq_false_or_eq_true (smallT b rb) with h2 | h2
  ·rcases Bool.eq_false_or_eq_true (smallPl d) with h3 | h3
   ·rcases Bool.eq_false_or_eq_true (smallPl o) with h4 | h4
    ·by_cases h5 : needI z.kind = 1
     ·by_cases h6 : x.kind = 1
      ·exact nest_a6 x d sx rx sy ry a b ra rb z o w hP hX hY hZ hd ho hta htb hG hPw h1 h2 h3 h4 h5 h6
      ·exact nest_b x d sx rx sy ry a b ra rb z o w hP hX hY hZ hd ho hta htb hG hPw h1 h2 h3 h4 h5 h6
     ·exact nest_a5 x d sx rx sy ry a b ra rb z o w hP hX hY hZ hd ho hta htb hG hPw h1 h2 h3 h4 h5
    ·exact nest_a4 x d sx rx sy ry a b ra rb z o w hP hX hY hZ hd ho hta htb hG hPw h1 h2 h3 h4
   ·exact nest_a3 x d sx rx sy ry a b ra rb z o w hP hX hY hZ hd ho hta htb hG hPw h1 h2 h3
  ·exact nest_a2 x d sx rx sy ry a b ra rb z o w hP hX hY hZ hd ho hta htb hG hPw h1 h2
 ·exact nest_a1 x d sx rx sy ry a b ra rb z o w hP hX hY hZ hd ho hta htb hG hPw h1
end
section
theorem bulk_le {H : Type} {d : DataW H} {ds gs : List (DataW H)} (h : Rows.uptoSmall H ((d :: ds) ++ gs) = true) : Rows.uptoBulk d <= 1048576 := by
 have h' : Rows.uptoBulkAll ((d :: ds) ++ gs) <= 1048576 := of_decide_eq_true h
 rw [List.cons_append] at h'
 simp only [Rows.uptoBulkAll] at h'
 omega
theorem bulk_le2 {H : Type} {c d : DataW H} {ds gs : List (DataW H)} (h : Rows.uptoSmall H ((c :: d :: ds) ++ gs) = true) : Rows.uptoBulk d <= 1048576 := by
 have h' : Rows.uptoBulkAll ((c :: d :: ds) ++ gs) <= 1048576 := of_decide_eq_true h
 rw [List.cons_append, List.cons_append] at h'
 simp only [Rows.uptoBulkAll] at h'
 omega
end
section
open Go.ChangeShapes Go.WideShapes Go.ChangeAt Go.RowKit
theorem gNd : Tryz.prog.globalNamed "bywash/relop.needs" = some 0 := by kernel_rfl
theorem gNdType : (Tryz.prog.globals[0]?).map (·.type) = some 124 := by kernel_rfl
theorem cellsN : Tryz.prog.cellsOf 124 = 10 := by kernel_rfl
theorem cellsI : Tryz.prog.cellsOf 3 = 1 := by kernel_rfl
theorem needs_at {W : World} (h : laidMetH Tryz.prog [("math/bits.deBruijn32tab", Rows.laid_math_bits_deBruijn32tab), ("math/bits.deBruijn64tab", Rows.laid_math_bits_deBruijn64tab), ("internal/strconv.uint64pow10", Rows.laid_internal_strconv_uint64pow10), ("bywash/relop.needs", Rows.laid_bywash_relop_needs)] W) : NeedsAt W := by
 have h' : laidMet Tryz.prog [("math/bits.deBruijn32tab", Rows.laid_math_bits_deBruijn32tab), ("math/bits.deBruijn64tab", Rows.laid_math_bits_deBruijn64tab), ("internal/strconv.uint64pow10", Rows.laid_internal_strconv_uint64pow10), ("bywash/relop.needs", Rows.laid_bywash_relop_needs)] W := h
 obtain ⟨ps, ⟨g0, t0, cs0, fuel0, p0, q0, _, _, _, _, ⟨g1, t1, cs1, fuel1, p1, q1, _, _, _, _, ⟨g2, t2, cs2, fuel2, p2, q2, _, _, _, _, ⟨g3, t3, cs3, fuel3, p3, q3, hg, hty, hvar, hd, _⟩, _⟩, _⟩, _⟩, _⟩ := h'
 obtain rfl := Option.some.inj (gNd.symm.trans hg)
 obtain rfl := Option.some.inj (gNdType.symm.trans hty)
 have hc := Lib.cells_of_tab (k := .i64) (zs := [0, 0, 1, 1, 2, 2, 1, 2, 1, 1]) Tryz.underlying124 Tryz.underlying3 cellsI cellsN hd
 have hcell := World.var?_cell gNd hvar
 intro k hk
 rw [hcell]
 have hc' : cs3[k]? = (([0, 0, 1, 1, 2, 2, 1, 2, 1, 1] : List Int).map fun z => Value.int .i64 z)[k]? := by rw [<- hc]; simp
 have hk' : k = 0 \/ k = 1 \/ k = 2 \/ k = 3 \/ k = 4 \/ k = 5 \/ k = 6 \/ k = 7 \/ k = 8 \/ k = 9 := by omega
 rcases hk' with rfl | rfl | rfl | rfl | rfl | rfl | rfl | rfl | rfl | rfl <;> simpa [needV] using hc'
def cellsOfData : DataW Unit -> List Value
 | .agg l => l.flatMap fun d => match d with
  | .lit (.int k z) => [.int k z]
  | _ => []
 | _ => []
def setRow (h : Array Obj) (g : Nat) (cs : List Value) : Array Obj := h.modify g fun o => match o with
 | .cells _ t frozen => .cells cs.toArray t frozen
 | o => o
noncomputable def laidWorld (os : Os) : World :=
 { World.holding Tryz.prog os ⟨#[], #[], []⟩ with
  heap := setRow (setRow (setRow (setRow (World.holding Tryz.prog os ⟨#[], #[], []⟩).heap 3 (cellsOfData Rows.laid_math_bits_deBruijn32tab)) 4 (cellsOfData Rows.laid_math_bits_deBruijn64tab)) 2 (cellsOfData Rows.laid_internal_strconv_uint64pow10)) 0 (cellsOfData Rows.laid_bywash_relop_needs) }
end
section
open Go.ChangeShapes Go.WideShapes Go.ChangeAt Go.RowKit
theorem gPw : Tryz.prog.globalNamed "internal/strconv.uint64pow10" = some 2 := by kernel_rfl
theorem gPwType : (Tryz.prog.globals[2]?).map (·.type) = some 267 := by kernel_rfl
theorem cellsP : Tryz.prog.cellsOf 267 = 20 := by kernel_rfl
theorem cellsU : Tryz.prog.cellsOf 184 = 1 := by kernel_rfl
theorem pow_data {H : Type} : (Rows.laid_internal_strconv_uint64pow10 : DataW H) = Lib.tabData .u64 Lib.pow10Tab := by rfl
theorem pow_at {W : World} (h : laidMetH Tryz.prog [("math/bits.deBruijn32tab", Rows.laid_math_bits_deBruijn32tab), ("math/bits.deBruijn64tab", Rows.laid_math_bits_deBruijn64tab), ("internal/strconv.uint64pow10", Rows.laid_internal_strconv_uint64pow10), ("bywash/relop.needs", Rows.laid_bywash_relop_needs)] W) : PowAt W := by
 have h' : laidMet Tryz.prog [("math/bits.deBruijn32tab", Rows.laid_math_bits_deBruijn32tab), ("math/bits.deBruijn64tab", Rows.laid_math_bits_deBruijn64tab), ("internal/strconv.uint64pow10", Rows.laid_internal_strconv_uint64pow10), ("bywash/relop.needs", Rows.laid_bywash_relop_needs)] W := h
 obtain ⟨ps, ⟨g0, t0, cs0, fuel0, p0, q0, _, _, _, _, ⟨g1, t1, cs1, fuel1, p1, q1, _, _, _, _, ⟨g2, t2, cs2, fuel2, p2, q2, hg, hty, hvar, hd, _⟩, _⟩, _⟩, _⟩ := h'
 obtain rfl := Option.some.inj (gPw.symm.trans hg)
 obtain rfl := Option.some.inj (gPwType.symm.trans hty)
 rw [pow_data] at hd
 have hc := Lib.cells_of_tab (k := .u64) (zs := Lib.pow10Tab) Tryz.underlying267 Tryz.underlying184 cellsU cellsP hd
 show W.var? _ _ = _
 rw [hvar, <- hc]
end
end Go.Proofs.YtafoklilkdnepaaGreatDoor
