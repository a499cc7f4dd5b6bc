/- Part 32 of the texts of this proof, one behind the other; each begins with its own sentence. No condition beyond those that its theorems state. -/
import Derived.Test.YtafoklilkdnepaaGreatDoorRt31
/- bywashlaw05.RelopTypes: true, at a scan of another name. (gen_rltypes.py B) -/
namespace Go.Proofs.YtafoklilkdnepaaGreatDoor
open Go.RowKit

set_option maxRecDepth 40000 in
set_option maxHeartbeats 12800000 in
theorem types_b {m : Nat} (x : PC) (d : PD m) (sx rx sy ry : SL) (a b : List CD) (ra rb : List (List VD)) (w : World) (hP : PlanAt w x d) (hX : TabAt w sx rx a ra) (hY : TabAt w sy ry b rb) (hd : d.In) (hta : TbIn a ra) (htb : TbIn b rb) (hG : NeedsAt w) (h1 : smallT a ra = true) (h2 : smallT b rb = true) (h3 : smallPl d = true) (hk1 : x.kind = 1) (hn1 : x.name ≠ ⟨#[120]⟩) (hn2 : x.name ≠ ⟨#[121]⟩) :
    Calls Tryz.prog 4 #[stVal x sx rx sy ry] w fun e w' => e = .returned (.bool true) ∧ Touch [] w w' := by
  have Hst := Lib.hid fun w' (t : Touch [] w w') => smallTable_any sx.A rx.A sx.c rx.c sx.n rx.n a ra hX.n.symm hX.m.symm ⟨by have := hta.n; have := hX.n; omega, fun c hc => ⟨by have := (hta.c c hc).1; omega, (hta.c c hc).2⟩⟩ ⟨by have := hta.m; have := hX.m; omega, fun r hr => ⟨by have := (hta.r r hr).1; omega, fun v hv => ((hta.r r hr).2 v hv).le' (by omega)⟩⟩ w' (hX.cols.touch0 t) (hX.rws.touch0 t)
  have Hsu := Lib.hid fun w' (t : Touch [] w w') => smallTable_any sy.A ry.A sy.c ry.c sy.n ry.n b rb hY.n.symm hY.m.symm ⟨by have := htb.n; have := hY.n; omega, fun c hc => ⟨by have := (htb.c c hc).1; omega, (htb.c c hc).2⟩⟩ ⟨by have := htb.m; have := hY.m; omega, fun r hr => ⟨by have := (htb.r r hr).1; omega, fun v hv => ((htb.r r hr).2 v hv).le' (by omega)⟩⟩ w' (hY.cols.touch0 t) (hY.rws.touch0 t)
  have Hsp := Lib.hid fun w' (t : Touch [] w w') => smallPlan_any m x d hd.ok w' (hP.touch0 t)
  have Haw := Lib.hid fun w' (t : Touch [] w w') => awake5_any w' (hG.touch0 t)
  have Hsc := Lib.hid fun w' => scans_any x sx rx sy ry w'
  have HP := Lib.hid hP
  have HX := Lib.hid hX
  have HY := Lib.hid hY
  have HD := Lib.hid hd
  have HTA := Lib.hid hta
  have HTB := Lib.hid htb
  have HG := Lib.hid hG
  have Hkd := Lib.hid hP.kind
  have Hnd := Lib.hid hP.name
  clear hP hX hY hd hta htb hG
  obtain ⟨k0, k1, ⟨A2, n2, c2'⟩, ⟨⟨ck, cn, ⟨cvk, cvn, cvt⟩, cop⟩, CA, cnn, cc⟩, ⟨NA, nn, nc⟩, ⟨EA, en, ec⟩, ⟨OA, ol, oc⟩, ⟨GA, gn, gc⟩, ⟨BA, bn, bc⟩, count⟩ := x
  obtain ⟨sxA, sxn, sxc⟩ := sx
  obtain ⟨rxA, rxn, rxc⟩ := rx
  obtain ⟨syA, syn, syc⟩ := sy
  obtain ⟨ryA, ryn, ryc⟩ := ry
  simp only [stVal, PC.val] at *
  have HV := Lib.hid (And.intro h1.symm (And.intro h2.symm h3.symm))
  rw [h1] at Hst
  rw [h2] at Hsu
  rw [h3] at Hsp
  clear h1 h2 h3
  try dsimp only at hk1 hn1 hn2
  subst hk1
  obtain ⟨W, hW⟩ : ∃ W, W = w.alloc (.cells #[.int .i64 1, .string k1, .slice A2 n2 c2', .int .i64 ck, .string cn, .int .i64 cvk, .int .i64 cvn, .string cvt, .string cop, .slice CA cnn cc, .slice NA nn nc, .slice EA en ec, .slice OA ol oc, .slice GA gn gc, .slice BA bn bc, .int .i64 count, .slice sxA sxn sxc, .slice rxA rxn rxc, .slice syA syn syc, .slice ryA ryn ryc] 55) := ⟨_, rfl⟩
  have t0 : Touch [] w W := hW ▸ (Touch.refl [] w).alloc _
  have hb0 := hW ▸ heap_alloc_new w (.cells #[.int .i64 1, .string k1, .slice A2 n2 c2', .int .i64 ck, .string cn, .int .i64 cvk, .int .i64 cvn, .string cvt, .string cop, .slice CA cnn cc, .slice NA nn nc, .slice EA en ec, .slice OA ol oc, .slice GA gn gc, .slice BA bn bc, .int .i64 count, .slice sxA sxn sxc, .slice rxA rxn rxc, .slice syA syn syc, .slice ryA ryn ryc] 55)
  have HW := Lib.hid hW
  have HT := Lib.hid t0
  have HB := Lib.hid hb0
  clear hW t0 hb0
  have z1 : ((k1 : ByteArray).toList == [120]) = decide ((k1 : ByteArray) = ⟨#[120]⟩) := lit_beq k1 [120] ⟨#[120]⟩ rfl
  have z2 : ((k1 : ByteArray).toList == [121]) = decide ((k1 : ByteArray) = ⟨#[121]⟩) := lit_beq k1 [121] ⟨#[121]⟩ rfl
  rw [decide_eq_false hn1] at z1
  rw [decide_eq_false hn2] at z2
  have hne : d.kind = 1 → d.name ≠ ⟨#[120]⟩ ∧ d.name ≠ ⟨#[121]⟩ := fun _ => ⟨Hnd.out ▸ hn1, Hnd.out ▸ hn2⟩
  obtain ⟨hva, hvb, hvp⟩ := HV.out
  have hfine := HD.out.fine (smallPl_true hvp.symm)
  have hsm := smallPl_true hvp.symm
  have hoa := HTA.out.tb hva.symm
  have hob := HTB.out.tb hvb.symm
  have Htl := Lib.hid fun (A : Option Addr) (n c : Nat) w' (t : Touch [] w w') => law5C d hfine ⟨1, k1, ⟨A, n, c⟩, ⟨⟨ck, cn, ⟨cvk, cvn, cvt⟩, cop⟩, CA, cnn, cc⟩, ⟨NA, nn, nc⟩, ⟨EA, en, ec⟩, ⟨OA, ol, oc⟩, ⟨GA, gn, gc⟩, ⟨BA, bn, bc⟩, count⟩ a ra b rb hoa hob w' ((HP.out.touch0 t).args ⟨A, n, c⟩) hne ⟨sxA, sxn, sxc⟩ ⟨rxA, rxn, rxc⟩ ⟨syA, syn, syc⟩ ⟨ryA, ryn, ryc⟩ (HX.out.touch0 t) (HY.out.touch0 t)
  have Hty := Lib.hid fun (A : Option Addr) (n c : Nat) (I : Option Addr) w' (t : Touch [] w w') (hn : (n : Int) = needI 1) (hA : RdK pcE w' A ([scanC ⟨#[120]⟩, scanC ⟨#[121]⟩].take n)) (hI : RdK srE w' I [⟨⟨#[120]⟩, ⟨sxA, sxn, sxc⟩, ⟨rxA, rxn, rxc⟩⟩, ⟨⟨#[121]⟩, ⟨syA, syn, syc⟩, ⟨ryA, ryn, ryc⟩⟩, ⟨⟨#[120]⟩, noS, noS⟩]) =>
    type_any ⟨1, k1, ⟨A, n, c⟩, ⟨⟨ck, cn, ⟨cvk, cvn, cvt⟩, cop⟩, CA, cnn, cc⟩, ⟨NA, nn, nc⟩, ⟨EA, en, ec⟩, ⟨OA, ol, oc⟩, ⟨GA, gn, gc⟩, ⟨BA, bn, bc⟩, count⟩ (1 + n) (by have := needI_le 1; omega) I 3 3 (progT d a ra b rb) w' (sizeC2 _ w' (by have := needI_le 1; show n ≤ 2; omega) hA) (progC d hfine ⟨1, k1, ⟨A, n, c⟩, ⟨⟨ck, cn, ⟨cvk, cvn, cvt⟩, cop⟩, CA, cnn, cc⟩, ⟨NA, nn, nc⟩, ⟨EA, en, ec⟩, ⟨OA, ol, oc⟩, ⟨GA, gn, gc⟩, ⟨BA, bn, bc⟩, count⟩ a ra b rb hoa hob w' (HG.out.touch0 t) ((HP.out.touch0 t).args ⟨A, n, c⟩) I 3
      ⟨_, rfl, hI, fun i i1 i2 => by
        have : i = 0 ∨ i = 1 ∨ i = 2 := by simp at i1; omega
        rcases this with rfl | rfl | rfl
        · exact ⟨rfl, HX.out.touch0 t⟩
        · exact ⟨rfl, HY.out.touch0 t⟩
        · exact ⟨rfl, rfl, Nat.le_refl _, RdK.nil _ _ _, rfl, [], ⟨rfl, fun i h => absurd h (by simp)⟩, RdK.nil _ _ _⟩⟩ (by rw [← Hkd.out]; exact hn) hA)
  have Hsz := Lib.hid fun (A : Option Addr) (n c : Nat) w' (hn : (n : Int) = needI 1) (hA : RdK pcE w' A ([scanC ⟨#[120]⟩, scanC ⟨#[121]⟩].take n)) => sizeC2 ⟨1, k1, ⟨A, n, c⟩, ⟨⟨ck, cn, ⟨cvk, cvn, cvt⟩, cop⟩, CA, cnn, cc⟩, ⟨NA, nn, nc⟩, ⟨EA, en, ec⟩, ⟨OA, ol, oc⟩, ⟨GA, gn, gc⟩, ⟨BA, bn, bc⟩, count⟩ w' (by have := needI_le 1; show n ≤ 2; omega) hA w' (Touch.refl _ _)
  have Heq := Lib.hid fun (A : Option Addr) (n c : Nat) w' (t : Touch [] w w') (hn : (n : Int) = needI 1) (hA : RdK pcE w' A ([scanC ⟨#[120]⟩, scanC ⟨#[121]⟩].take n)) => self_plan ⟨1, k1, ⟨A, n, c⟩, ⟨⟨ck, cn, ⟨cvk, cvn, cvt⟩, cop⟩, CA, cnn, cc⟩, ⟨NA, nn, nc⟩, ⟨EA, en, ec⟩, ⟨OA, ol, oc⟩, ⟨GA, gn, gc⟩, ⟨BA, bn, bc⟩, count⟩ d hsm w' ((HP.out.touch0 t).args ⟨A, n, c⟩) (by have := needI_le 1; show n ≤ 2; omega) hA
  have Her := Lib.hid (progT_err d a ra b rb hne)
  have hlc := progT_len d a ra b rb hne fun q1 q2 => (law_ok d a b (kind_ok d a b hoa.n hob.n hoa.c hob.c hfine.x hfine.n (fun p hp => (hfine.a p hp).2.2) hsm.n hsm.a hsm.e) q1 q2).2
  simp only [PC.val] at Htl Hty Hsz Heq
  obtain ⟨vv, hvv⟩ : ∃ v, v = progT d a ra b rb := ⟨_, rfl⟩
  rw [← hvv] at Htl Hty Her hlc
  obtain ⟨ver, vcs⟩ := vv
  dsimp only at Her hlc
  clear hvv hva hvb hvp hfine hsm hoa hob hne
  go_enter Tryz.func4, Tryz.ntmps4
  go_upto_region 1 with fail
  rw [← HW.out]
  go_cut [42] (fun c wx => c = .bool false ∧ Hid (Touch [] W wx))
  case first =>
    have B0 := HB.out
    have c0_16 : W.cell? ⟨w.heap.size, 16, none⟩ = some (.slice sxA sxn sxc) := cell_blk B0 rfl
    have c0_17 : W.cell? ⟨w.heap.size, 17, none⟩ = some (.slice rxA rxn rxc) := cell_blk B0 rfl
    clear B0
    go_wp2_with fail
    refine (Hst.out _ HT.out).mono ?_
    rintro e w1 ⟨rfl, t1⟩
    have T1 := Lib.hid ((Touch.refl [] W).trans0 t1)
    have B1 := Lib.hid (T1.out.blk HB.out (by simp))
    clear t1
    have c1_18 : w1.cell? ⟨w.heap.size, 18, none⟩ = some (.slice syA syn syc) := cell_blk B1.out rfl
    have c1_19 : w1.cell? ⟨w.heap.size, 19, none⟩ = some (.slice ryA ryn ryc) := cell_blk B1.out rfl
    go_wp2_with fail
    refine (Hsu.out _ (HT.out.trans0 T1.out)).mono ?_
    rintro e w2 ⟨rfl, t2⟩
    have T2 := Lib.hid (T1.out.trans0 t2)
    have B2 := Lib.hid (T2.out.blk HB.out (by simp))
    clear t2
    have c2_0 : w2.cell? ⟨w.heap.size, 0, none⟩ = some (.int .i64 1) := cell_blk B2.out rfl
    have c2_1 : w2.cell? ⟨w.heap.size, 1, none⟩ = some (.string k1) := cell_blk B2.out rfl
    have c2_2 : w2.cell? ⟨w.heap.size, 2, none⟩ = some (.slice A2 n2 c2') := cell_blk B2.out rfl
    have c2_3 : w2.cell? ⟨w.heap.size, 3, none⟩ = some (.int .i64 ck) := cell_blk B2.out rfl
    have c2_4 : w2.cell? ⟨w.heap.size, 4, none⟩ = some (.string cn) := cell_blk B2.out rfl
    have c2_5 : w2.cell? ⟨w.heap.size, 5, none⟩ = some (.int .i64 cvk) := cell_blk B2.out rfl
    have c2_6 : w2.cell? ⟨w.heap.size, 6, none⟩ = some (.int .i64 cvn) := cell_blk B2.out rfl
    have c2_7 : w2.cell? ⟨w.heap.size, 7, none⟩ = some (.string cvt) := cell_blk B2.out rfl
    have c2_8 : w2.cell? ⟨w.heap.size, 8, none⟩ = some (.string cop) := cell_blk B2.out rfl
    have c2_9 : w2.cell? ⟨w.heap.size, 9, none⟩ = some (.slice CA cnn cc) := cell_blk B2.out rfl
    have c2_10 : w2.cell? ⟨w.heap.size, 10, none⟩ = some (.slice NA nn nc) := cell_blk B2.out rfl
    have c2_11 : w2.cell? ⟨w.heap.size, 11, none⟩ = some (.slice EA en ec) := cell_blk B2.out rfl
    have c2_12 : w2.cell? ⟨w.heap.size, 12, none⟩ = some (.slice OA ol oc) := cell_blk B2.out rfl
    have c2_13 : w2.cell? ⟨w.heap.size, 13, none⟩ = some (.slice GA gn gc) := cell_blk B2.out rfl
    have c2_14 : w2.cell? ⟨w.heap.size, 14, none⟩ = some (.slice BA bn bc) := cell_blk B2.out rfl
    have c2_15 : w2.cell? ⟨w.heap.size, 15, none⟩ = some (.int .i64 count) := cell_blk B2.out rfl
    go_wp2_with fail
    refine (Hsp.out _ (HT.out.trans0 T2.out)).mono ?_
    rintro e w3 ⟨rfl, t3⟩
    have T3 := Lib.hid (T2.out.trans0 t3)
    have B3 := Lib.hid (T3.out.blk HB.out (by simp))
    clear t3
    clear c1_18 c1_19 c2_0 c2_1 c2_2 c2_3 c2_4 c2_5 c2_6 c2_7 c2_8 c2_9 c2_10 c2_11 c2_12 c2_13 c2_14 c2_15
    have c3_0 : w3.cell? ⟨w.heap.size, 0, none⟩ = some (.int .i64 1) := cell_blk B3.out rfl
    have c3_1 : w3.cell? ⟨w.heap.size, 1, none⟩ = some (.string k1) := cell_blk B3.out rfl
    go_wp2_with fail
    go_meet
    exact ⟨rfl, Lib.hid T3.out⟩
  case rest =>
    obtain ⟨rfl, T3⟩ := hcut
    obtain ⟨w3, hw3⟩ : ∃ w3, w3 = wc := ⟨_, rfl⟩
    subst hw3
    have D3 := Lib.hid (T3.out.blk HB.out (by simp))
    clear Hst Hsu Hsp HW
    go_upto_region 3 with fail
    go_cut [3, 4] (fun v3 v4 wx => ∃ (A : Option Addr) (n c : Nat) (I : Option Addr) (G : Nat), v3 = .pointer (some ⟨G, 0, none⟩) ∧ v4 = .slice I 3 3 ∧ Hid ((n : Int) = needI 1 ∧ RdK pcE wx A ([scanC ⟨#[120]⟩, scanC ⟨#[121]⟩].take n) ∧ RdK srE wx I [⟨⟨#[120]⟩, ⟨sxA, sxn, sxc⟩, ⟨rxA, rxn, rxc⟩⟩, ⟨⟨#[121]⟩, ⟨syA, syn, syc⟩, ⟨ryA, ryn, ryc⟩⟩, ⟨⟨#[120]⟩, noS, noS⟩] ∧ wx.heap[G]? = some (.cells #[.int .i64 1, .string k1, .slice A n c, .int .i64 ck, .string cn, .int .i64 cvk, .int .i64 cvn, .string cvt, .string cop, .slice CA cnn cc, .slice NA nn nc, .slice EA en ec, .slice OA ol oc, .slice GA gn gc, .slice BA bn bc, .int .i64 count] 49 (0, 0)) ∧ Touch [] w3 wx))
    case first =>
      refine wp_region_lit (l := [_, _, _, _, _, _, _, _]) ?_
      refine wpList_load_mid rfl 55 (.tmp 1) rfl w.heap.size 0 rfl [.int .i64 1, .string k1, .slice A2 n2 c2', .int .i64 ck, .string cn, .int .i64 cvk, .int .i64 cvn, .string cvt, .string cop, .slice CA cnn cc, .slice NA nn nc, .slice EA en ec, .slice OA ol oc, .slice GA gn gc, .slice BA bn bc, .int .i64 count, .slice sxA sxn sxc, .slice rxA rxn rxc, .slice syA syn syc, .slice ryA ryn ryc] _ (rangeAt_blk D3.out) Tryz.underlying55 rfl (by kernel_rfl) ?_
      simp only [Act.put, List.setIfInBounds_toArray, List.set_cons_zero, List.set_cons_succ]
      go_wp2_with fail
      refine (Hsc.out _).mono ?_
      rintro e w4 ⟨A, n, c, I, rfl, hn, hA, hI, t4⟩
      have ta := (Touch.refl [] w4).alloc (.cells #[.int .i64 1, .string k1, .slice A n c, .int .i64 ck, .string cn, .int .i64 cvk, .int .i64 cvn, .string cvt, .string cop, .slice CA cnn cc, .slice NA nn nc, .slice EA en ec, .slice OA ol oc, .slice GA gn gc, .slice BA bn bc, .int .i64 count] 49)
      have HF := Lib.hid (And.intro hn (And.intro (RdK.touch0 hA ta) (And.intro (RdK.touch0 hI ta) (And.intro (heap_alloc_new w4 (.cells #[.int .i64 1, .string k1, .slice A n c, .int .i64 ck, .string cn, .int .i64 cvk, .int .i64 cvn, .string cvt, .string cop, .slice CA cnn cc, .slice NA nn nc, .slice EA en ec, .slice OA ol oc, .slice GA gn gc, .slice BA bn bc, .int .i64 count] 49)) (t4.trans0 ta)))))
      clear hn hA hI t4 ta
      go_wp2_with fail
      go_meet
      exact ⟨A, n, c, I, _, rfl, rfl, HF⟩
    case rest =>
      obtain ⟨A, n, c, I, G, rfl, rfl, HF⟩ := hcut
      obtain ⟨w5, hw5⟩ : ∃ w5, w5 = wc := ⟨_, rfl⟩
      subst hw5
      clear Hsc D3
      have T5 := Lib.hid (T3.out.trans0 HF.out.2.2.2.2)
      have Hc6 := Lib.hid (Hty.out A n c I w5 (HT.out.trans0 T5.out) HF.out.1 HF.out.2.1 HF.out.2.2.1)
      clear Hty
      go_upto_region 4 with fail
      go_cut [5, 6] (fun v5 v6 wx => ∃ (sA : Option Addr) (sc : Nat), v5 = .slice sA vcs.length sc ∧ v6 = .int .i64 ver ∧ Hid (ColsAt wx sA vcs ∧ Touch [] w5 wx))
      case first =>
        refine wp_region_lit (l := [_, _, _, _, _, _, _, _]) ?_
        refine wpList_load_mid rfl 49 (.tmp 3) rfl G 0 rfl [.int .i64 1, .string k1, .slice A n c, .int .i64 ck, .string cn, .int .i64 cvk, .int .i64 cvn, .string cvt, .string cop, .slice CA cnn cc, .slice NA nn nc, .slice EA en ec, .slice OA ol oc, .slice GA gn gc, .slice BA bn bc, .int .i64 count] _ (rangeAt_blk HF.out.2.2.2.1) Tryz.underlying49 rfl (by kernel_rfl) ?_
        simp only [Act.put, List.setIfInBounds_toArray, List.set_cons_zero, List.set_cons_succ]
        go_wp2_with fail
        refine Hc6.out.mono ?_
        rintro e w6 ⟨⟨sA, sn, sc⟩, rfl, s1, s2, s3, s4, t6⟩
        dsimp only at s1 s3
        subst s1
        have HS := Lib.hid (And.intro s3 t6)
        clear s2 s3 s4 t6
        go_wp2_with fail
        go_meet
        exact ⟨sA, sc, rfl, rfl, HS⟩
      case rest =>
        obtain ⟨sA, sc, rfl, rfl, HS⟩ := hcut
        obtain ⟨w6, hw6⟩ : ∃ w6, w6 = wc := ⟨_, rfl⟩
        subst hw6
        clear Hc6
        have T6 := Lib.hid (T5.out.trans0 HS.out.2)
        have B6 := Lib.hid (T6.out.blk HB.out (by simp))
        have G6 := Lib.hid (HS.out.2.blk HF.out.2.2.2.1 (by simp))
        have c6_16 : w6.cell? ⟨w.heap.size, 16, none⟩ = some (.slice sxA sxn sxc) := cell_blk B6.out rfl
        have c6_17 : w6.cell? ⟨w.heap.size, 17, none⟩ = some (.slice rxA rxn rxc) := cell_blk B6.out rfl
        have c6_18 : w6.cell? ⟨w.heap.size, 18, none⟩ = some (.slice syA syn syc) := cell_blk B6.out rfl
        have c6_19 : w6.cell? ⟨w.heap.size, 19, none⟩ = some (.slice ryA ryn ryc) := cell_blk B6.out rfl
        have Htl6 := Lib.hid (Htl.out A n c w6 (HT.out.trans0 T6.out))
        clear Htl
        go_upto_region 5 with fail
        go_cut [7, 8] (fun v7 v8 wx => ∃ (uA : Option Addr) (uc : Nat), v7 = .slice uA vcs.length uc ∧ v8 = .int .i64 ver ∧ Hid (ColsAt wx uA vcs ∧ Touch [] w6 wx))
        case first =>
          refine wp_region_lit (l := [_, _, _, _, _, _, _, _, _, _, _]) ?_
          refine wpList_load_mid rfl 49 (.tmp 3) rfl G 0 rfl [.int .i64 1, .string k1, .slice A n c, .int .i64 ck, .string cn, .int .i64 cvk, .int .i64 cvn, .string cvt, .string cop, .slice CA cnn cc, .slice NA nn nc, .slice EA en ec, .slice OA ol oc, .slice GA gn gc, .slice BA bn bc, .int .i64 count] _ (rangeAt_blk G6.out) Tryz.underlying49 rfl (by kernel_rfl) ?_
          simp only [Act.put, List.setIfInBounds_toArray, List.set_cons_zero, List.set_cons_succ]
          go_wp2_with fail
          refine Htl6.out.mono ?_
          rintro e w7 ⟨⟨uA, un, uc⟩, rfl, u1, u2, t7⟩
          dsimp only at u1 u2
          subst u1
          have HU := Lib.hid (And.intro u2 t7)
          clear u2 t7 c6_16 c6_17 c6_18 c6_19
          go_wp2_with fail
          go_meet
          exact ⟨uA, uc, rfl, rfl, HU⟩
        case rest =>
          obtain ⟨uA, uc, rfl, rfl, HU⟩ := hcut
          obtain ⟨w7, hw7⟩ : ∃ w7, w7 = wc := ⟨_, rfl⟩
          subst hw7
          clear Htl6 c6_16 c6_17 c6_18 c6_19
          have T7 := Lib.hid (T6.out.trans0 HU.out.2)
          have HE := Lib.hid fun w' (t : Touch [] w7 w') => schEqual_any sA uA sc uc vcs.length vcs.length vcs vcs rfl rfl w' (HS.out.1.touch0 (HU.out.2.trans0 t)) (HU.out.1.touch0 t) (by omega) (by omega)
          rw [(eqCs_iff vcs vcs).2 rfl] at HE
          have HA7 := Lib.hid (RdK.touch0 HF.out.2.1 (HS.out.2.trans0 HU.out.2))
          have Hz := Lib.hid fun w' (t : Touch [] w7 w') => Hsz.out A n c w' HF.out.1 (RdK.touch0 HA7.out t)
          have Hq := Lib.hid fun w' (t : Touch [] w7 w') => Heq.out A n c w' (HT.out.trans0 (T7.out.trans0 t)) HF.out.1 (RdK.touch0 HA7.out t)
          have Hw := Lib.hid fun w' (t : Touch [] w7 w') => Haw.out w' (HT.out.trans0 (T7.out.trans0 t))
          rw [show ((1 + n : Nat) : Int) = 1 + (n : Int) by omega] at Hz
          have hn3 : n ≤ 2 := by have := needI_le 1; have := HF.out.1; omega
          have hwr : IntKind.i64.wrap (1 + (n : Int)) = 1 + (n : Int) := IntWalk.i64_in _ (by omega)
          have heq2 : ((1 + (n : Int)) == (1 + (n : Int))) = true := by simp
          have hb7 := HU.out.2.blk G6.out (by simp)
          have HR7 : Hid (∀ x : TW w7, x.w.rangeAt G 0 [.int .i64 1, .string k1, .slice A n c, .int .i64 ck, .string cn, .int .i64 cvk, .int .i64 cvn, .string cvt, .string cop, .slice CA cnn cc, .slice NA nn nc, .slice EA en ec, .slice OA ol oc, .slice GA gn gc, .slice BA bn bc, .int .i64 count]) := Lib.hid fun x => rangeAt_blk (x.t.blk hb7 (by simp))
          have r2 := TW.cell (cell_blk (i := 2) hb7 rfl)
          clear hb7 Hsz Heq Haw HP HX HY HD HTA HTB HG HB
          by_cases hv0 : ver = 0
          · subst hv0
            clear Her
            go_wp2_with fail
            refine wp_region_tw w7 (Touch.refl _ _) (by kernel_rfl) (by kernel_rfl) ?_
            repeat (go_big_quiet_step (first | (go_at_call 18; exact Calls.tw _ (HE.out _ (TW.t _))) | (go_at_call 19; exact Calls.tw _ (Hz.out _ (TW.t _))) | (go_at_call 20; exact Calls.tw _ (Hq.out _ (TW.t _))) | (go_at_call 9; exact Calls.tw _ (Hw.out _ (TW.t _)))))
            refine BigFrame.wpQuiet_want (by rfl) (fun K hK => ?_)
            refine quiet_load_row 49 (.tmp 3) rfl G 0 rfl [.int .i64 1, .string k1, .slice A n c, .int .i64 ck, .string cn, .int .i64 cvk, .int .i64 cvn, .string cvt, .string cop, .slice CA cnn cc, .slice NA nn nc, .slice EA en ec, .slice OA ol oc, .slice GA gn gc, .slice BA bn bc, .int .i64 count] _ (by rintro _ ⟨x, rfl⟩; exact HR7.out x) Tryz.underlying49 rfl (by kernel_rfl) (hK _ ?_)
            clear hK K
            simp only [Act.put, List.setIfInBounds_toArray, List.set_cons_zero, List.set_cons_succ]
            repeat (go_big_quiet_step (first | (go_at_call 18; exact Calls.tw _ (HE.out _ (TW.t _))) | (go_at_call 19; exact Calls.tw _ (Hz.out _ (TW.t _))) | (go_at_call 20; exact Calls.tw _ (Hq.out _ (TW.t _))) | (go_at_call 9; exact Calls.tw _ (Hw.out _ (TW.t _)))))
            refine BigFrame.wpQuiet_want (by rfl) (fun K hK => ?_)
            refine quiet_load_row 49 (.tmp 3) rfl G 0 rfl [.int .i64 1, .string k1, .slice A n c, .int .i64 ck, .string cn, .int .i64 cvk, .int .i64 cvn, .string cvt, .string cop, .slice CA cnn cc, .slice NA nn nc, .slice EA en ec, .slice OA ol oc, .slice GA gn gc, .slice BA bn bc, .int .i64 count] _ (by rintro _ ⟨x, rfl⟩; exact HR7.out x) Tryz.underlying49 rfl (by kernel_rfl) (hK _ ?_)
            clear hK K
            simp only [Act.put, List.setIfInBounds_toArray, List.set_cons_zero, List.set_cons_succ]
            refine BigFrame.wpQuiet_want (by rfl) (fun K hK => ?_)
            refine quiet_load_row 49 (.tmp 3) rfl G 0 rfl [.int .i64 1, .string k1, .slice A n c, .int .i64 ck, .string cn, .int .i64 cvk, .int .i64 cvn, .string cvt, .string cop, .slice CA cnn cc, .slice NA nn nc, .slice EA en ec, .slice OA ol oc, .slice GA gn gc, .slice BA bn bc, .int .i64 count] _ (by rintro _ ⟨x, rfl⟩; exact HR7.out x) Tryz.underlying49 rfl (by kernel_rfl) (hK _ ?_)
            clear hK K
            simp only [Act.put, List.setIfInBounds_toArray, List.set_cons_zero, List.set_cons_succ]
            repeat (go_big_quiet_step (first | (go_at_call 18; exact Calls.tw _ (HE.out _ (TW.t _))) | (go_at_call 19; exact Calls.tw _ (Hz.out _ (TW.t _))) | (go_at_call 20; exact Calls.tw _ (Hq.out _ (TW.t _))) | (go_at_call 9; exact Calls.tw _ (Hw.out _ (TW.t _)))))
            refine wpQuiet_nil ?_
            rintro _ ⟨x9, rfl⟩
            go_wp2
            go_ret
            exact ⟨rfl, HT.out.trans0 (T7.out.trans0 x9.t)⟩
          · have hl0 : vcs.length = 0 := by rw [Her.out hv0]; rfl
            have hq1x : ((vcs.length : Int) == 0) = true := by rw [hl0]; rfl
            have hq0 : (ver == 0) = false := by rw [beq_eq_false_iff_ne]; exact hv0
            clear hv0 Her hl0
            go_wp2_with fail
            refine wp_region_tw w7 (Touch.refl _ _) (by kernel_rfl) (by kernel_rfl) ?_
            repeat (go_big_quiet_step (first | (go_at_call 18; exact Calls.tw _ (HE.out _ (TW.t _))) | (go_at_call 19; exact Calls.tw _ (Hz.out _ (TW.t _))) | (go_at_call 20; exact Calls.tw _ (Hq.out _ (TW.t _))) | (go_at_call 9; exact Calls.tw _ (Hw.out _ (TW.t _)))))
            refine BigFrame.wpQuiet_want (by rfl) (fun K hK => ?_)
            refine quiet_load_row 49 (.tmp 3) rfl G 0 rfl [.int .i64 1, .string k1, .slice A n c, .int .i64 ck, .string cn, .int .i64 cvk, .int .i64 cvn, .string cvt, .string cop, .slice CA cnn cc, .slice NA nn nc, .slice EA en ec, .slice OA ol oc, .slice GA gn gc, .slice BA bn bc, .int .i64 count] _ (by rintro _ ⟨x, rfl⟩; exact HR7.out x) Tryz.underlying49 rfl (by kernel_rfl) (hK _ ?_)
            clear hK K
            simp only [Act.put, List.setIfInBounds_toArray, List.set_cons_zero, List.set_cons_succ]
            repeat (go_big_quiet_step (first | (go_at_call 18; exact Calls.tw _ (HE.out _ (TW.t _))) | (go_at_call 19; exact Calls.tw _ (Hz.out _ (TW.t _))) | (go_at_call 20; exact Calls.tw _ (Hq.out _ (TW.t _))) | (go_at_call 9; exact Calls.tw _ (Hw.out _ (TW.t _)))))
            refine BigFrame.wpQuiet_want (by rfl) (fun K hK => ?_)
            refine quiet_load_row 49 (.tmp 3) rfl G 0 rfl [.int .i64 1, .string k1, .slice A n c, .int .i64 ck, .string cn, .int .i64 cvk, .int .i64 cvn, .string cvt, .string cop, .slice CA cnn cc, .slice NA nn nc, .slice EA en ec, .slice OA ol oc, .slice GA gn gc, .slice BA bn bc, .int .i64 count] _ (by rintro _ ⟨x, rfl⟩; exact HR7.out x) Tryz.underlying49 rfl (by kernel_rfl) (hK _ ?_)
            clear hK K
            simp only [Act.put, List.setIfInBounds_toArray, List.set_cons_zero, List.set_cons_succ]
            refine BigFrame.wpQuiet_want (by rfl) (fun K hK => ?_)
            refine quiet_load_row 49 (.tmp 3) rfl G 0 rfl [.int .i64 1, .string k1, .slice A n c, .int .i64 ck, .string cn, .int .i64 cvk, .int .i64 cvn, .string cvt, .string cop, .slice CA cnn cc, .slice NA nn nc, .slice EA en ec, .slice OA ol oc, .slice GA gn gc, .slice BA bn bc, .int .i64 count] _ (by rintro _ ⟨x, rfl⟩; exact HR7.out x) Tryz.underlying49 rfl (by kernel_rfl) (hK _ ?_)
            clear hK K
            simp only [Act.put, List.setIfInBounds_toArray, List.set_cons_zero, List.set_cons_succ]
            repeat (go_big_quiet_step (first | (go_at_call 18; exact Calls.tw _ (HE.out _ (TW.t _))) | (go_at_call 19; exact Calls.tw _ (Hz.out _ (TW.t _))) | (go_at_call 20; exact Calls.tw _ (Hq.out _ (TW.t _))) | (go_at_call 9; exact Calls.tw _ (Hw.out _ (TW.t _)))))
            refine wpQuiet_nil ?_
            rintro _ ⟨x9, rfl⟩
            go_wp2
            go_ret
            exact ⟨rfl, HT.out.trans0 (T7.out.trans0 x9.t)⟩
end Go.Proofs.YtafoklilkdnepaaGreatDoor
