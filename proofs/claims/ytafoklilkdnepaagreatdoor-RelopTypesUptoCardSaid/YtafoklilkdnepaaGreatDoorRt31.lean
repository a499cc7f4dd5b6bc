/- Part 31 of the texts of this proof, one behind the other; each begins with its own sentence. No condition beyond those that its theorems state. -/
import Derived.Test.YtafoklilkdnepaaGreatDoorRt30
/- bywashlaw05.RelopTypes: true, where something is too large, or the plan is a scan of x or y. (gen_rltypes.py A) -/
namespace Go.Proofs.YtafoklilkdnepaaGreatDoor
open Go.RowKit

set_option maxRecDepth 40000 in
set_option maxHeartbeats 12800000 in
theorem types_a1 {m : Nat} (x : PC) (d : PD m) (sx rx sy ry : SL) (a b : List CD) (ra rb : List (List VD)) (w : World) (hP : PlanAt w x d) (hX : TabAt w sx rx a ra) (hY : TabAt w sy ry b rb) (hd : d.In) (hta : TbIn a ra) (htb : TbIn b rb) (hG : NeedsAt w) (h1 : smallT a ra = false) :
    Calls Tryz.prog 4 #[stVal x sx rx sy ry] w fun e w' => e = .returned (.bool true) ∧ Touch [] w w' := by
  have Hst := Lib.hid fun w' (t : Touch [] w w') => smallTable_any sx.A rx.A sx.c rx.c sx.n rx.n a ra hX.n.symm hX.m.symm ⟨by have := hta.n; have := hX.n; omega, fun c hc => ⟨by have := (hta.c c hc).1; omega, (hta.c c hc).2⟩⟩ ⟨by have := hta.m; have := hX.m; omega, fun r hr => ⟨by have := (hta.r r hr).1; omega, fun v hv => ((hta.r r hr).2 v hv).le' (by omega)⟩⟩ w' (hX.cols.touch0 t) (hX.rws.touch0 t)
  have Hsu := Lib.hid fun w' (t : Touch [] w w') => smallTable_any sy.A ry.A sy.c ry.c sy.n ry.n b rb hY.n.symm hY.m.symm ⟨by have := htb.n; have := hY.n; omega, fun c hc => ⟨by have := (htb.c c hc).1; omega, (htb.c c hc).2⟩⟩ ⟨by have := htb.m; have := hY.m; omega, fun r hr => ⟨by have := (htb.r r hr).1; omega, fun v hv => ((htb.r r hr).2 v hv).le' (by omega)⟩⟩ w' (hY.cols.touch0 t) (hY.rws.touch0 t)
  have Hsp := Lib.hid fun w' (t : Touch [] w w') => smallPlan_any m x d hd.ok w' (hP.touch0 t)
  have Haw := Lib.hid fun w' (t : Touch [] w w') => awake5_any w' (hG.touch0 t)
  have Hsc := Lib.hid fun w' => scans_any x sx rx sy ry w'
  have HP := Lib.hid hP
  have HX := Lib.hid hX
  have HY := Lib.hid hY
  have HD := Lib.hid hd
  have HTA := Lib.hid hta
  have HTB := Lib.hid htb
  have HG := Lib.hid hG
  have Hkd := Lib.hid hP.kind
  have Hnd := Lib.hid hP.name
  clear hP hX hY hd hta htb hG
  obtain ⟨k0, k1, ⟨A2, n2, c2'⟩, ⟨⟨ck, cn, ⟨cvk, cvn, cvt⟩, cop⟩, CA, cnn, cc⟩, ⟨NA, nn, nc⟩, ⟨EA, en, ec⟩, ⟨OA, ol, oc⟩, ⟨GA, gn, gc⟩, ⟨BA, bn, bc⟩, count⟩ := x
  obtain ⟨sxA, sxn, sxc⟩ := sx
  obtain ⟨rxA, rxn, rxc⟩ := rx
  obtain ⟨syA, syn, syc⟩ := sy
  obtain ⟨ryA, ryn, ryc⟩ := ry
  simp only [stVal, PC.val] at *
  rw [h1] at Hst
  clear h1
  obtain ⟨W, hW⟩ : ∃ W, W = w.alloc (.cells #[.int .i64 k0, .string k1, .slice A2 n2 c2', .int .i64 ck, .string cn, .int .i64 cvk, .int .i64 cvn, .string cvt, .string cop, .slice CA cnn cc, .slice NA nn nc, .slice EA en ec, .slice OA ol oc, .slice GA gn gc, .slice BA bn bc, .int .i64 count, .slice sxA sxn sxc, .slice rxA rxn rxc, .slice syA syn syc, .slice ryA ryn ryc] 55) := ⟨_, rfl⟩
  have t0 : Touch [] w W := hW ▸ (Touch.refl [] w).alloc _
  have hb0 := hW ▸ heap_alloc_new w (.cells #[.int .i64 k0, .string k1, .slice A2 n2 c2', .int .i64 ck, .string cn, .int .i64 cvk, .int .i64 cvn, .string cvt, .string cop, .slice CA cnn cc, .slice NA nn nc, .slice EA en ec, .slice OA ol oc, .slice GA gn gc, .slice BA bn bc, .int .i64 count, .slice sxA sxn sxc, .slice rxA rxn rxc, .slice syA syn syc, .slice ryA ryn ryc] 55)
  have HW := Lib.hid hW
  have HT := Lib.hid t0
  have HB := Lib.hid hb0
  clear hW t0 hb0
  have z1 : ((k1 : ByteArray).toList == [120]) = decide ((k1 : ByteArray) = ⟨#[120]⟩) := lit_beq k1 [120] ⟨#[120]⟩ rfl
  have z2 : ((k1 : ByteArray).toList == [121]) = decide ((k1 : ByteArray) = ⟨#[121]⟩) := lit_beq k1 [121] ⟨#[121]⟩ rfl
  go_enter Tryz.func4, Tryz.ntmps4
  go_wp2_with fail
  rw [← HW.out]
  refine (Hst.out _ HT.out).mono ?_
  rintro e w1 ⟨rfl, t1⟩
  have T1 := Lib.hid ((Touch.refl [] W).trans0 t1)
  have B1 := Lib.hid (T1.out.blk HB.out (by simp))
  clear t1
  go_wp2_with fail
  refine (Haw.out _ (HT.out.trans0 T1.out)).mono ?_
  rintro e w9 ⟨rfl, t9⟩
  have HT9 := Lib.hid ((HT.out.trans0 T1.out).trans0 t9)
  clear t9
  go_wp2_with fail
  go_ret
  exact ⟨rfl, HT9.out⟩
set_option maxRecDepth 40000 in
set_option maxHeartbeats 12800000 in
theorem types_a2 {m : Nat} (x : PC) (d : PD m) (sx rx sy ry : SL) (a b : List CD) (ra rb : List (List VD)) (w : World) (hP : PlanAt w x d) (hX : TabAt w sx rx a ra) (hY : TabAt w sy ry b rb) (hd : d.In) (hta : TbIn a ra) (htb : TbIn b rb) (hG : NeedsAt w) (h1 : smallT a ra = true) (h2 : smallT b rb = false) :
    Calls Tryz.prog 4 #[stVal x sx rx sy ry] w fun e w' => e = .returned (.bool true) ∧ Touch [] w w' := by
  have Hst := Lib.hid fun w' (t : Touch [] w w') => smallTable_any sx.A rx.A sx.c rx.c sx.n rx.n a ra hX.n.symm hX.m.symm ⟨by have := hta.n; have := hX.n; omega, fun c hc => ⟨by have := (hta.c c hc).1; omega, (hta.c c hc).2⟩⟩ ⟨by have := hta.m; have := hX.m; omega, fun r hr => ⟨by have := (hta.r r hr).1; omega, fun v hv => ((hta.r r hr).2 v hv).le' (by omega)⟩⟩ w' (hX.cols.touch0 t) (hX.rws.touch0 t)
  have Hsu := Lib.hid fun w' (t : Touch [] w w') => smallTable_any sy.A ry.A sy.c ry.c sy.n ry.n b rb hY.n.symm hY.m.symm ⟨by have := htb.n; have := hY.n; omega, fun c hc => ⟨by have := (htb.c c hc).1; omega, (htb.c c hc).2⟩⟩ ⟨by have := htb.m; have := hY.m; omega, fun r hr => ⟨by have := (htb.r r hr).1; omega, fun v hv => ((htb.r r hr).2 v hv).le' (by omega)⟩⟩ w' (hY.cols.touch0 t) (hY.rws.touch0 t)
  have Hsp := Lib.hid fun w' (t : Touch [] w w') => smallPlan_any m x d hd.ok w' (hP.touch0 t)
  have Haw := Lib.hid fun w' (t : Touch [] w w') => awake5_any w' (hG.touch0 t)
  have Hsc := Lib.hid fun w' => scans_any x sx rx sy ry w'
  have HP := Lib.hid hP
  have HX := Lib.hid hX
  have HY := Lib.hid hY
  have HD := Lib.hid hd
  have HTA := Lib.hid hta
  have HTB := Lib.hid htb
  have HG := Lib.hid hG
  have Hkd := Lib.hid hP.kind
  have Hnd := Lib.hid hP.name
  clear hP hX hY hd hta htb hG
  obtain ⟨k0, k1, ⟨A2, n2, c2'⟩, ⟨⟨ck, cn, ⟨cvk, cvn, cvt⟩, cop⟩, CA, cnn, cc⟩, ⟨NA, nn, nc⟩, ⟨EA, en, ec⟩, ⟨OA, ol, oc⟩, ⟨GA, gn, gc⟩, ⟨BA, bn, bc⟩, count⟩ := x
  obtain ⟨sxA, sxn, sxc⟩ := sx
  obtain ⟨rxA, rxn, rxc⟩ := rx
  obtain ⟨syA, syn, syc⟩ := sy
  obtain ⟨ryA, ryn, ryc⟩ := ry
  simp only [stVal, PC.val] at *
  rw [h1] at Hst
  rw [h2] at Hsu
  clear h1 h2
  obtain ⟨W, hW⟩ : ∃ W, W = w.alloc (.cells #[.int .i64 k0, .string k1, .slice A2 n2 c2', .int .i64 ck, .string cn, .int .i64 cvk, .int .i64 cvn, .string cvt, .string cop, .slice CA cnn cc, .slice NA nn nc, .slice EA en ec, .slice OA ol oc, .slice GA gn gc, .slice BA bn bc, .int .i64 count, .slice sxA sxn sxc, .slice rxA rxn rxc, .slice syA syn syc, .slice ryA ryn ryc] 55) := ⟨_, rfl⟩
  have t0 : Touch [] w W := hW ▸ (Touch.refl [] w).alloc _
  have hb0 := hW ▸ heap_alloc_new w (.cells #[.int .i64 k0, .string k1, .slice A2 n2 c2', .int .i64 ck, .string cn, .int .i64 cvk, .int .i64 cvn, .string cvt, .string cop, .slice CA cnn cc, .slice NA nn nc, .slice EA en ec, .slice OA ol oc, .slice GA gn gc, .slice BA bn bc, .int .i64 count, .slice sxA sxn sxc, .slice rxA rxn rxc, .slice syA syn syc, .slice ryA ryn ryc] 55)
  have HW := Lib.hid hW
  have HT := Lib.hid t0
  have HB := Lib.hid hb0
  clear hW t0 hb0
  have z1 : ((k1 : ByteArray).toList == [120]) = decide ((k1 : ByteArray) = ⟨#[120]⟩) := lit_beq k1 [120] ⟨#[120]⟩ rfl
  have z2 : ((k1 : ByteArray).toList == [121]) = decide ((k1 : ByteArray) = ⟨#[121]⟩) := lit_beq k1 [121] ⟨#[121]⟩ rfl
  go_enter Tryz.func4, Tryz.ntmps4
  go_wp2_with fail
  rw [← HW.out]
  refine (Hst.out _ HT.out).mono ?_
  rintro e w1 ⟨rfl, t1⟩
  have T1 := Lib.hid ((Touch.refl [] W).trans0 t1)
  have B1 := Lib.hid (T1.out.blk HB.out (by simp))
  clear t1
  have c1_18 : w1.cell? ⟨w.heap.size, 18, none⟩ = some (.slice syA syn syc) := cell_blk B1.out rfl
  have c1_19 : w1.cell? ⟨w.heap.size, 19, none⟩ = some (.slice ryA ryn ryc) := cell_blk B1.out rfl
  go_wp2_with fail
  refine (Hsu.out _ (HT.out.trans0 T1.out)).mono ?_
  rintro e w2 ⟨rfl, t2⟩
  have T2 := Lib.hid (T1.out.trans0 t2)
  have B2 := Lib.hid (T2.out.blk HB.out (by simp))
  clear t2
  go_wp2_with fail
  refine (Haw.out _ (HT.out.trans0 T2.out)).mono ?_
  rintro e w9 ⟨rfl, t9⟩
  have HT9 := Lib.hid ((HT.out.trans0 T2.out).trans0 t9)
  clear t9
  go_wp2_with fail
  go_ret
  exact ⟨rfl, HT9.out⟩
set_option maxRecDepth 40000 in
set_option maxHeartbeats 12800000 in
theorem types_a3 {m : Nat} (x : PC) (d : PD m) (sx rx sy ry : SL) (a b : List CD) (ra rb : List (List VD)) (w : World) (hP : PlanAt w x d) (hX : TabAt w sx rx a ra) (hY : TabAt w sy ry b rb) (hd : d.In) (hta : TbIn a ra) (htb : TbIn b rb) (hG : NeedsAt w) (h1 : smallT a ra = true) (h2 : smallT b rb = true) (h3 : smallPl d = false) :
    Calls Tryz.prog 4 #[stVal x sx rx sy ry] w fun e w' => e = .returned (.bool true) ∧ Touch [] w w' := by
  have Hst := Lib.hid fun w' (t : Touch [] w w') => smallTable_any sx.A rx.A sx.c rx.c sx.n rx.n a ra hX.n.symm hX.m.symm ⟨by have := hta.n; have := hX.n; omega, fun c hc => ⟨by have := (hta.c c hc).1; omega, (hta.c c hc).2⟩⟩ ⟨by have := hta.m; have := hX.m; omega, fun r hr => ⟨by have := (hta.r r hr).1; omega, fun v hv => ((hta.r r hr).2 v hv).le' (by omega)⟩⟩ w' (hX.cols.touch0 t) (hX.rws.touch0 t)
  have Hsu := Lib.hid fun w' (t : Touch [] w w') => smallTable_any sy.A ry.A sy.c ry.c sy.n ry.n b rb hY.n.symm hY.m.symm ⟨by have := htb.n; have := hY.n; omega, fun c hc => ⟨by have := (htb.c c hc).1; omega, (htb.c c hc).2⟩⟩ ⟨by have := htb.m; have := hY.m; omega, fun r hr => ⟨by have := (htb.r r hr).1; omega, fun v hv => ((htb.r r hr).2 v hv).le' (by omega)⟩⟩ w' (hY.cols.touch0 t) (hY.rws.touch0 t)
  have Hsp := Lib.hid fun w' (t : Touch [] w w') => smallPlan_any m x d hd.ok w' (hP.touch0 t)
  have Haw := Lib.hid fun w' (t : Touch [] w w') => awake5_any w' (hG.touch0 t)
  have Hsc := Lib.hid fun w' => scans_any x sx rx sy ry w'
  have HP := Lib.hid hP
  have HX := Lib.hid hX
  have HY := Lib.hid hY
  have HD := Lib.hid hd
  have HTA := Lib.hid hta
  have HTB := Lib.hid htb
  have HG := Lib.hid hG
  have Hkd := Lib.hid hP.kind
  have Hnd := Lib.hid hP.name
  clear hP hX hY hd hta htb hG
  obtain ⟨k0, k1, ⟨A2, n2, c2'⟩, ⟨⟨ck, cn, ⟨cvk, cvn, cvt⟩, cop⟩, CA, cnn, cc⟩, ⟨NA, nn, nc⟩, ⟨EA, en, ec⟩, ⟨OA, ol, oc⟩, ⟨GA, gn, gc⟩, ⟨BA, bn, bc⟩, count⟩ := x
  obtain ⟨sxA, sxn, sxc⟩ := sx
  obtain ⟨rxA, rxn, rxc⟩ := rx
  obtain ⟨syA, syn, syc⟩ := sy
  obtain ⟨ryA, ryn, ryc⟩ := ry
  simp only [stVal, PC.val] at *
  rw [h1] at Hst
  rw [h2] at Hsu
  rw [h3] at Hsp
  clear h1 h2 h3
  obtain ⟨W, hW⟩ : ∃ W, W = w.alloc (.cells #[.int .i64 k0, .string k1, .slice A2 n2 c2', .int .i64 ck, .string cn, .int .i64 cvk, .int .i64 cvn, .string cvt, .string cop, .slice CA cnn cc, .slice NA nn nc, .slice EA en ec, .slice OA ol oc, .slice GA gn gc, .slice BA bn bc, .int .i64 count, .slice sxA sxn sxc, .slice rxA rxn rxc, .slice syA syn syc, .slice ryA ryn ryc] 55) := ⟨_, rfl⟩
  have t0 : Touch [] w W := hW ▸ (Touch.refl [] w).alloc _
  have hb0 := hW ▸ heap_alloc_new w (.cells #[.int .i64 k0, .string k1, .slice A2 n2 c2', .int .i64 ck, .string cn, .int .i64 cvk, .int .i64 cvn, .string cvt, .string cop, .slice CA cnn cc, .slice NA nn nc, .slice EA en ec, .slice OA ol oc, .slice GA gn gc, .slice BA bn bc, .int .i64 count, .slice sxA sxn sxc, .slice rxA rxn rxc, .slice syA syn syc, .slice ryA ryn ryc] 55)
  have HW := Lib.hid hW
  have HT := Lib.hid t0
  have HB := Lib.hid hb0
  clear hW t0 hb0
  have z1 : ((k1 : ByteArray).toList == [120]) = decide ((k1 : ByteArray) = ⟨#[120]⟩) := lit_beq k1 [120] ⟨#[120]⟩ rfl
  have z2 : ((k1 : ByteArray).toList == [121]) = decide ((k1 : ByteArray) = ⟨#[121]⟩) := lit_beq k1 [121] ⟨#[121]⟩ rfl
  go_enter Tryz.func4, Tryz.ntmps4
  go_wp2_with fail
  rw [← HW.out]
  refine (Hst.out _ HT.out).mono ?_
  rintro e w1 ⟨rfl, t1⟩
  have T1 := Lib.hid ((Touch.refl [] W).trans0 t1)
  have B1 := Lib.hid (T1.out.blk HB.out (by simp))
  clear t1
  have c1_18 : w1.cell? ⟨w.heap.size, 18, none⟩ = some (.slice syA syn syc) := cell_blk B1.out rfl
  have c1_19 : w1.cell? ⟨w.heap.size, 19, none⟩ = some (.slice ryA ryn ryc) := cell_blk B1.out rfl
  go_wp2_with fail
  refine (Hsu.out _ (HT.out.trans0 T1.out)).mono ?_
  rintro e w2 ⟨rfl, t2⟩
  have T2 := Lib.hid (T1.out.trans0 t2)
  have B2 := Lib.hid (T2.out.blk HB.out (by simp))
  clear t2
  have c2_0 : w2.cell? ⟨w.heap.size, 0, none⟩ = some (.int .i64 k0) := cell_blk B2.out rfl
  have c2_1 : w2.cell? ⟨w.heap.size, 1, none⟩ = some (.string k1) := cell_blk B2.out rfl
  have c2_2 : w2.cell? ⟨w.heap.size, 2, none⟩ = some (.slice A2 n2 c2') := cell_blk B2.out rfl
  have c2_3 : w2.cell? ⟨w.heap.size, 3, none⟩ = some (.int .i64 ck) := cell_blk B2.out rfl
  have c2_4 : w2.cell? ⟨w.heap.size, 4, none⟩ = some (.string cn) := cell_blk B2.out rfl
  have c2_5 : w2.cell? ⟨w.heap.size, 5, none⟩ = some (.int .i64 cvk) := cell_blk B2.out rfl
  have c2_6 : w2.cell? ⟨w.heap.size, 6, none⟩ = some (.int .i64 cvn) := cell_blk B2.out rfl
  have c2_7 : w2.cell? ⟨w.heap.size, 7, none⟩ = some (.string cvt) := cell_blk B2.out rfl
  have c2_8 : w2.cell? ⟨w.heap.size, 8, none⟩ = some (.string cop) := cell_blk B2.out rfl
  have c2_9 : w2.cell? ⟨w.heap.size, 9, none⟩ = some (.slice CA cnn cc) := cell_blk B2.out rfl
  have c2_10 : w2.cell? ⟨w.heap.size, 10, none⟩ = some (.slice NA nn nc) := cell_blk B2.out rfl
  have c2_11 : w2.cell? ⟨w.heap.size, 11, none⟩ = some (.slice EA en ec) := cell_blk B2.out rfl
  have c2_12 : w2.cell? ⟨w.heap.size, 12, none⟩ = some (.slice OA ol oc) := cell_blk B2.out rfl
  have c2_13 : w2.cell? ⟨w.heap.size, 13, none⟩ = some (.slice GA gn gc) := cell_blk B2.out rfl
  have c2_14 : w2.cell? ⟨w.heap.size, 14, none⟩ = some (.slice BA bn bc) := cell_blk B2.out rfl
  have c2_15 : w2.cell? ⟨w.heap.size, 15, none⟩ = some (.int .i64 count) := cell_blk B2.out rfl
  go_wp2_with fail
  refine (Hsp.out _ (HT.out.trans0 T2.out)).mono ?_
  rintro e w3 ⟨rfl, t3⟩
  have T3 := Lib.hid (T2.out.trans0 t3)
  have B3 := Lib.hid (T3.out.blk HB.out (by simp))
  clear t3
  go_wp2_with fail
  refine (Haw.out _ (HT.out.trans0 T3.out)).mono ?_
  rintro e w9 ⟨rfl, t9⟩
  have HT9 := Lib.hid ((HT.out.trans0 T3.out).trans0 t9)
  clear t9
  go_wp2_with fail
  go_ret
  exact ⟨rfl, HT9.out⟩
set_option maxRecDepth 40000 in
set_option maxHeartbeats 12800000 in
theorem types_a4 {m : Nat} (x : PC) (d : PD m) (sx rx sy ry : SL) (a b : List CD) (ra rb : List (List VD)) (w : World) (hP : PlanAt w x d) (hX : TabAt w sx rx a ra) (hY : TabAt w sy ry b rb) (hd : d.In) (hta : TbIn a ra) (htb : TbIn b rb) (hG : NeedsAt w) (h1 : smallT a ra = true) (h2 : smallT b rb = true) (h3 : smallPl d = true) (hk1 : x.kind = 1) (hn1 : x.name = ⟨#[120]⟩) :
    Calls Tryz.prog 4 #[stVal x sx rx sy ry] w fun e w' => e = .returned (.bool true) ∧ Touch [] w w' := by
  have Hst := Lib.hid fun w' (t : Touch [] w w') => smallTable_any sx.A rx.A sx.c rx.c sx.n rx.n a ra hX.n.symm hX.m.symm ⟨by have := hta.n; have := hX.n; omega, fun c hc => ⟨by have := (hta.c c hc).1; omega, (hta.c c hc).2⟩⟩ ⟨by have := hta.m; have := hX.m; omega, fun r hr => ⟨by have := (hta.r r hr).1; omega, fun v hv => ((hta.r r hr).2 v hv).le' (by omega)⟩⟩ w' (hX.cols.touch0 t) (hX.rws.touch0 t)
  have Hsu := Lib.hid fun w' (t : Touch [] w w') => smallTable_any sy.A ry.A sy.c ry.c sy.n ry.n b rb hY.n.symm hY.m.symm ⟨by have := htb.n; have := hY.n; omega, fun c hc => ⟨by have := (htb.c c hc).1; omega, (htb.c c hc).2⟩⟩ ⟨by have := htb.m; have := hY.m; omega, fun r hr => ⟨by have := (htb.r r hr).1; omega, fun v hv => ((htb.r r hr).2 v hv).le' (by omega)⟩⟩ w' (hY.cols.touch0 t) (hY.rws.touch0 t)
  have Hsp := Lib.hid fun w' (t : Touch [] w w') => smallPlan_any m x d hd.ok w' (hP.touch0 t)
  have Haw := Lib.hid fun w' (t : Touch [] w w') => awake5_any w' (hG.touch0 t)
  have Hsc := Lib.hid fun w' => scans_any x sx rx sy ry w'
  have HP := Lib.hid hP
  have HX := Lib.hid hX
  have HY := Lib.hid hY
  have HD := Lib.hid hd
  have HTA := Lib.hid hta
  have HTB := Lib.hid htb
  have HG := Lib.hid hG
  have Hkd := Lib.hid hP.kind
  have Hnd := Lib.hid hP.name
  clear hP hX hY hd hta htb hG
  obtain ⟨k0, k1, ⟨A2, n2, c2'⟩, ⟨⟨ck, cn, ⟨cvk, cvn, cvt⟩, cop⟩, CA, cnn, cc⟩, ⟨NA, nn, nc⟩, ⟨EA, en, ec⟩, ⟨OA, ol, oc⟩, ⟨GA, gn, gc⟩, ⟨BA, bn, bc⟩, count⟩ := x
  obtain ⟨sxA, sxn, sxc⟩ := sx
  obtain ⟨rxA, rxn, rxc⟩ := rx
  obtain ⟨syA, syn, syc⟩ := sy
  obtain ⟨ryA, ryn, ryc⟩ := ry
  simp only [stVal, PC.val] at *
  rw [h1] at Hst
  rw [h2] at Hsu
  rw [h3] at Hsp
  clear h1 h2 h3
  try dsimp only at hk1 hn1
  subst hk1 hn1
  obtain ⟨W, hW⟩ : ∃ W, W = w.alloc (.cells #[.int .i64 1, .string ⟨#[120]⟩, .slice A2 n2 c2', .int .i64 ck, .string cn, .int .i64 cvk, .int .i64 cvn, .string cvt, .string cop, .slice CA cnn cc, .slice NA nn nc, .slice EA en ec, .slice OA ol oc, .slice GA gn gc, .slice BA bn bc, .int .i64 count, .slice sxA sxn sxc, .slice rxA rxn rxc, .slice syA syn syc, .slice ryA ryn ryc] 55) := ⟨_, rfl⟩
  have t0 : Touch [] w W := hW ▸ (Touch.refl [] w).alloc _
  have hb0 := hW ▸ heap_alloc_new w (.cells #[.int .i64 1, .string ⟨#[120]⟩, .slice A2 n2 c2', .int .i64 ck, .string cn, .int .i64 cvk, .int .i64 cvn, .string cvt, .string cop, .slice CA cnn cc, .slice NA nn nc, .slice EA en ec, .slice OA ol oc, .slice GA gn gc, .slice BA bn bc, .int .i64 count, .slice sxA sxn sxc, .slice rxA rxn rxc, .slice syA syn syc, .slice ryA ryn ryc] 55)
  have HW := Lib.hid hW
  have HT := Lib.hid t0
  have HB := Lib.hid hb0
  clear hW t0 hb0
  have z1 : ((⟨#[120]⟩ : ByteArray).toList == [120]) = decide ((⟨#[120]⟩ : ByteArray) = ⟨#[120]⟩) := lit_beq ⟨#[120]⟩ [120] ⟨#[120]⟩ rfl
  have z2 : ((⟨#[120]⟩ : ByteArray).toList == [121]) = decide ((⟨#[120]⟩ : ByteArray) = ⟨#[121]⟩) := lit_beq ⟨#[120]⟩ [121] ⟨#[121]⟩ rfl
  go_enter Tryz.func4, Tryz.ntmps4
  go_wp2_with fail
  rw [← HW.out]
  refine (Hst.out _ HT.out).mono ?_
  rintro e w1 ⟨rfl, t1⟩
  have T1 := Lib.hid ((Touch.refl [] W).trans0 t1)
  have B1 := Lib.hid (T1.out.blk HB.out (by simp))
  clear t1
  have c1_18 : w1.cell? ⟨w.heap.size, 18, none⟩ = some (.slice syA syn syc) := cell_blk B1.out rfl
  have c1_19 : w1.cell? ⟨w.heap.size, 19, none⟩ = some (.slice ryA ryn ryc) := cell_blk B1.out rfl
  go_wp2_with fail
  refine (Hsu.out _ (HT.out.trans0 T1.out)).mono ?_
  rintro e w2 ⟨rfl, t2⟩
  have T2 := Lib.hid (T1.out.trans0 t2)
  have B2 := Lib.hid (T2.out.blk HB.out (by simp))
  clear t2
  have c2_0 : w2.cell? ⟨w.heap.size, 0, none⟩ = some (.int .i64 1) := cell_blk B2.out rfl
  have c2_1 : w2.cell? ⟨w.heap.size, 1, none⟩ = some (.string ⟨#[120]⟩) := cell_blk B2.out rfl
  have c2_2 : w2.cell? ⟨w.heap.size, 2, none⟩ = some (.slice A2 n2 c2') := cell_blk B2.out rfl
  have c2_3 : w2.cell? ⟨w.heap.size, 3, none⟩ = some (.int .i64 ck) := cell_blk B2.out rfl
  have c2_4 : w2.cell? ⟨w.heap.size, 4, none⟩ = some (.string cn) := cell_blk B2.out rfl
  have c2_5 : w2.cell? ⟨w.heap.size, 5, none⟩ = some (.int .i64 cvk) := cell_blk B2.out rfl
  have c2_6 : w2.cell? ⟨w.heap.size, 6, none⟩ = some (.int .i64 cvn) := cell_blk B2.out rfl
  have c2_7 : w2.cell? ⟨w.heap.size, 7, none⟩ = some (.string cvt) := cell_blk B2.out rfl
  have c2_8 : w2.cell? ⟨w.heap.size, 8, none⟩ = some (.string cop) := cell_blk B2.out rfl
  have c2_9 : w2.cell? ⟨w.heap.size, 9, none⟩ = some (.slice CA cnn cc) := cell_blk B2.out rfl
  have c2_10 : w2.cell? ⟨w.heap.size, 10, none⟩ = some (.slice NA nn nc) := cell_blk B2.out rfl
  have c2_11 : w2.cell? ⟨w.heap.size, 11, none⟩ = some (.slice EA en ec) := cell_blk B2.out rfl
  have c2_12 : w2.cell? ⟨w.heap.size, 12, none⟩ = some (.slice OA ol oc) := cell_blk B2.out rfl
  have c2_13 : w2.cell? ⟨w.heap.size, 13, none⟩ = some (.slice GA gn gc) := cell_blk B2.out rfl
  have c2_14 : w2.cell? ⟨w.heap.size, 14, none⟩ = some (.slice BA bn bc) := cell_blk B2.out rfl
  have c2_15 : w2.cell? ⟨w.heap.size, 15, none⟩ = some (.int .i64 count) := cell_blk B2.out rfl
  go_wp2_with fail
  refine (Hsp.out _ (HT.out.trans0 T2.out)).mono ?_
  rintro e w3 ⟨rfl, t3⟩
  have T3 := Lib.hid (T2.out.trans0 t3)
  have B3 := Lib.hid (T3.out.blk HB.out (by simp))
  clear t3
  clear c1_18 c1_19 c2_0 c2_1 c2_2 c2_3 c2_4 c2_5 c2_6 c2_7 c2_8 c2_9 c2_10 c2_11 c2_12 c2_13 c2_14 c2_15
  have c3_0 : w3.cell? ⟨w.heap.size, 0, none⟩ = some (.int .i64 1) := cell_blk B3.out rfl
  have c3_1 : w3.cell? ⟨w.heap.size, 1, none⟩ = some (.string ⟨#[120]⟩) := cell_blk B3.out rfl
  go_wp2_with fail
  refine (Haw.out _ (HT.out.trans0 T3.out)).mono ?_
  rintro e w9 ⟨rfl, t9⟩
  have HT9 := Lib.hid ((HT.out.trans0 T3.out).trans0 t9)
  clear t9
  go_wp2_with fail
  go_ret
  exact ⟨rfl, HT9.out⟩
set_option maxRecDepth 40000 in
set_option maxHeartbeats 12800000 in
theorem types_a5 {m : Nat} (x : PC) (d : PD m) (sx rx sy ry : SL) (a b : List CD) (ra rb : List (List VD)) (w : World) (hP : PlanAt w x d) (hX : TabAt w sx rx a ra) (hY : TabAt w sy ry b rb) (hd : d.In) (hta : TbIn a ra) (htb : TbIn b rb) (hG : NeedsAt w) (h1 : smallT a ra = true) (h2 : smallT b rb = true) (h3 : smallPl d = true) (hk1 : x.kind = 1) (hn1 : x.name = ⟨#[121]⟩) :
    Calls Tryz.prog 4 #[stVal x sx rx sy ry] w fun e w' => e = .returned (.bool true) ∧ Touch [] w w' := by
  have Hst := Lib.hid fun w' (t : Touch [] w w') => smallTable_any sx.A rx.A sx.c rx.c sx.n rx.n a ra hX.n.symm hX.m.symm ⟨by have := hta.n; have := hX.n; omega, fun c hc => ⟨by have := (hta.c c hc).1; omega, (hta.c c hc).2⟩⟩ ⟨by have := hta.m; have := hX.m; omega, fun r hr => ⟨by have := (hta.r r hr).1; omega, fun v hv => ((hta.r r hr).2 v hv).le' (by omega)⟩⟩ w' (hX.cols.touch0 t) (hX.rws.touch0 t)
  have Hsu := Lib.hid fun w' (t : Touch [] w w') => smallTable_any sy.A ry.A sy.c ry.c sy.n ry.n b rb hY.n.symm hY.m.symm ⟨by have := htb.n; have := hY.n; omega, fun c hc => ⟨by have := (htb.c c hc).1; omega, (htb.c c hc).2⟩⟩ ⟨by have := htb.m; have := hY.m; omega, fun r hr => ⟨by have := (htb.r r hr).1; omega, fun v hv => ((htb.r r hr).2 v hv).le' (by omega)⟩⟩ w' (hY.cols.touch0 t) (hY.rws.touch0 t)
  have Hsp := Lib.hid fun w' (t : Touch [] w w') => smallPlan_any m x d hd.ok w' (hP.touch0 t)
  have Haw := Lib.hid fun w' (t : Touch [] w w') => awake5_any w' (hG.touch0 t)
  have Hsc := Lib.hid fun w' => scans_any x sx rx sy ry w'
  have HP := Lib.hid hP
  have HX := Lib.hid hX
  have HY := Lib.hid hY
  have HD := Lib.hid hd
  have HTA := Lib.hid hta
  have HTB := Lib.hid htb
  have HG := Lib.hid hG
  have Hkd := Lib.hid hP.kind
  have Hnd := Lib.hid hP.name
  clear hP hX hY hd hta htb hG
  obtain ⟨k0, k1, ⟨A2, n2, c2'⟩, ⟨⟨ck, cn, ⟨cvk, cvn, cvt⟩, cop⟩, CA, cnn, cc⟩, ⟨NA, nn, nc⟩, ⟨EA, en, ec⟩, ⟨OA, ol, oc⟩, ⟨GA, gn, gc⟩, ⟨BA, bn, bc⟩, count⟩ := x
  obtain ⟨sxA, sxn, sxc⟩ := sx
  obtain ⟨rxA, rxn, rxc⟩ := rx
  obtain ⟨syA, syn, syc⟩ := sy
  obtain ⟨ryA, ryn, ryc⟩ := ry
  simp only [stVal, PC.val] at *
  rw [h1] at Hst
  rw [h2] at Hsu
  rw [h3] at Hsp
  clear h1 h2 h3
  try dsimp only at hk1 hn1
  subst hk1 hn1
  obtain ⟨W, hW⟩ : ∃ W, W = w.alloc (.cells #[.int .i64 1, .string ⟨#[121]⟩, .slice A2 n2 c2', .int .i64 ck, .string cn, .int .i64 cvk, .int .i64 cvn, .string cvt, .string cop, .slice CA cnn cc, .slice NA nn nc, .slice EA en ec, .slice OA ol oc, .slice GA gn gc, .slice BA bn bc, .int .i64 count, .slice sxA sxn sxc, .slice rxA rxn rxc, .slice syA syn syc, .slice ryA ryn ryc] 55) := ⟨_, rfl⟩
  have t0 : Touch [] w W := hW ▸ (Touch.refl [] w).alloc _
  have hb0 := hW ▸ heap_alloc_new w (.cells #[.int .i64 1, .string ⟨#[121]⟩, .slice A2 n2 c2', .int .i64 ck, .string cn, .int .i64 cvk, .int .i64 cvn, .string cvt, .string cop, .slice CA cnn cc, .slice NA nn nc, .slice EA en ec, .slice OA ol oc, .slice GA gn gc, .slice BA bn bc, .int .i64 count, .slice sxA sxn sxc, .slice rxA rxn rxc, .slice syA syn syc, .slice ryA ryn ryc] 55)
  have HW := Lib.hid hW
  have HT := Lib.hid t0
  have HB := Lib.hid hb0
  clear hW t0 hb0
  have z1 : ((⟨#[121]⟩ : ByteArray).toList == [120]) = decide ((⟨#[121]⟩ : ByteArray) = ⟨#[120]⟩) := lit_beq ⟨#[121]⟩ [120] ⟨#[120]⟩ rfl
  have z2 : ((⟨#[121]⟩ : ByteArray).toList == [121]) = decide ((⟨#[121]⟩ : ByteArray) = ⟨#[121]⟩) := lit_beq ⟨#[121]⟩ [121] ⟨#[121]⟩ rfl
  go_enter Tryz.func4, Tryz.ntmps4
  go_wp2_with fail
  rw [← HW.out]
  refine (Hst.out _ HT.out).mono ?_
  rintro e w1 ⟨rfl, t1⟩
  have T1 := Lib.hid ((Touch.refl [] W).trans0 t1)
  have B1 := Lib.hid (T1.out.blk HB.out (by simp))
  clear t1
  have c1_18 : w1.cell? ⟨w.heap.size, 18, none⟩ = some (.slice syA syn syc) := cell_blk B1.out rfl
  have c1_19 : w1.cell? ⟨w.heap.size, 19, none⟩ = some (.slice ryA ryn ryc) := cell_blk B1.out rfl
  go_wp2_with fail
  refine (Hsu.out _ (HT.out.trans0 T1.out)).mono ?_
  rintro e w2 ⟨rfl, t2⟩
  have T2 := Lib.hid (T1.out.trans0 t2)
  have B2 := Lib.hid (T2.out.blk HB.out (by simp))
  clear t2
  have c2_0 : w2.cell? ⟨w.heap.size, 0, none⟩ = some (.int .i64 1) := cell_blk B2.out rfl
  have c2_1 : w2.cell? ⟨w.heap.size, 1, none⟩ = some (.string ⟨#[121]⟩) := cell_blk B2.out rfl
  have c2_2 : w2.cell? ⟨w.heap.size, 2, none⟩ = some (.slice A2 n2 c2') := cell_blk B2.out rfl
  have c2_3 : w2.cell? ⟨w.heap.size, 3, none⟩ = some (.int .i64 ck) := cell_blk B2.out rfl
  have c2_4 : w2.cell? ⟨w.heap.size, 4, none⟩ = some (.string cn) := cell_blk B2.out rfl
  have c2_5 : w2.cell? ⟨w.heap.size, 5, none⟩ = some (.int .i64 cvk) := cell_blk B2.out rfl
  have c2_6 : w2.cell? ⟨w.heap.size, 6, none⟩ = some (.int .i64 cvn) := cell_blk B2.out rfl
  have c2_7 : w2.cell? ⟨w.heap.size, 7, none⟩ = some (.string cvt) := cell_blk B2.out rfl
  have c2_8 : w2.cell? ⟨w.heap.size, 8, none⟩ = some (.string cop) := cell_blk B2.out rfl
  have c2_9 : w2.cell? ⟨w.heap.size, 9, none⟩ = some (.slice CA cnn cc) := cell_blk B2.out rfl
  have c2_10 : w2.cell? ⟨w.heap.size, 10, none⟩ = some (.slice NA nn nc) := cell_blk B2.out rfl
  have c2_11 : w2.cell? ⟨w.heap.size, 11, none⟩ = some (.slice EA en ec) := cell_blk B2.out rfl
  have c2_12 : w2.cell? ⟨w.heap.size, 12, none⟩ = some (.slice OA ol oc) := cell_blk B2.out rfl
  have c2_13 : w2.cell? ⟨w.heap.size, 13, none⟩ = some (.slice GA gn gc) := cell_blk B2.out rfl
  have c2_14 : w2.cell? ⟨w.heap.size, 14, none⟩ = some (.slice BA bn bc) := cell_blk B2.out rfl
  have c2_15 : w2.cell? ⟨w.heap.size, 15, none⟩ = some (.int .i64 count) := cell_blk B2.out rfl
  go_wp2_with fail
  refine (Hsp.out _ (HT.out.trans0 T2.out)).mono ?_
  rintro e w3 ⟨rfl, t3⟩
  have T3 := Lib.hid (T2.out.trans0 t3)
  have B3 := Lib.hid (T3.out.blk HB.out (by simp))
  clear t3
  clear c1_18 c1_19 c2_0 c2_1 c2_2 c2_3 c2_4 c2_5 c2_6 c2_7 c2_8 c2_9 c2_10 c2_11 c2_12 c2_13 c2_14 c2_15
  have c3_0 : w3.cell? ⟨w.heap.size, 0, none⟩ = some (.int .i64 1) := cell_blk B3.out rfl
  have c3_1 : w3.cell? ⟨w.heap.size, 1, none⟩ = some (.string ⟨#[121]⟩) := cell_blk B3.out rfl
  go_wp2_with fail
  refine (Haw.out _ (HT.out.trans0 T3.out)).mono ?_
  rintro e w9 ⟨rfl, t9⟩
  have HT9 := Lib.hid ((HT.out.trans0 T3.out).trans0 t9)
  clear t9
  go_wp2_with fail
  go_ret
  exact ⟨rfl, HT9.out⟩
end Go.Proofs.YtafoklilkdnepaaGreatDoor
