/- Part 37 of the texts of this proof, one behind the other; each begins with its own sentence. No condition beyond those that its theorems state. -/
import Derived.Test.YtafoklilkdnepaaGreatDoorRu36
import Derived.Deep.DeepCutAuto
import Derived.Deep.MidRow
import Derived.BigQuiet
/- bywashlaw05.RelopRules: true, for every table, condition and count. (gen_rlrules.py) -/
namespace Go.Proofs.YtafoklilkdnepaaGreatDoor
open Go.RowKit

set_option maxRecDepth 40000 in
set_option maxHeartbeats 12800000 in
theorem rules_a1 {m : Nat} (sx rx : SL) (x : XC) (e : TX m) (cs : List CD) (rows : List (List VD)) (count : Int) (w : World) (hX : TabAt w sx rx cs rows) (hE : ExP xcE anyB m w x e) (hta : TbIn cs rows) (hG : NeedsAt w) (h1 : smallT cs rows = false) :
  Calls Tryz.prog 7 #[.agg #[.slice sx.A sx.n sx.c, .slice rx.A rx.n rx.c], x.val, .int .i64 count] w fun e w' => e = .returned (.bool true) ∧ Touch [] w w' := by
 have Hst := Lib.hid fun w' (t : Touch [] w w') => smallTable_any sx.A rx.A sx.c rx.c sx.n rx.n cs rows hX.n.symm hX.m.symm ⟨by have := hta.n; have := hX.n; omega, fun c hc => ⟨by have := (hta.c c hc).1; omega, (hta.c c hc).2⟩⟩ ⟨by have := hta.m; have := hX.m; omega, fun r hr => ⟨by have := (hta.r r hr).1; omega, fun v hv => ((hta.r r hr).2 v hv).le' (by omega)⟩⟩ w' (hX.cols.touch0 t) (hX.rws.touch0 t)
 have Haw := Lib.hid fun w' (t : Touch [] w w') => awake5_any w' (hG.touch0 t)
 have HX := Lib.hid hX
 have HTA := Lib.hid hta
 have HG := Lib.hid hG
 have HE := Lib.hid hE
 rw [h1] at Hst
 clear h1
 obtain ⟨sA, sn, sc⟩ := sx
 obtain ⟨rA, rn, rc⟩ := rx
 obtain ⟨⟨ck, cn, ⟨cvk, cvn, cvt⟩, cop⟩, CA, cnn, cc⟩ := x
 obtain rfl : sn = cs.length := hX.n
 obtain rfl : rn = rows.length := hX.m
 clear hX hE hta hG
 simp only [XC.val] at *
 obtain ⟨W, hW⟩ : ∃ W, W = (w.alloc (.cells #[.slice sA cs.length sc, .slice rA rows.length rc] 27)).alloc (.cells #[.int .i64 ck, .string cn, .int .i64 cvk, .int .i64 cvn, .string cvt, .string cop, .slice CA cnn cc] 44) := ⟨_, rfl⟩
 have t0 : Touch [] w W := hW ▸ ((Touch.refl [] w).alloc _).alloc _
 have hbx : W.heap[w.heap.size]? = some (.cells #[.slice sA cs.length sc, .slice rA rows.length rc] 27 (0, 0)) := hW ▸ ((Touch.refl [] (w.alloc (.cells #[.slice sA cs.length sc, .slice rA rows.length rc] 27))).alloc (.cells #[.int .i64 ck, .string cn, .int .i64 cvk, .int .i64 cvn, .string cvt, .string cop, .slice CA cnn cc] 44)).blk (heap_alloc_new w _) (by simp)
 have hbe : W.heap[w.heap.size + 1]? = some (.cells #[.int .i64 ck, .string cn, .int .i64 cvk, .int .i64 cvn, .string cvt, .string cop, .slice CA cnn cc] 44 (0, 0)) := by
  have h1 := heap_alloc_new (w.alloc (.cells #[.slice sA cs.length sc, .slice rA rows.length rc] 27)) (.cells #[.int .i64 ck, .string cn, .int .i64 cvk, .int .i64 cvn, .string cvt, .string cop, .slice CA cnn cc] 44)
  rw [World.size_alloc] at h1
  exact hW ▸ h1
 have HW := Lib.hid hW
 have HT := Lib.hid t0
 have HBX := Lib.hid hbx
 have HBE := Lib.hid hbe
 clear hW t0 hbx hbe
 go_enter Tryz.func7, Tryz.ntmps7
 go_wp2_with fail
 rw [← HW.out]
 refine (Hst.out _ HT.out).mono ?_
 rintro e w1 ⟨rfl, t1⟩
 have T1 := Lib.hid t1
 have B1 := Lib.hid (t1.blk HBX.out (by simp))
 clear t1
 go_wp2_with fail
 refine (Haw.out _ (HT.out.trans0 T1.out)).mono ?_
 rintro e w9 ⟨rfl, t9⟩
 have HT9 := Lib.hid ((HT.out.trans0 T1.out).trans0 t9)
 clear t9
 go_wp2_with fail
 go_ret
 exact ⟨rfl, HT9.out⟩

set_option maxRecDepth 40000 in
set_option maxHeartbeats 12800000 in
theorem rules_a2 {m : Nat} (sx rx : SL) (x : XC) (e : TX m) (cs : List CD) (rows : List (List VD)) (count : Int) (w : World) (hX : TabAt w sx rx cs rows) (hE : ExP xcE anyB m w x e) (hta : TbIn cs rows) (hG : NeedsAt w) (h1 : smallT cs rows = true) (h2 : rightV cs rows = false) :
  Calls Tryz.prog 7 #[.agg #[.slice sx.A sx.n sx.c, .slice rx.A rx.n rx.c], x.val, .int .i64 count] w fun e w' => e = .returned (.bool true) ∧ Touch [] w w' := by
 have hoa := hta.tb h1
 have Hrt := Lib.hid fun w' (t : Touch [] w w') => right5_any sx.A sx.c sx.n cs hX.n.symm hoa.cols rx.A rx.c rx.n rows hX.m.symm hoa.rok hoa.rle w' (hX.cols.touch0 t) (hX.rws.touch0 t) (by have := hoa.n; have := hX.n; omega) (by have := hoa.m; have := hX.m; omega)
 have Hst := Lib.hid fun w' (t : Touch [] w w') => smallTable_any sx.A rx.A sx.c rx.c sx.n rx.n cs rows hX.n.symm hX.m.symm ⟨by have := hta.n; have := hX.n; omega, fun c hc => ⟨by have := (hta.c c hc).1; omega, (hta.c c hc).2⟩⟩ ⟨by have := hta.m; have := hX.m; omega, fun r hr => ⟨by have := (hta.r r hr).1; omega, fun v hv => ((hta.r r hr).2 v hv).le' (by omega)⟩⟩ w' (hX.cols.touch0 t) (hX.rws.touch0 t)
 have Haw := Lib.hid fun w' (t : Touch [] w w') => awake5_any w' (hG.touch0 t)
 have HX := Lib.hid hX
 have HTA := Lib.hid hta
 have HG := Lib.hid hG
 have HE := Lib.hid hE
 rw [h1] at Hst
 rw [h2] at Hrt
 clear h1 h2 hoa
 obtain ⟨sA, sn, sc⟩ := sx
 obtain ⟨rA, rn, rc⟩ := rx
 obtain ⟨⟨ck, cn, ⟨cvk, cvn, cvt⟩, cop⟩, CA, cnn, cc⟩ := x
 obtain rfl : sn = cs.length := hX.n
 obtain rfl : rn = rows.length := hX.m
 clear hX hE hta hG
 simp only [XC.val] at *
 obtain ⟨W, hW⟩ : ∃ W, W = (w.alloc (.cells #[.slice sA cs.length sc, .slice rA rows.length rc] 27)).alloc (.cells #[.int .i64 ck, .string cn, .int .i64 cvk, .int .i64 cvn, .string cvt, .string cop, .slice CA cnn cc] 44) := ⟨_, rfl⟩
 have t0 : Touch [] w W := hW ▸ ((Touch.refl [] w).alloc _).alloc _
 have hbx : W.heap[w.heap.size]? = some (.cells #[.slice sA cs.length sc, .slice rA rows.length rc] 27 (0, 0)) := hW ▸ ((Touch.refl [] (w.alloc (.cells #[.slice sA cs.length sc, .slice rA rows.length rc] 27))).alloc (.cells #[.int .i64 ck, .string cn, .int .i64 cvk, .int .i64 cvn, .string cvt, .string cop, .slice CA cnn cc] 44)).blk (heap_alloc_new w _) (by simp)
 have hbe : W.heap[w.heap.size + 1]? = some (.cells #[.int .i64 ck, .string cn, .int .i64 cvk, .int .i64 cvn, .string cvt, .string cop, .slice CA cnn cc] 44 (0, 0)) := by
  have h1 := heap_alloc_new (w.alloc (.cells #[.slice sA cs.length sc, .slice rA rows.length rc] 27)) (.cells #[.int .i64 ck, .string cn, .int .i64 cvk, .int .i64 cvn, .string cvt, .string cop, .slice CA cnn cc] 44)
  rw [World.size_alloc] at h1
  exact hW ▸ h1
 have HW := Lib.hid hW
 have HT := Lib.hid t0
 have HBX := Lib.hid hbx
 have HBE := Lib.hid hbe
 clear hW t0 hbx hbe
 go_enter Tryz.func7, Tryz.ntmps7
 go_wp2_with fail
 rw [← HW.out]
 refine (Hst.out _ HT.out).mono ?_
 rintro e w1 ⟨rfl, t1⟩
 have T1 := Lib.hid t1
 have B1 := Lib.hid (t1.blk HBX.out (by simp))
 clear t1
 have c1_0 : w1.cell? ⟨w.heap.size, 0, none⟩ = some (.slice sA cs.length sc) := cell_blk B1.out rfl
 have c1_1 : w1.cell? ⟨w.heap.size, 1, none⟩ = some (.slice rA rows.length rc) := cell_blk B1.out rfl
 go_wp2_with fail
 refine (Hrt.out _ (HT.out.trans0 T1.out)).mono ?_
 rintro e w2 ⟨rfl, t2⟩
 have T2 := Lib.hid (T1.out.trans0 t2)
 have B2 := Lib.hid (T2.out.blk HBE.out (by simp))
 clear t2
 go_wp2_with fail
 refine (Haw.out _ (HT.out.trans0 T2.out)).mono ?_
 rintro e w9 ⟨rfl, t9⟩
 have HT9 := Lib.hid ((HT.out.trans0 T2.out).trans0 t9)
 clear t9
 go_wp2_with fail
 go_ret
 exact ⟨rfl, HT9.out⟩

set_option maxRecDepth 40000 in
set_option maxHeartbeats 12800000 in
theorem rules_a3 {m : Nat} (sx rx : SL) (x : XC) (e : TX m) (cs : List CD) (rows : List (List VD)) (count : Int) (w : World) (hX : TabAt w sx rx cs rows) (hE : ExP xcE anyB m w x e) (hta : TbIn cs rows) (hG : NeedsAt w) (h1 : smallT cs rows = true) (h2 : rightV cs rows = true) (hs : sizeX m e ≤ 1048576) (h3 : ¬ sizeX m e ≤ 60) :
  Calls Tryz.prog 7 #[.agg #[.slice sx.A sx.n sx.c, .slice rx.A rx.n rx.c], x.val, .int .i64 count] w fun e w' => e = .returned (.bool true) ∧ Touch [] w w' := by
 have hoa := hta.tb h1
 have Hrt := Lib.hid fun w' (t : Touch [] w w') => right5_any sx.A sx.c sx.n cs hX.n.symm hoa.cols rx.A rx.c rx.n rows hX.m.symm hoa.rok hoa.rle w' (hX.cols.touch0 t) (hX.rws.touch0 t) (by have := hoa.n; have := hX.n; omega) (by have := hoa.m; have := hX.m; omega)
 have Hsz := Lib.hid fun w' (t : Touch [] w w') => sizeX_any m e x w' (hE.touch0 t) (by omega)
 have Hst := Lib.hid fun w' (t : Touch [] w w') => smallTable_any sx.A rx.A sx.c rx.c sx.n rx.n cs rows hX.n.symm hX.m.symm ⟨by have := hta.n; have := hX.n; omega, fun c hc => ⟨by have := (hta.c c hc).1; omega, (hta.c c hc).2⟩⟩ ⟨by have := hta.m; have := hX.m; omega, fun r hr => ⟨by have := (hta.r r hr).1; omega, fun v hv => ((hta.r r hr).2 v hv).le' (by omega)⟩⟩ w' (hX.cols.touch0 t) (hX.rws.touch0 t)
 have Haw := Lib.hid fun w' (t : Touch [] w w') => awake5_any w' (hG.touch0 t)
 have HX := Lib.hid hX
 have HTA := Lib.hid hta
 have HG := Lib.hid hG
 have HE := Lib.hid hE
 rw [h1] at Hst
 rw [h2] at Hrt
 have hgt : (60 < (sizeX m e : Int)) = True := eq_true (by omega)
 obtain ⟨K, hK⟩ : ∃ K, K = sizeX m e := ⟨_, rfl⟩
 rw [← hK] at hgt Hsz
 clear h1 h2 h3 hs hK hoa
 obtain ⟨sA, sn, sc⟩ := sx
 obtain ⟨rA, rn, rc⟩ := rx
 obtain ⟨⟨ck, cn, ⟨cvk, cvn, cvt⟩, cop⟩, CA, cnn, cc⟩ := x
 obtain rfl : sn = cs.length := hX.n
 obtain rfl : rn = rows.length := hX.m
 clear hX hE hta hG
 simp only [XC.val] at *
 obtain ⟨W, hW⟩ : ∃ W, W = (w.alloc (.cells #[.slice sA cs.length sc, .slice rA rows.length rc] 27)).alloc (.cells #[.int .i64 ck, .string cn, .int .i64 cvk, .int .i64 cvn, .string cvt, .string cop, .slice CA cnn cc] 44) := ⟨_, rfl⟩
 have t0 : Touch [] w W := hW ▸ ((Touch.refl [] w).alloc _).alloc _
 have hbx : W.heap[w.heap.size]? = some (.cells #[.slice sA cs.length sc, .slice rA rows.length rc] 27 (0, 0)) := hW ▸ ((Touch.refl [] (w.alloc (.cells #[.slice sA cs.length sc, .slice rA rows.length rc] 27))).alloc (.cells #[.int .i64 ck, .string cn, .int .i64 cvk, .int .i64 cvn, .string cvt, .string cop, .slice CA cnn cc] 44)).blk (heap_alloc_new w _) (by simp)
 have hbe : W.heap[w.heap.size + 1]? = some (.cells #[.int .i64 ck, .string cn, .int .i64 cvk, .int .i64 cvn, .string cvt, .string cop, .slice CA cnn cc] 44 (0, 0)) := by
  have h1 := heap_alloc_new (w.alloc (.cells #[.slice sA cs.length sc, .slice rA rows.length rc] 27)) (.cells #[.int .i64 ck, .string cn, .int .i64 cvk, .int .i64 cvn, .string cvt, .string cop, .slice CA cnn cc] 44)
  rw [World.size_alloc] at h1
  exact hW ▸ h1
 have HW := Lib.hid hW
 have HT := Lib.hid t0
 have HBX := Lib.hid hbx
 have HBE := Lib.hid hbe
 clear hW t0 hbx hbe
 go_enter Tryz.func7, Tryz.ntmps7
 go_wp2_with fail
 rw [← HW.out]
 refine (Hst.out _ HT.out).mono ?_
 rintro e w1 ⟨rfl, t1⟩
 have T1 := Lib.hid t1
 have B1 := Lib.hid (t1.blk HBX.out (by simp))
 clear t1
 have c1_0 : w1.cell? ⟨w.heap.size, 0, none⟩ = some (.slice sA cs.length sc) := cell_blk B1.out rfl
 have c1_1 : w1.cell? ⟨w.heap.size, 1, none⟩ = some (.slice rA rows.length rc) := cell_blk B1.out rfl
 go_wp2_with fail
 refine (Hrt.out _ (HT.out.trans0 T1.out)).mono ?_
 rintro e w2 ⟨rfl, t2⟩
 have T2 := Lib.hid (T1.out.trans0 t2)
 have B2 := Lib.hid (T2.out.blk HBE.out (by simp))
 clear t2
 have c2_0 : w2.cell? ⟨w.heap.size + 1, 0, none⟩ = some (.int .i64 ck) := cell_blk B2.out rfl
 have c2_1 : w2.cell? ⟨w.heap.size + 1, 1, none⟩ = some (.string cn) := cell_blk B2.out rfl
 have c2_2 : w2.cell? ⟨w.heap.size + 1, 2, none⟩ = some (.int .i64 cvk) := cell_blk B2.out rfl
 have c2_3 : w2.cell? ⟨w.heap.size + 1, 3, none⟩ = some (.int .i64 cvn) := cell_blk B2.out rfl
 have c2_4 : w2.cell? ⟨w.heap.size + 1, 4, none⟩ = some (.string cvt) := cell_blk B2.out rfl
 have c2_5 : w2.cell? ⟨w.heap.size + 1, 5, none⟩ = some (.string cop) := cell_blk B2.out rfl
 have c2_6 : w2.cell? ⟨w.heap.size + 1, 6, none⟩ = some (.slice CA cnn cc) := cell_blk B2.out rfl
 go_wp2_with fail
 refine (Hsz.out _ (HT.out.trans0 T2.out)).mono ?_
 rintro e w3 ⟨rfl, t3⟩
 have T3 := Lib.hid (T2.out.trans0 t3)
 clear t3
 go_wp2_with fail
 refine (Haw.out _ (HT.out.trans0 T3.out)).mono ?_
 rintro e w9 ⟨rfl, t9⟩
 have HT9 := Lib.hid ((HT.out.trans0 T3.out).trans0 t9)
 clear t9
 go_wp2_with fail
 go_ret
 exact ⟨rfl, HT9.out⟩

set_option maxRecDepth 40000 in
set_option maxHeartbeats 25600000 in
theorem rules_b {m : Nat} (sx rx : SL) (x : XC) (e : TX m) (cs : List CD) (rows : List (List VD)) (count : Int) (w : World) (hX : TabAt w sx rx cs rows) (hE : ExP xcE anyB m w x e) (hta : TbIn cs rows) (hG : NeedsAt w) (h1 : smallT cs rows = true) (h2 : rightV cs rows = true) (hs : sizeX m e ≤ 1048576) (h3 : sizeX m e ≤ 60) (htx : allX (fun q => q.v.text.size ≤ 140737000000000) m e) :
  Calls Tryz.prog 7 #[.agg #[.slice sx.A sx.n sx.c, .slice rx.A rx.n rx.c], x.val, .int .i64 count] w fun e w' => e = .returned (.bool true) ∧ Touch [] w w' := by
 have hoa := hta.tb h1
 have Hrt := Lib.hid fun w' (t : Touch [] w w') => right5_any sx.A sx.c sx.n cs hX.n.symm hoa.cols rx.A rx.c rx.n rows hX.m.symm hoa.rok hoa.rle w' (hX.cols.touch0 t) (hX.rws.touch0 t) (by have := hoa.n; have := hX.n; omega) (by have := hoa.m; have := hX.m; omega)
 have Hsz := Lib.hid fun w' (t : Touch [] w w') => sizeX_any m e x w' (hE.touch0 t) (by omega)
 have Hst := Lib.hid fun w' (t : Touch [] w w') => smallTable_any sx.A rx.A sx.c rx.c sx.n rx.n cs rows hX.n.symm hX.m.symm ⟨by have := hta.n; have := hX.n; omega, fun c hc => ⟨by have := (hta.c c hc).1; omega, (hta.c c hc).2⟩⟩ ⟨by have := hta.m; have := hX.m; omega, fun r hr => ⟨by have := (hta.r r hr).1; omega, fun v hv => ((hta.r r hr).2 v hv).le' (by omega)⟩⟩ w' (hX.cols.touch0 t) (hX.rws.touch0 t)
 have Haw := Lib.hid fun w' (t : Touch [] w w') => awake5_any w' (hG.touch0 t)
 have HX := Lib.hid hX
 have HTA := Lib.hid hta
 have HG := Lib.hid hG
 have HE := Lib.hid hE
 rw [h1] at Hst
 rw [h2] at Hrt
 have hck : checkT cs rows = 0 := of_decide_eq_true h2
 have hle : (60 < (sizeX m e : Int)) = False := eq_false (by omega)
 have HOA := Lib.hid (And.intro hoa (And.intro hck (And.intro h3 htx)))
 obtain ⟨K, hK⟩ : ∃ K, K = sizeX m e := ⟨_, rfl⟩
 rw [← hK] at hle Hsz
 clear h1 h2 hs hK hoa hck htx
 obtain ⟨sA, sn, sc⟩ := sx
 obtain ⟨rA, rn, rc⟩ := rx
 obtain ⟨⟨ck, cn, ⟨cvk, cvn, cvt⟩, cop⟩, CA, cnn, cc⟩ := x
 obtain rfl : sn = cs.length := hX.n
 obtain rfl : rn = rows.length := hX.m
 clear hX hE hta hG
 simp only [XC.val] at *
 obtain ⟨W, hW⟩ : ∃ W, W = (w.alloc (.cells #[.slice sA cs.length sc, .slice rA rows.length rc] 27)).alloc (.cells #[.int .i64 ck, .string cn, .int .i64 cvk, .int .i64 cvn, .string cvt, .string cop, .slice CA cnn cc] 44) := ⟨_, rfl⟩
 have t0 : Touch [] w W := hW ▸ ((Touch.refl [] w).alloc _).alloc _
 have hbx : W.heap[w.heap.size]? = some (.cells #[.slice sA cs.length sc, .slice rA rows.length rc] 27 (0, 0)) := hW ▸ ((Touch.refl [] (w.alloc (.cells #[.slice sA cs.length sc, .slice rA rows.length rc] 27))).alloc (.cells #[.int .i64 ck, .string cn, .int .i64 cvk, .int .i64 cvn, .string cvt, .string cop, .slice CA cnn cc] 44)).blk (heap_alloc_new w _) (by simp)
 have hbe : W.heap[w.heap.size + 1]? = some (.cells #[.int .i64 ck, .string cn, .int .i64 cvk, .int .i64 cvn, .string cvt, .string cop, .slice CA cnn cc] 44 (0, 0)) := by
  have h1 := heap_alloc_new (w.alloc (.cells #[.slice sA cs.length sc, .slice rA rows.length rc] 27)) (.cells #[.int .i64 ck, .string cn, .int .i64 cvk, .int .i64 cvn, .string cvt, .string cop, .slice CA cnn cc] 44)
  rw [World.size_alloc] at h1
  exact hW ▸ h1
 have HW := Lib.hid hW
 have HT := Lib.hid t0
 have HBX := Lib.hid hbx
 have HBE := Lib.hid hbe
 clear hW t0 hbx hbe
 go_enter Tryz.func7, Tryz.ntmps7
 go_upto_region 1 with fail
 rw [← HW.out]
 go_cut [32] (fun c wx => c = .bool false ∧ Hid (Touch [] W wx))
 case first =>
  have c0_0 : W.cell? ⟨w.heap.size, 0, none⟩ = some (.slice sA cs.length sc) := cell_blk HBX.out rfl
  have c0_1 : W.cell? ⟨w.heap.size, 1, none⟩ = some (.slice rA rows.length rc) := cell_blk HBX.out rfl
  go_wp2_with fail
  refine (Hst.out _ HT.out).mono ?_
  rintro e w1 ⟨rfl, t1⟩
  have T1 := Lib.hid t1
  have B1 := Lib.hid (t1.blk HBX.out (by simp))
  clear t1 c0_0 c0_1
  have c1_0 : w1.cell? ⟨w.heap.size, 0, none⟩ = some (.slice sA cs.length sc) := cell_blk B1.out rfl
  have c1_1 : w1.cell? ⟨w.heap.size, 1, none⟩ = some (.slice rA rows.length rc) := cell_blk B1.out rfl
  go_wp2_with fail
  refine (Hrt.out _ (HT.out.trans0 T1.out)).mono ?_
  rintro e w2 ⟨rfl, t2⟩
  have T2 := Lib.hid (T1.out.trans0 t2)
  have B2 := Lib.hid (T2.out.blk HBE.out (by simp))
  clear t2
  have c2_0 : w2.cell? ⟨w.heap.size + 1, 0, none⟩ = some (.int .i64 ck) := cell_blk B2.out rfl
  have c2_1 : w2.cell? ⟨w.heap.size + 1, 1, none⟩ = some (.string cn) := cell_blk B2.out rfl
  have c2_2 : w2.cell? ⟨w.heap.size + 1, 2, none⟩ = some (.int .i64 cvk) := cell_blk B2.out rfl
  have c2_3 : w2.cell? ⟨w.heap.size + 1, 3, none⟩ = some (.int .i64 cvn) := cell_blk B2.out rfl
  have c2_4 : w2.cell? ⟨w.heap.size + 1, 4, none⟩ = some (.string cvt) := cell_blk B2.out rfl
  have c2_5 : w2.cell? ⟨w.heap.size + 1, 5, none⟩ = some (.string cop) := cell_blk B2.out rfl
  have c2_6 : w2.cell? ⟨w.heap.size + 1, 6, none⟩ = some (.slice CA cnn cc) := cell_blk B2.out rfl
  go_wp2_with fail
  refine (Hsz.out _ (HT.out.trans0 T2.out)).mono ?_
  rintro e w3 ⟨rfl, t3⟩
  have T3 := Lib.hid (T2.out.trans0 t3)
  clear t3
  go_wp2_with fail
  go_meet
  exact ⟨rfl, Lib.hid T3.out⟩
 case rest =>
  obtain ⟨rfl, T3⟩ := hcut
  obtain ⟨w3, hw3⟩ : ∃ w3, w3 = wc := ⟨_, rfl⟩
  subst hw3
  clear Hst Hrt Hsz HW
  have X3 := Lib.hid (T3.out.blk HBX.out (by simp))
  have E3 := Lib.hid (T3.out.blk HBE.out (by simp))
  have ta := ((Touch.refl [] w3).alloc (.cells #[.string ⟨#[120]⟩, .slice sA cs.length sc, .slice rA rows.length rc] 36)).alloc (.cells #[.int .i64 1, .string ⟨#[120]⟩, .slice none 0 0, .int .i64 0, .string ⟨#[]⟩, .int .i64 0, .int .i64 0, .string ⟨#[]⟩, .string ⟨#[]⟩, .slice none 0 0, .slice none 0 0, .slice none 0 0, .slice none 0 0, .slice none 0 0, .slice none 0 0, .int .i64 0] 49)
  have x3_0 : w3.cell? ⟨w.heap.size, 0, none⟩ = some (.slice sA cs.length sc) := cell_blk X3.out rfl
  have x3_1 : w3.cell? ⟨w.heap.size, 1, none⟩ = some (.slice rA rows.length rc) := cell_blk X3.out rfl
  have e3_0 := ta.cell (cell_blk E3.out rfl : w3.cell? ⟨w.heap.size + 1, 0, none⟩ = some (.int .i64 ck)) (by simp)
  have e3_1 := ta.cell (cell_blk E3.out rfl : w3.cell? ⟨w.heap.size + 1, 1, none⟩ = some (.string cn)) (by simp)
  have e3_2 := ta.cell (cell_blk E3.out rfl : w3.cell? ⟨w.heap.size + 1, 2, none⟩ = some (.int .i64 cvk)) (by simp)
  have e3_3 := ta.cell (cell_blk E3.out rfl : w3.cell? ⟨w.heap.size + 1, 3, none⟩ = some (.int .i64 cvn)) (by simp)
  have e3_4 := ta.cell (cell_blk E3.out rfl : w3.cell? ⟨w.heap.size + 1, 4, none⟩ = some (.string cvt)) (by simp)
  have e3_5 := ta.cell (cell_blk E3.out rfl : w3.cell? ⟨w.heap.size + 1, 5, none⟩ = some (.string cop)) (by simp)
  have e3_6 := ta.cell (cell_blk E3.out rfl : w3.cell? ⟨w.heap.size + 1, 6, none⟩ = some (.slice CA cnn cc)) (by simp)
  obtain ⟨W4, hW4⟩ : ∃ W4, W4 = ((w3.alloc (.cells #[.string ⟨#[120]⟩, .slice sA cs.length sc, .slice rA rows.length rc] 36)).alloc (.cells #[.int .i64 1, .string ⟨#[120]⟩, .slice none 0 0, .int .i64 0, .string ⟨#[]⟩, .int .i64 0, .int .i64 0, .string ⟨#[]⟩, .string ⟨#[]⟩, .slice none 0 0, .slice none 0 0, .slice none 0 0, .slice none 0 0, .slice none 0 0, .slice none 0 0, .int .i64 0] 49)).alloc (.cells #[.int .i64 2, .string ⟨#[]⟩, .slice (some ⟨(w3.heap.size + 1), 0, none⟩) 1 1, .int .i64 ck, .string cn, .int .i64 cvk, .int .i64 cvn, .string cvt, .string cop, .slice CA cnn cc, .slice none 0 0, .slice none 0 0, .slice none 0 0, .slice none 0 0, .slice none 0 0, .int .i64 0] 49) := ⟨_, rfl⟩
  have t4 : Touch [] w3 W4 := hW4 ▸ (((Touch.refl [] w3).alloc _).alloc _).alloc _
  have hbs : RdK srE W4 (some ⟨w3.heap.size, 0, none⟩) [⟨⟨#[120]⟩, ⟨sA, cs.length, sc⟩, ⟨rA, rows.length, rc⟩⟩] := by
   have h1 := RdK.touch0 (RdK.one (enc := srE) w3 36 ⟨⟨#[120]⟩, ⟨sA, cs.length, sc⟩, ⟨rA, rows.length, rc⟩⟩ #[.string ⟨#[120]⟩, .slice sA cs.length sc, .slice rA rows.length rc] rfl) (((Touch.refl [] _).alloc (.cells #[.int .i64 1, .string ⟨#[120]⟩, .slice none 0 0, .int .i64 0, .string ⟨#[]⟩, .int .i64 0, .int .i64 0, .string ⟨#[]⟩, .string ⟨#[]⟩, .slice none 0 0, .slice none 0 0, .slice none 0 0, .slice none 0 0, .slice none 0 0, .slice none 0 0, .int .i64 0] 49)).alloc (.cells #[.int .i64 2, .string ⟨#[]⟩, .slice (some ⟨(w3.heap.size + 1), 0, none⟩) 1 1, .int .i64 ck, .string cn, .int .i64 cvk, .int .i64 cvn, .string cvt, .string cop, .slice CA cnn cc, .slice none 0 0, .slice none 0 0, .slice none 0 0, .slice none 0 0, .slice none 0 0, .int .i64 0] 49))
   exact hW4 ▸ h1
  have hbp : RdK pcE W4 (some ⟨w3.heap.size + 1, 0, none⟩) [scanC ⟨#[120]⟩] := by
   have h1 := RdK.touch0 (RdK.one (enc := pcE) (w3.alloc (.cells #[.string ⟨#[120]⟩, .slice sA cs.length sc, .slice rA rows.length rc] 36)) 49 (scanC ⟨#[120]⟩) #[.int .i64 1, .string ⟨#[120]⟩, .slice none 0 0, .int .i64 0, .string ⟨#[]⟩, .int .i64 0, .int .i64 0, .string ⟨#[]⟩, .string ⟨#[]⟩, .slice none 0 0, .slice none 0 0, .slice none 0 0, .slice none 0 0, .slice none 0 0, .slice none 0 0, .int .i64 0] rfl) ((Touch.refl [] _).alloc (.cells #[.int .i64 2, .string ⟨#[]⟩, .slice (some ⟨(w3.heap.size + 1), 0, none⟩) 1 1, .int .i64 ck, .string cn, .int .i64 cvk, .int .i64 cvn, .string cvt, .string cop, .slice CA cnn cc, .slice none 0 0, .slice none 0 0, .slice none 0 0, .slice none 0 0, .slice none 0 0, .int .i64 0] 49))
   rw [World.size_alloc] at h1
   exact hW4 ▸ h1
  have hby : W4.heap[w3.heap.size + 1 + 1]? = some (.cells #[.int .i64 2, .string ⟨#[]⟩, .slice (some ⟨(w3.heap.size + 1), 0, none⟩) 1 1, .int .i64 ck, .string cn, .int .i64 cvk, .int .i64 cvn, .string cvt, .string cop, .slice CA cnn cc, .slice none 0 0, .slice none 0 0, .slice none 0 0, .slice none 0 0, .slice none 0 0, .int .i64 0] 49 (0, 0)) := by
   have h1 := heap_alloc_new ((w3.alloc (.cells #[.string ⟨#[120]⟩, .slice sA cs.length sc, .slice rA rows.length rc] 36)).alloc (.cells #[.int .i64 1, .string ⟨#[120]⟩, .slice none 0 0, .int .i64 0, .string ⟨#[]⟩, .int .i64 0, .int .i64 0, .string ⟨#[]⟩, .string ⟨#[]⟩, .slice none 0 0, .slice none 0 0, .slice none 0 0, .slice none 0 0, .slice none 0 0, .slice none 0 0, .int .i64 0] 49)) (.cells #[.int .i64 2, .string ⟨#[]⟩, .slice (some ⟨(w3.heap.size + 1), 0, none⟩) 1 1, .int .i64 ck, .string cn, .int .i64 cvk, .int .i64 cvn, .string cvt, .string cop, .slice CA cnn cc, .slice none 0 0, .slice none 0 0, .slice none 0 0, .slice none 0 0, .slice none 0 0, .int .i64 0] 49)
   rw [World.size_alloc, World.size_alloc] at h1
   exact hW4 ▸ h1
  have e4 := t4.blk E3.out (by simp)
  have e4_0 : W4.cell? ⟨w.heap.size + 1, 0, none⟩ = some (.int .i64 ck) := cell_blk e4 rfl
  have e4_1 : W4.cell? ⟨w.heap.size + 1, 1, none⟩ = some (.string cn) := cell_blk e4 rfl
  have e4_2 : W4.cell? ⟨w.heap.size + 1, 2, none⟩ = some (.int .i64 cvk) := cell_blk e4 rfl
  have e4_3 : W4.cell? ⟨w.heap.size + 1, 3, none⟩ = some (.int .i64 cvn) := cell_blk e4 rfl
  have e4_4 : W4.cell? ⟨w.heap.size + 1, 4, none⟩ = some (.string cvt) := cell_blk e4 rfl
  have e4_5 : W4.cell? ⟨w.heap.size + 1, 5, none⟩ = some (.string cop) := cell_blk e4 rfl
  have e4_6 : W4.cell? ⟨w.heap.size + 1, 6, none⟩ = some (.slice CA cnn cc) := cell_blk e4 rfl
  have hX4 := (HE.out.touch0 (HT.out.trans0 T3.out)).touch0 t4
  have H4 := Lib.hid (And.intro t4 (And.intro hbs (And.intro hbp hby)))
  have Hun := Lib.hid (unaryX_any m wNot e (⟨⟨ck, cn, ⟨cvk, cvn, cvt⟩, cop⟩, CA, cnn, cc⟩ : XC) W4 hX4 (by have := HOA.out.2.2.1; omega))
  simp only [XC.val] at Hun
  have HW4 := Lib.hid hW4
  clear ta t4 hbs hbp hby hX4 hW4 e4
  go_upto_region 6 with fail
  rw [← HW4.out]
  clear e3_0 e3_1 e3_2 e3_3 e3_4 e3_5 e3_6 x3_0 x3_1
  have Hru := Lib.hid fun w' (t : Touch [] W4 w') => (⟨HOA.out.1, HOA.out.2.1, HG.out.touch0 ((HT.out.trans0 T3.out).trans0 (H4.out.1.trans0 t)), ⟨_, rfl, RdK.touch0 H4.out.2.1 t, fun i i1 i2 => by
   obtain rfl : i = 0 := by simp at i1; omega
   exact ⟨rfl, HX.out.touch0 ((HT.out.trans0 T3.out).trans0 (H4.out.1.trans0 t))⟩⟩⟩ : RuAt w' (some ⟨w3.heap.size, 0, none⟩) 1 cs rows)
  have HTW := Lib.hid ((HT.out.trans0 T3.out).trans0 H4.out.1)
  go_cut [10] (fun v10 wx => ∃ (gn : Nat) (nk : Int) (nn : ByteArray) (nvk nvn : Int) (nvt nop : ByteArray) (NA : Option Addr) (nm nc : Nat), v10 = .pointer (some ⟨gn, 0, none⟩) ∧ Hid (Touch [] W4 wx ∧ ExP xcE anyB (m + 1) wx (⟨⟨nk, nn, ⟨nvk, nvn, nvt⟩, nop⟩, NA, nm, nc⟩ : XC) (notX m e) ∧ wx.heap[gn]? = some (.cells #[.int .i64 2, .string ⟨#[]⟩, .slice (some ⟨(w3.heap.size + 1), 0, none⟩) 1 1, .int .i64 nk, .string nn, .int .i64 nvk, .int .i64 nvn, .string nvt, .string nop, .slice NA nm nc, .slice none 0 0, .slice none 0 0, .slice none 0 0, .slice none 0 0, .slice none 0 0, .int .i64 0] 49 (0, 0))))
  case first =>
   go_wp2_with fail
   refine Hun.out.mono ?_
   rintro e5 w5 ⟨⟨⟨nk, nn, ⟨nvk, nvn, nvt⟩, nop⟩, NA, nm, nc⟩, rfl, hx5, t5⟩
   dsimp only
   have H5 := Lib.hid (And.intro hx5 t5)
   clear hx5 t5 e4_0 e4_1 e4_2 e4_3 e4_4 e4_5 e4_6
   go_wp2_with fail
   go_meet
   have ta := (Touch.refl [] w5).alloc (.cells #[.int .i64 2, .string ⟨#[]⟩, .slice (some ⟨(w3.heap.size + 1), 0, none⟩) 1 1, .int .i64 nk, .string nn, .int .i64 nvk, .int .i64 nvn, .string nvt, .string nop, .slice NA nm nc, .slice none 0 0, .slice none 0 0, .slice none 0 0, .slice none 0 0, .slice none 0 0, .int .i64 0] 49)
   exact ⟨_, nk, nn, nvk, nvn, nvt, nop, NA, nm, nc, rfl, Lib.hid ⟨H5.out.2.trans0 ta, (H5.out.1.mono fun _ _ => trivial).touch0 ta, heap_alloc_new w5 _⟩⟩
  case rest =>
   obtain ⟨gn, nk, nn, nvk, nvn, nvt, nop, NA, nm, nc, rfl, H6⟩ := hcut
   obtain ⟨w6, hw6⟩ : ∃ w6, w6 = wc := ⟨_, rfl⟩
   subst hw6
   clear Hun e4_0 e4_1 e4_2 e4_3 e4_4 e4_5 e4_6 HW4
   have Y6 := Lib.hid (H6.out.1.blk H4.out.2.2.2 (by simp))
   have Hbo := Lib.hid fun g w' (t : Touch [] w6 w') (hX : RdK pcE w' (some ⟨g, 0, none⟩) [(⟨2, ⟨#[]⟩, ⟨some ⟨(w3.heap.size + 1), 0, none⟩, 1, 1⟩, (⟨⟨ck, cn, ⟨cvk, cvn, cvt⟩, cop⟩, CA, cnn, cc⟩ : XC), noS, noS, noS, noS, noS, 0⟩ : PC), (⟨2, ⟨#[]⟩, ⟨some ⟨(w3.heap.size + 1), 0, none⟩, 1, 1⟩, (⟨⟨nk, nn, ⟨nvk, nvn, nvt⟩, nop⟩, NA, nm, nc⟩ : XC), noS, noS, noS, noS, noS, 0⟩ : PC)]) =>
    (Hru.out w' (H6.out.1.trans0 t)).both (⟨7, ⟨#[]⟩, ⟨some ⟨g, 0, none⟩, 2, 2⟩, zeroX, noS, noS, noS, noS, noS, 0⟩ : PC) (⟨2, ⟨#[]⟩, ⟨some ⟨(w3.heap.size + 1), 0, none⟩, 1, 1⟩, (⟨⟨ck, cn, ⟨cvk, cvn, cvt⟩, cop⟩, CA, cnn, cc⟩ : XC), noS, noS, noS, noS, noS, 0⟩ : PC) (⟨2, ⟨#[]⟩, ⟨some ⟨(w3.heap.size + 1), 0, none⟩, 1, 1⟩, (⟨⟨nk, nn, ⟨nvk, nvn, nvt⟩, nop⟩, NA, nm, nc⟩ : XC), noS, noS, noS, noS, noS, 0⟩ : PC) rfl rfl hX e rfl rfl (RdK.touch0 H4.out.2.2.1 (H6.out.1.trans0 t)) ⟨(HE.out.touch0 HTW.out).touch0 (H6.out.1.trans0 t), by have := HOA.out.2.2.1; omega, HOA.out.2.2.2⟩ rfl rfl (RdK.touch0 H4.out.2.2.1 (H6.out.1.trans0 t)) (CondAt.not (x := (⟨⟨ck, cn, ⟨cvk, cvn, cvt⟩, cop⟩, CA, cnn, cc⟩ : XC)) (W := w') ⟨(HE.out.touch0 HTW.out).touch0 (H6.out.1.trans0 t), by have := HOA.out.2.2.1; omega, HOA.out.2.2.2⟩ HOA.out.2.2.1 (H6.out.2.1.touch0 t))
   have Hbv := Lib.hid ((Hru.out w6 H6.out.1).bothV e)
   obtain ⟨V, hV⟩ : ∃ V, V = topV (boT cs e) (boE cs rows e) := ⟨_, rfl⟩
   rw [← hV] at Hbv Hbo
   obtain ⟨ver, vcs, vrows⟩ := V
   simp only [PC.val, zeroX, noS] at Hbo
   clear hV
   go_upto_region 7 with fail
   go_cut [11, 12] (fun v11 v12 wx => ∃ (gb : Nat) (A1 : Option Addr) (k1 d1 : Nat) (B1 : Option Addr) (j1 f1 : Nat), v11 = .pointer (some ⟨gb, 0, none⟩) ∧ v12 = .int .i64 ver ∧ Hid (Touch [] w6 wx ∧ wx.heap[gb]? = some (.cells #[.slice A1 k1 d1, .slice B1 j1 f1] 27 (0, 0)) ∧ TabAt wx ⟨A1, k1, d1⟩ ⟨B1, j1, f1⟩ vcs vrows))
   case first =>
    refine wp_region_lit (l := [_, _, _, _, _, _, _, _, _, _, _, _]) ?_
    refine wpList_load_mid rfl 49 (.tmp 9) rfl (w3.heap.size + 1 + 1) 0 rfl [.int .i64 2, .string ⟨#[]⟩, .slice (some ⟨(w3.heap.size + 1), 0, none⟩) 1 1, .int .i64 ck, .string cn, .int .i64 cvk, .int .i64 cvn, .string cvt, .string cop, .slice CA cnn cc, .slice none 0 0, .slice none 0 0, .slice none 0 0, .slice none 0 0, .slice none 0 0, .int .i64 0] _ (rangeAt_blk Y6.out) Tryz.underlying49 rfl (by kernel_rfl) ?_
    simp only [Act.put, List.setIfInBounds_toArray, List.set_cons_zero, List.set_cons_succ]
    refine wpList_load_mid rfl 49 (.tmp 10) rfl gn 0 rfl [.int .i64 2, .string ⟨#[]⟩, .slice (some ⟨(w3.heap.size + 1), 0, none⟩) 1 1, .int .i64 nk, .string nn, .int .i64 nvk, .int .i64 nvn, .string nvt, .string nop, .slice NA nm nc, .slice none 0 0, .slice none 0 0, .slice none 0 0, .slice none 0 0, .slice none 0 0, .int .i64 0] _ (rangeAt_blk H6.out.2.2) Tryz.underlying49 rfl (by kernel_rfl) ?_
    simp only [Act.put, List.setIfInBounds_toArray, List.set_cons_zero, List.set_cons_succ]
    go_wp2_with fail
    have ta := (Touch.refl [] w6).alloc (.cells #[.int .i64 2, .string ⟨#[]⟩, .slice (some ⟨(w3.heap.size + 1), 0, none⟩) 1 1, .int .i64 ck, .string cn, .int .i64 cvk, .int .i64 cvn, .string cvt, .string cop, .slice CA cnn cc, .slice none 0 0, .slice none 0 0, .slice none 0 0, .slice none 0 0, .slice none 0 0, .int .i64 0, .int .i64 2, .string ⟨#[]⟩, .slice (some ⟨(w3.heap.size + 1), 0, none⟩) 1 1, .int .i64 nk, .string nn, .int .i64 nvk, .int .i64 nvn, .string nvt, .string nop, .slice NA nm nc, .slice none 0 0, .slice none 0 0, .slice none 0 0, .slice none 0 0, .slice none 0 0, .int .i64 0] 49)
    refine (Hbo.out w6.heap.size _ ta (RdK.row w6 49 [(⟨2, ⟨#[]⟩, ⟨some ⟨(w3.heap.size + 1), 0, none⟩, 1, 1⟩, (⟨⟨ck, cn, ⟨cvk, cvn, cvt⟩, cop⟩, CA, cnn, cc⟩ : XC), noS, noS, noS, noS, noS, 0⟩ : PC), (⟨2, ⟨#[]⟩, ⟨some ⟨(w3.heap.size + 1), 0, none⟩, 1, 1⟩, (⟨⟨nk, nn, ⟨nvk, nvn, nvt⟩, nop⟩, NA, nm, nc⟩ : XC), noS, noS, noS, noS, noS, 0⟩ : PC)] #[.int .i64 2, .string ⟨#[]⟩, .slice (some ⟨(w3.heap.size + 1), 0, none⟩) 1 1, .int .i64 ck, .string cn, .int .i64 cvk, .int .i64 cvn, .string cvt, .string cop, .slice CA cnn cc, .slice none 0 0, .slice none 0 0, .slice none 0 0, .slice none 0 0, .slice none 0 0, .int .i64 0, .int .i64 2, .string ⟨#[]⟩, .slice (some ⟨(w3.heap.size + 1), 0, none⟩) 1 1, .int .i64 nk, .string nn, .int .i64 nvk, .int .i64 nvn, .string nvt, .string nop, .slice NA nm nc, .slice none 0 0, .slice none 0 0, .slice none 0 0, .slice none 0 0, .slice none 0 0, .int .i64 0] rfl)).mono ?_
    rintro e7 w7 ⟨⟨A1, k1, d1⟩, ⟨B1, j1, f1⟩, rfl, hnt, t7⟩
    have H7 := Lib.hid (And.intro hnt.tab (ta.trans0 t7))
    clear hnt t7 ta
    go_wp2_with fail
    go_meet
    have tb := (Touch.refl [] w7).alloc (.cells #[.slice A1 k1 d1, .slice B1 j1 f1] 27)
    exact ⟨_, A1, k1, d1, B1, j1, f1, rfl, rfl, Lib.hid ⟨H7.out.2.trans0 tb, heap_alloc_new w7 _, H7.out.1.touch0 tb⟩⟩
   case rest =>
    obtain ⟨gb, A1, k1, d1, B1, j1, f1, rfl, rfl, H7⟩ := hcut
    obtain ⟨w7, hw7⟩ : ∃ w7, w7 = wc := ⟨_, rfl⟩
    subst hw7
    clear Hbo Y6
    have T7 := Lib.hid (H6.out.1.trans0 H7.out.1)
    have X7 := Lib.hid ((T3.out.trans0 (H4.out.1.trans0 T7.out)).blk HBX.out (by simp))
    have HR := Lib.hid (And.intro (show cs.length ≤ 16 from HOA.out.1.n) (And.intro (show rows.length ≤ 30 from HOA.out.1.m) (show ∀ r ∈ rows, r.length ≤ 140737000000000 from fun r hr => by have := (HOA.out.1.r r hr).1; omega)))
    go_upto_region 8 with fail
    go_cut [62] (fun c wx => c = .bool false ∧ Hid (Touch [] w7 wx))
    case first =>
     obtain ⟨g0, g1, _, _⟩ := blk2 H7.out.2.1
     obtain ⟨x0, x1, _, _⟩ := blk2 X7.out
     by_cases hv : ver = 0
     ·subst hv
      have hbv := Hbv.out rfl
      obtain ⟨rfl, rfl⟩ : vcs = cs ∧ vrows = rows := by
       have h1 := congrArg (fun v : Int × List CD × List (List VD) => v.2.1) hbv
       have h2 := congrArg (fun v : Int × List CD × List (List VD) => v.2.2) hbv
       exact ⟨h1, h2⟩
      have htb := H7.out.2.2
      obtain rfl : k1 = vcs.length := htb.n
      obtain rfl : j1 = vrows.length := htb.m
      have hxx := HX.out.touch0 (HTW.out.trans0 T7.out)
      have Heq := Lib.hid (tabEqual_same A1 B1 sA rA d1 f1 sc rc vcs.length vrows.length vcs vrows rfl rfl HR.out.2.2 w7 htb.cols hxx.cols htb.rws hxx.rws (by have := HR.out.1; omega) (by have := HR.out.2.1; omega))
      clear hbv htb hxx
      go_wp2_with fail
      refine Heq.out.mono ?_
      rintro e8 w8 ⟨rfl, t8⟩
      have H8 := Lib.hid t8
      clear t8
      go_wp2_with fail
      go_meet
      exact ⟨rfl, H8⟩
     ·have hq0 : (ver == 0) = false := by rw [beq_eq_false_iff_ne]; exact hv
      clear hv
      go_wp2_with fail
      go_meet
      exact ⟨rfl, Lib.hid (Touch.refl _ _)⟩
    case rest =>
     obtain ⟨rfl, H8⟩ := hcut
     obtain ⟨w8, hw8⟩ : ∃ w8, w8 = wc := ⟨_, rfl⟩
     subst hw8
     clear Hbv
     have T8 := Lib.hid (T7.out.trans0 H8.out)
     clear H7 H8 X7
     go_upto_region 10 with fail
     go_cut [13] (fun v13 wx => ∃ g3 : Nat, v13 = .pointer (some ⟨g3, 0, none⟩) ∧ Hid (Touch [] w8 wx ∧ wx.heap[g3]? = some (.cells #[.int .i64 8, .string ⟨#[]⟩, .slice (some ⟨(w3.heap.size + 1), 0, none⟩) 1 1, .int .i64 0, .string ⟨#[]⟩, .int .i64 0, .int .i64 0, .string ⟨#[]⟩, .string ⟨#[]⟩, .slice none 0 0, .slice none 0 0, .slice none 0 0, .slice none 0 0, .slice none 0 0, .slice none 0 0, .int .i64 0] 49 (0, 0))))
     case first =>
      go_wp2_with fail
      go_meet
      exact ⟨_, rfl, Lib.hid ⟨(Touch.refl [] w8).alloc _, heap_alloc_new w8 _⟩⟩
     case rest =>
      obtain ⟨g3, rfl, H9⟩ := hcut
      obtain ⟨w9, hw9⟩ : ∃ w9, w9 = wc := ⟨_, rfl⟩
      subst hw9
      have T9 := Lib.hid (T8.out.trans0 H9.out.1)
      have Hon := Lib.hid ((Hru.out w9 T9.out).once (⟨8, ⟨#[]⟩, ⟨some ⟨(w3.heap.size + 1), 0, none⟩, 1, 1⟩, zeroX, noS, noS, noS, noS, noS, 0⟩ : PC) rfl rfl (RdK.touch0 H4.out.2.2.1 T9.out))
      simp only [PC.val, zeroX, noS] at Hon
      go_upto_region 11 with fail
      go_cut [14, 15] (fun v14 v15 wx => ∃ (g4 : Nat) (A1 : Option Addr) (d1 : Nat) (B1 : Option Addr) (f1 : Nat), v14 = .pointer (some ⟨g4, 0, none⟩) ∧ v15 = .int .i64 0 ∧ Hid (Touch [] w9 wx ∧ wx.heap[g4]? = some (.cells #[.slice A1 cs.length d1, .slice B1 (cptR rows).length f1] 27 (0, 0)) ∧ TabAt wx ⟨A1, cs.length, d1⟩ ⟨B1, (cptR rows).length, f1⟩ cs (cptR rows)))
      case first =>
       refine wp_region_lit (l := [_, _, _, _, _, _, _, _, _]) ?_
       refine wpList_load_mid rfl 49 (.tmp 13) rfl g3 0 rfl [.int .i64 8, .string ⟨#[]⟩, .slice (some ⟨(w3.heap.size + 1), 0, none⟩) 1 1, .int .i64 0, .string ⟨#[]⟩, .int .i64 0, .int .i64 0, .string ⟨#[]⟩, .string ⟨#[]⟩, .slice none 0 0, .slice none 0 0, .slice none 0 0, .slice none 0 0, .slice none 0 0, .slice none 0 0, .int .i64 0] _ (rangeAt_blk H9.out.2) Tryz.underlying49 rfl (by kernel_rfl) ?_
       simp only [Act.put, List.setIfInBounds_toArray, List.set_cons_zero, List.set_cons_succ]
       go_wp2_with fail
       refine Hon.out.mono ?_
       rintro e7 w7 ⟨⟨A1, k1, d1⟩, ⟨B1, j1, f1⟩, rfl, hnt, t7⟩
       obtain rfl : k1 = cs.length := hnt.n
       obtain rfl : j1 = (cptR rows).length := hnt.m
       have H7 := Lib.hid (And.intro hnt.tab t7)
       clear hnt t7
       go_wp2_with fail
       go_meet
       have tb := (Touch.refl [] w7).alloc (.cells #[.slice A1 cs.length d1, .slice B1 (cptR rows).length f1] 27)
       exact ⟨_, A1, d1, B1, f1, rfl, rfl, Lib.hid ⟨H7.out.2.trans0 tb, heap_alloc_new w7 _, H7.out.1.touch0 tb⟩⟩
      case rest =>
       obtain ⟨g4, A1, d1, B1, f1, rfl, rfl, H10⟩ := hcut
       obtain ⟨w10, hw10⟩ : ∃ w10, w10 = wc := ⟨_, rfl⟩
       subst hw10
       clear Hon
       have T10 := Lib.hid (T9.out.trans0 H10.out.1)
       have O10 := Lib.hid (H10.out.1.blk H9.out.2 (by simp))
       have Htw := Lib.hid fun g w' (t : Touch [] w10 w') (hX : RdK pcE w' (some ⟨g, 0, none⟩) [(⟨8, ⟨#[]⟩, ⟨some ⟨(w3.heap.size + 1), 0, none⟩, 1, 1⟩, zeroX, noS, noS, noS, noS, noS, 0⟩ : PC)]) => (Hru.out w' (T10.out.trans0 t)).twice (⟨8, ⟨#[]⟩, ⟨some ⟨g, 0, none⟩, 1, 1⟩, zeroX, noS, noS, noS, noS, noS, 0⟩ : PC) (⟨8, ⟨#[]⟩, ⟨some ⟨(w3.heap.size + 1), 0, none⟩, 1, 1⟩, zeroX, noS, noS, noS, noS, noS, 0⟩ : PC) rfl rfl hX rfl rfl (RdK.touch0 H4.out.2.2.1 (T10.out.trans0 t))
       simp only [PC.val, zeroX, noS] at Htw
       go_upto_region 12 with fail
       go_cut [16, 17] (fun v14 v15 wx => ∃ (g5 : Nat) (A2 : Option Addr) (d2 : Nat) (B2 : Option Addr) (f2 : Nat), v14 = .pointer (some ⟨g5, 0, none⟩) ∧ v15 = .int .i64 0 ∧ Hid (Touch [] w10 wx ∧ wx.heap[g5]? = some (.cells #[.slice A2 cs.length d2, .slice B2 (cptR rows).length f2] 27 (0, 0)) ∧ TabAt wx ⟨A2, cs.length, d2⟩ ⟨B2, (cptR rows).length, f2⟩ cs (cptR rows)))
       case first =>
        refine wp_region_lit (l := [_, _, _, _, _, _, _, _, _, _, _]) ?_
        refine wpList_load_mid rfl 49 (.tmp 13) rfl g3 0 rfl [.int .i64 8, .string ⟨#[]⟩, .slice (some ⟨(w3.heap.size + 1), 0, none⟩) 1 1, .int .i64 0, .string ⟨#[]⟩, .int .i64 0, .int .i64 0, .string ⟨#[]⟩, .string ⟨#[]⟩, .slice none 0 0, .slice none 0 0, .slice none 0 0, .slice none 0 0, .slice none 0 0, .slice none 0 0, .int .i64 0] _ (rangeAt_blk O10.out) Tryz.underlying49 rfl (by kernel_rfl) ?_
        simp only [Act.put, List.setIfInBounds_toArray, List.set_cons_zero, List.set_cons_succ]
        go_wp2_with fail
        have ta := (Touch.refl [] w10).alloc (.cells #[.int .i64 8, .string ⟨#[]⟩, .slice (some ⟨(w3.heap.size + 1), 0, none⟩) 1 1, .int .i64 0, .string ⟨#[]⟩, .int .i64 0, .int .i64 0, .string ⟨#[]⟩, .string ⟨#[]⟩, .slice none 0 0, .slice none 0 0, .slice none 0 0, .slice none 0 0, .slice none 0 0, .slice none 0 0, .int .i64 0] 49)
        refine (Htw.out w10.heap.size _ ta (RdK.row w10 49 [(⟨8, ⟨#[]⟩, ⟨some ⟨(w3.heap.size + 1), 0, none⟩, 1, 1⟩, zeroX, noS, noS, noS, noS, noS, 0⟩ : PC)] #[.int .i64 8, .string ⟨#[]⟩, .slice (some ⟨(w3.heap.size + 1), 0, none⟩) 1 1, .int .i64 0, .string ⟨#[]⟩, .int .i64 0, .int .i64 0, .string ⟨#[]⟩, .string ⟨#[]⟩, .slice none 0 0, .slice none 0 0, .slice none 0 0, .slice none 0 0, .slice none 0 0, .slice none 0 0, .int .i64 0] rfl)).mono ?_
        rintro e7 w7 ⟨⟨A2, k2, d2⟩, ⟨B2, j2, f2⟩, rfl, hnt, t7⟩
        obtain rfl : k2 = cs.length := hnt.n
        obtain rfl : j2 = (cptR rows).length := hnt.m
        have H7 := Lib.hid (And.intro hnt.tab (ta.trans0 t7))
        clear hnt t7 ta
        go_wp2_with fail
        go_meet
        have tb := (Touch.refl [] w7).alloc (.cells #[.slice A2 cs.length d2, .slice B2 (cptR rows).length f2] 27)
        exact ⟨_, A2, d2, B2, f2, rfl, rfl, Lib.hid ⟨H7.out.2.trans0 tb, heap_alloc_new w7 _, H7.out.1.touch0 tb⟩⟩
       case rest =>
        obtain ⟨g5, A2, d2, B2, f2, rfl, rfl, H11⟩ := hcut
        obtain ⟨w11, hw11⟩ : ∃ w11, w11 = wc := ⟨_, rfl⟩
        subst hw11
        clear Htw O10
        have T11 := Lib.hid (T10.out.trans0 H11.out.1)
        have G4 := Lib.hid (H11.out.1.blk H10.out.2.1 (by simp))
        have X11 := Lib.hid ((T3.out.trans0 (H4.out.1.trans0 T11.out)).blk HBX.out (by simp))
        have hcl := cptR_le rows
        obtain ⟨Q, hQ⟩ : ∃ Q, Q = cptR rows := ⟨_, rfl⟩
        have Hql := Lib.hid (show ∀ r ∈ Q, r.length ≤ 140737000000000 from fun r hr => HR.out.2.2 r (cptR_mem (hQ ▸ hr)))
        rw [← hQ] at hcl H11 H10 G4
        clear hQ
        go_upto_region 13 with fail
        go_cut [99] (fun c wx => c = .bool false ∧ Hid (Touch [] w11 wx))
        case first =>
         obtain ⟨g0, g1, _, _⟩ := blk2 G4.out
         obtain ⟨y0, y1, _, _⟩ := blk2 H11.out.2.1
         have ht1 := H10.out.2.2.touch0 H11.out.1
         have ht2 := H11.out.2.2
         have Heq := Lib.hid (tabEqual_same A1 B1 A2 B2 d1 f1 d2 f2 cs.length Q.length cs Q rfl rfl Hql.out w11 ht1.cols ht2.cols ht1.rws ht2.rws (by have := HR.out.1; omega) (by have := HR.out.2.1; omega))
         have hll : ((rows.length : Int) < (Q.length : Int)) = False := eq_false (by omega)
         clear ht1 ht2 hcl
         go_wp2_with fail
         refine Heq.out.mono ?_
         rintro e8 w8' ⟨rfl, t8⟩
         obtain ⟨g0', g1', _, _⟩ := blk2 (t8.blk G4.out (by simp))
         obtain ⟨x0, x1, _, _⟩ := blk2 (t8.blk X11.out (by simp))
         have H12 := Lib.hid t8
         clear t8
         go_wp2_with fail
         go_meet
         exact ⟨rfl, H12⟩
        case rest =>
         obtain ⟨rfl, H12⟩ := hcut
         obtain ⟨w12, hw12⟩ : ∃ w12, w12 = wc := ⟨_, rfl⟩
         subst hw12
         have T12 := Lib.hid (T11.out.trans0 H12.out)
         clear H10 H11 G4 X11 hcl Hql
         have Hso := Lib.hid ((Hru.out w12 T12.out).some (⟨9, ⟨#[]⟩, ⟨some ⟨(w3.heap.size + 1), 0, none⟩, 1, 1⟩, zeroX, noS, noS, noS, noS, noS, count⟩ : PC) rfl rfl (RdK.touch0 H4.out.2.2.1 T12.out) rfl)
         simp only [PC.val, zeroX, noS] at Hso
         have X12 := Lib.hid ((T3.out.trans0 (H4.out.1.trans0 T12.out)).blk HBX.out (by simp))
         by_cases hcn : count < 0
         ·have hv : soV cs rows count = (20, [], []) := if_pos hcn
          rw [hv] at Hso
          have hct := eq_true hcn
          clear hv
          go_wp2_with fail
          refine Hso.out.mono ?_
          rintro e13 w13 ⟨⟨A3, k3, d3⟩, ⟨B3, j3, f3⟩, rfl, hnt, t13⟩
          have H13 := Lib.hid t13
          clear hnt t13
          go_wp2_with fail
          have tb := (Touch.refl [] w13).alloc (.cells #[.slice A3 k3 d3, .slice B3 j3 f3] 27)
          refine (Haw.out _ (HTW.out.trans0 ((T12.out.trans0 H13.out).trans0 tb))).mono ?_
          rintro e14 w14 ⟨rfl, t14⟩
          have H14 := Lib.hid ((HTW.out.trans0 ((T12.out.trans0 H13.out).trans0 tb)).trans0 t14)
          clear t14 tb
          go_wp2_with fail
          go_ret
          exact ⟨rfl, H14.out⟩
         ·have hv : soV cs rows count = (0, cs, rows.take count.toNat) := if_neg hcn
          rw [hv] at Hso
          have hct := eq_false hcn
          clear hv
          go_wp2_with fail
          refine Hso.out.mono ?_
          rintro e13 w13 ⟨⟨A3, k3, d3⟩, ⟨B3, j3, f3⟩, rfl, hnt, t13⟩
          have hj3 : (j3 : Int) = min count rows.length := by
           have h1 : j3 = (rows.take count.toNat).length := hnt.m
           rw [List.length_take] at h1
           omega
          have tb := (Touch.refl [] w13).alloc (.cells #[.slice A3 k3 d3, .slice B3 j3 f3] 27)
          obtain ⟨y0, y1, _, _⟩ := blk2 (heap_alloc_new w13 (.cells #[.slice A3 k3 d3, .slice B3 j3 f3] 27))
          obtain ⟨x0, x1, _, _⟩ := blk2 ((t13.trans0 tb).blk X12.out (by simp))
          have H13 := Lib.hid (t13.trans0 tb)
          clear hnt t13 tb
          go_wp2_with fail
          refine (Haw.out _ (HTW.out.trans0 (T12.out.trans0 H13.out))).mono ?_
          rintro e14 w14 ⟨rfl, t14⟩
          have H14 := Lib.hid ((HTW.out.trans0 (T12.out.trans0 H13.out)).trans0 t14)
          clear t14
          go_wp2_with fail
          go_ret
          exact ⟨rfl, H14.out⟩

theorem rules_law {m : Nat} (sx rx : SL) (x : XC) (e : TX m) (cs : List CD) (rows : List (List VD)) (count : Int) (w : World) (hX : TabAt w sx rx cs rows) (hE : ExP xcE anyB m w x e) (hta : TbIn cs rows) (hG : NeedsAt w) (hs : sizeX m e ≤ 1048576) (htx : allX (fun q => q.v.text.size ≤ 140737000000000) m e) :
  Calls Tryz.prog 7 #[.agg #[.slice sx.A sx.n sx.c, .slice rx.A rx.n rx.c], x.val, .int .i64 count] w fun e w' => e = .returned (.bool true) ∧ Touch [] w w' := by
 rcases Bool.eq_false_or_eq_true (smallT cs rows) with h1 | h1
 ·rcases Bool.eq_false_or_eq_true (rightV cs rows) with h2 | h2
  ·by_cases h3 : sizeX m e ≤ 60
   ·exact rules_b sx rx x e cs rows count w hX hE hta hG h1 h2 hs h3 htx
   ·exact rules_a3 sx rx x e cs rows count w hX hE hta hG h1 h2 hs h3
  ·exact rules_a2 sx rx x e cs rows count w hX hE hta hG h1 h2
 ·exact rules_a1 sx rx x e cs rows count w hX hE hta hG h1
end Go.Proofs.YtafoklilkdnepaaGreatDoor
