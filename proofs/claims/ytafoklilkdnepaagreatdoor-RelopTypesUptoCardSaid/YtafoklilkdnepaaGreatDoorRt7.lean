/- Part 7 of the texts of this proof, one behind the other; each begins with its own sentence. No condition beyond those that its theorems state. -/
import Derived.Test.YtafoklilkdnepaaGreatDoorRt6
import Derived.Deep.RegionHeld3
/- relop.Plan.schema: a plan's own schema by those of its Args: at joins and groups. (gen_rlschema.py) -/
namespace Go.Proofs.YtafoklilkdnepaaGreatDoor
open Go.RowKit

theorem keep17 {w w' : World} (ht : Touch [] w w') {a0 a1 a2 a3 a4 a5 a6 a7 a8 a9 a10 a11 a12 a13 a14 a15 a16 : Addr} {v0 v1 v2 v3 v4 v5 v6 v7 v8 v9 v10 v11 v12 v13 v14 v15 v16 : Value} (h : w.cell? a0 = some v0 ∧ w.cell? a1 = some v1 ∧ w.cell? a2 = some v2 ∧ w.cell? a3 = some v3 ∧ w.cell? a4 = some v4 ∧ w.cell? a5 = some v5 ∧ w.cell? a6 = some v6 ∧ w.cell? a7 = some v7 ∧ w.cell? a8 = some v8 ∧ w.cell? a9 = some v9 ∧ w.cell? a10 = some v10 ∧ w.cell? a11 = some v11 ∧ w.cell? a12 = some v12 ∧ w.cell? a13 = some v13 ∧ w.cell? a14 = some v14 ∧ w.cell? a15 = some v15 ∧ w.cell? a16 = some v16) : w'.cell? a0 = some v0 ∧ w'.cell? a1 = some v1 ∧ w'.cell? a2 = some v2 ∧ w'.cell? a3 = some v3 ∧ w'.cell? a4 = some v4 ∧ w'.cell? a5 = some v5 ∧ w'.cell? a6 = some v6 ∧ w'.cell? a7 = some v7 ∧ w'.cell? a8 = some v8 ∧ w'.cell? a9 = some v9 ∧ w'.cell? a10 = some v10 ∧ w'.cell? a11 = some v11 ∧ w'.cell? a12 = some v12 ∧ w'.cell? a13 = some v13 ∧ w'.cell? a14 = some v14 ∧ w'.cell? a15 = some v15 ∧ w'.cell? a16 = some v16 := by
  obtain ⟨h0, h1, h2, h3, h4, h5, h6, h7, h8, h9, h10, h11, h12, h13, h14, h15, h16⟩ := h
  exact ⟨ht.cell h0 (by simp), ht.cell h1 (by simp), ht.cell h2 (by simp), ht.cell h3 (by simp), ht.cell h4 (by simp), ht.cell h5 (by simp), ht.cell h6 (by simp), ht.cell h7 (by simp), ht.cell h8 (by simp), ht.cell h9 (by simp), ht.cell h10 (by simp), ht.cell h11 (by simp), ht.cell h12 (by simp), ht.cell h13 (by simp), ht.cell h14 (by simp), ht.cell h15 (by simp), ht.cell h16 (by simp)⟩
theorem keep18 {w w' : World} (ht : Touch [] w w') {a0 a1 a2 a3 a4 a5 a6 a7 a8 a9 a10 a11 a12 a13 a14 a15 a16 a17 : Addr} {v0 v1 v2 v3 v4 v5 v6 v7 v8 v9 v10 v11 v12 v13 v14 v15 v16 v17 : Value} (h : w.cell? a0 = some v0 ∧ w.cell? a1 = some v1 ∧ w.cell? a2 = some v2 ∧ w.cell? a3 = some v3 ∧ w.cell? a4 = some v4 ∧ w.cell? a5 = some v5 ∧ w.cell? a6 = some v6 ∧ w.cell? a7 = some v7 ∧ w.cell? a8 = some v8 ∧ w.cell? a9 = some v9 ∧ w.cell? a10 = some v10 ∧ w.cell? a11 = some v11 ∧ w.cell? a12 = some v12 ∧ w.cell? a13 = some v13 ∧ w.cell? a14 = some v14 ∧ w.cell? a15 = some v15 ∧ w.cell? a16 = some v16 ∧ w.cell? a17 = some v17) : w'.cell? a0 = some v0 ∧ w'.cell? a1 = some v1 ∧ w'.cell? a2 = some v2 ∧ w'.cell? a3 = some v3 ∧ w'.cell? a4 = some v4 ∧ w'.cell? a5 = some v5 ∧ w'.cell? a6 = some v6 ∧ w'.cell? a7 = some v7 ∧ w'.cell? a8 = some v8 ∧ w'.cell? a9 = some v9 ∧ w'.cell? a10 = some v10 ∧ w'.cell? a11 = some v11 ∧ w'.cell? a12 = some v12 ∧ w'.cell? a13 = some v13 ∧ w'.cell? a14 = some v14 ∧ w'.cell? a15 = some v15 ∧ w'.cell? a16 = some v16 ∧ w'.cell? a17 = some v17 := by
  obtain ⟨h0, h1, h2, h3, h4, h5, h6, h7, h8, h9, h10, h11, h12, h13, h14, h15, h16, h17⟩ := h
  exact ⟨ht.cell h0 (by simp), ht.cell h1 (by simp), ht.cell h2 (by simp), ht.cell h3 (by simp), ht.cell h4 (by simp), ht.cell h5 (by simp), ht.cell h6 (by simp), ht.cell h7 (by simp), ht.cell h8 (by simp), ht.cell h9 (by simp), ht.cell h10 (by simp), ht.cell h11 (by simp), ht.cell h12 (by simp), ht.cell h13 (by simp), ht.cell h14 (by simp), ht.cell h15 (by simp), ht.cell h16 (by simp), ht.cell h17 (by simp)⟩
set_option maxRecDepth 40000 in
set_option maxHeartbeats 6400000 in
theorem schema_join (x : PC) (hk0 : x.kind = 4) (on : List (ByteArray × ByteArray)) (ho : x.on.n = on.length) (hlo : on.length ≤ 1000000) (L : Option Addr) (lc : Nat) (s1 s2 : SL) (a b : List CD) (h1 : s1.n = a.length) (h2 : s2.n = b.length) (hk1 : s1.n ≤ s1.c) (hk2 : s2.n ≤ s2.c) (hl1 : a.length ≤ 1000) (hl2 : b.length ≤ 1000) (w : World)
    (hL : RdK slE w L [s1, s2]) (hr : RdK prE w x.on.A on) (ha : ColsAt w s1.A a) (hb : ColsAt w s2.A b) :
    Calls Tryz.prog 64 #[x.val, .slice L 2 lc] w fun e w' => ∃ A c, e = .returned (.tuple #[.slice A (a ++ b).length c, .int .i64 (onV a b on)]) ∧ Made 29 2 cdE (a ++ b) A c w w' := by
  obtain ⟨SA, sn, sc⟩ := s1
  obtain ⟨SB, tn, tc⟩ := s2
  dsimp only at *
  subst h1 h2
  obtain ⟨k0, k1, ⟨A2, n2, c2'⟩, ⟨⟨ck, cn, ⟨cvk, cvn, cvt⟩, cop⟩, CA, cnn, cc⟩, ⟨NA, nn, nc⟩, ⟨EA, en, ec⟩, ⟨OA, ol, oc⟩, ⟨GA, gn, gc⟩, ⟨BA, bn, bc⟩, count⟩ := x
  dsimp only at hk0 ho hr
  subst hk0
  obtain ⟨ad, bl, bo, rfl, hadd0, hc0⟩ := RdK.cells hL 1 slE_length (by omega) 0 (by simp)
  obtain ⟨ad', bl', bo', e', hadd1, hc1⟩ := RdK.cells hL 1 slE_length (by omega) 1 (by simp)
  obtain rfl : ad = ad' := by injection e'
  have l0 := hc0 0 _ rfl
  have l1 := hc1 0 _ rfl
  simp only [Nat.zero_mul, Nat.one_mul, Nat.add_zero] at hadd0 hadd1 l0 l1
  simp only [List.getElem_cons_zero, List.getElem_cons_succ] at l0 l1
  have Hon := Lib.hid fun w' (t : Touch [] w w') => checkOn_any ⟨4, k1, ⟨A2, n2, c2'⟩, ⟨⟨ck, cn, ⟨cvk, cvn, cvt⟩, cop⟩, CA, cnn, cc⟩, ⟨NA, nn, nc⟩, ⟨EA, en, ec⟩, ⟨OA, ol, oc⟩, ⟨GA, gn, gc⟩, ⟨BA, bn, bc⟩, count⟩ on ho SA SB sc tc a.length b.length a b rfl rfl (by omega) (by omega) hlo w' (RdK.touch0 hr t) (ha.touch0 t) (hb.touch0 t)
  have Hcc := Lib.hid fun w' (t : Touch [] w w') => concatC_any SA SB a.length b.length sc tc a b rfl rfl hl1 hl2 hk1 hk2 w' (ha.touch0 t) (hb.touch0 t)
  simp only [PC.val] at *
  obtain ⟨K, hK⟩ : ∃ K, K = onV a b on := ⟨_, rfl⟩
  rw [← hK] at Hon ⊢
  obtain ⟨M, hM⟩ : ∃ M, M = (a ++ b).length := ⟨_, rfl⟩
  rw [← hM] at Hcc ⊢
  obtain ⟨W, hW⟩ : ∃ W, W = w.alloc (.cells #[.int .i64 4, .string k1, .slice A2 n2 c2', .int .i64 ck, .string cn, .int .i64 cvk, .int .i64 cvn, .string cvt, .string cop, .slice CA cnn cc, .slice NA nn nc, .slice EA en ec, .slice OA ol oc, .slice GA gn gc, .slice BA bn bc, .int .i64 count] 49) := ⟨_, rfl⟩
  have t0 : Touch [] w W := hW ▸ (Touch.refl [] w).alloc _
  have hb0 := hW ▸ heap_alloc_new w (.cells #[.int .i64 4, .string k1, .slice A2 n2 c2', .int .i64 ck, .string cn, .int .i64 cvk, .int .i64 cvn, .string cvt, .string cop, .slice CA cnn cc, .slice NA nn nc, .slice EA en ec, .slice OA ol oc, .slice GA gn gc, .slice BA bn bc, .int .i64 count] 49)
  have l0d := t0.drew.cell l0 (by simp)
  have l1d := t0.drew.cell l1 (by simp)
  obtain ⟨p0, p1, p2, p3, p4, p5, p6, p7, p8, p9, p10, p11, p12, p13, p14, p15⟩ := blk16 ((Touch.refl [] W).drew.blk hb0 (by simp))
  have HP : Hid (W.drew.cell? ⟨w.heap.size, 0, none⟩ = some (.int .i64 4) ∧ W.drew.cell? ⟨w.heap.size, 1, none⟩ = some (.string k1) ∧ W.drew.cell? ⟨w.heap.size, 2, none⟩ = some (.slice A2 n2 c2') ∧ W.drew.cell? ⟨w.heap.size, 3, none⟩ = some (.int .i64 ck) ∧ W.drew.cell? ⟨w.heap.size, 4, none⟩ = some (.string cn) ∧ W.drew.cell? ⟨w.heap.size, 5, none⟩ = some (.int .i64 cvk) ∧ W.drew.cell? ⟨w.heap.size, 6, none⟩ = some (.int .i64 cvn) ∧ W.drew.cell? ⟨w.heap.size, 7, none⟩ = some (.string cvt) ∧ W.drew.cell? ⟨w.heap.size, 8, none⟩ = some (.string cop) ∧ W.drew.cell? ⟨w.heap.size, 9, none⟩ = some (.slice CA cnn cc) ∧ W.drew.cell? ⟨w.heap.size, 10, none⟩ = some (.slice NA nn nc) ∧ W.drew.cell? ⟨w.heap.size, 11, none⟩ = some (.slice EA en ec) ∧ W.drew.cell? ⟨w.heap.size, 12, none⟩ = some (.slice OA ol oc) ∧ W.drew.cell? ⟨w.heap.size, 13, none⟩ = some (.slice GA gn gc) ∧ W.drew.cell? ⟨w.heap.size, 14, none⟩ = some (.slice BA bn bc) ∧ W.drew.cell? ⟨w.heap.size, 15, none⟩ = some (.int .i64 count) ∧ W.drew.cell? ⟨bl, bo, none⟩ = some (.slice SA a.length sc) ∧ W.drew.cell? ⟨bl', bo', none⟩ = some (.slice SB b.length tc)) := Lib.hid ⟨p0, p1, p2, p3, p4, p5, p6, p7, p8, p9, p10, p11, p12, p13, p14, p15, l0d, l1d⟩
  have HW := Lib.hid hW
  have HT0 := Lib.hid t0.drew
  clear ho hr ha hb hL hc0 hc1 hK hM hW t0 l0 l1 e' hb0 l0d l1d p0 p1 p2 p3 p4 p5 p6 p7 p8 p9 p10 p11 p12 p13 p14 p15
  go_enter Tryz.func64, Tryz.ntmps64
  go_wp2_with fail
  rw [← HW.out]
  go_region_held3 (fun w' => w'.cell? ⟨w.heap.size, 0, none⟩ = some (.int .i64 4) ∧ w'.cell? ⟨w.heap.size, 1, none⟩ = some (.string k1) ∧ w'.cell? ⟨w.heap.size, 2, none⟩ = some (.slice A2 n2 c2') ∧ w'.cell? ⟨w.heap.size, 3, none⟩ = some (.int .i64 ck) ∧ w'.cell? ⟨w.heap.size, 4, none⟩ = some (.string cn) ∧ w'.cell? ⟨w.heap.size, 5, none⟩ = some (.int .i64 cvk) ∧ w'.cell? ⟨w.heap.size, 6, none⟩ = some (.int .i64 cvn) ∧ w'.cell? ⟨w.heap.size, 7, none⟩ = some (.string cvt) ∧ w'.cell? ⟨w.heap.size, 8, none⟩ = some (.string cop) ∧ w'.cell? ⟨w.heap.size, 9, none⟩ = some (.slice CA cnn cc) ∧ w'.cell? ⟨w.heap.size, 10, none⟩ = some (.slice NA nn nc) ∧ w'.cell? ⟨w.heap.size, 11, none⟩ = some (.slice EA en ec) ∧ w'.cell? ⟨w.heap.size, 12, none⟩ = some (.slice OA ol oc) ∧ w'.cell? ⟨w.heap.size, 13, none⟩ = some (.slice GA gn gc) ∧ w'.cell? ⟨w.heap.size, 14, none⟩ = some (.slice BA bn bc) ∧ w'.cell? ⟨w.heap.size, 15, none⟩ = some (.int .i64 count) ∧ w'.cell? ⟨bl, bo, none⟩ = some (.slice SA a.length sc) ∧ w'.cell? ⟨bl', bo', none⟩ = some (.slice SB b.length tc)) (first | exact HP.out | exact keep18 ((Touch.refl [] _).alloc _) HP.out | exact keep18 M1.out.t HP.out | exact keep18 (M1.out.t.trans0 t2) HP.out) (first
    | (go_at_call 90; refine (Hcc.out _ HT0.out).mono ?_; rintro e w1 ⟨A1, c1, rfl, m1⟩; have M1 := Lib.hid m1; clear m1)
    | (go_at_call 91; refine (Hon.out _ (HT0.out.trans0 M1.out.t)).mono ?_; rintro e w2 ⟨rfl, t2⟩))
  go_wp2_with fail
  go_ret2
  exact ⟨A1, c1, rfl, M1.out.own.touch0 t2, (HT0.out.trans0 M1.out.t).trans0 t2, fun b hb => Nat.le_trans HT0.out.size (M1.out.f b hb)⟩

set_option maxRecDepth 40000 in
set_option maxHeartbeats 6400000 in
theorem schema_left (x : PC) (hk0 : x.kind = 5) (on : List (ByteArray × ByteArray)) (ho : x.on.n = on.length) (hlo : on.length ≤ 1000000) (L : Option Addr) (lc : Nat) (s1 s2 : SL) (a b : List CD) (h1 : s1.n = a.length) (h2 : s2.n = b.length) (hk1 : s1.n ≤ s1.c) (hk2 : s2.n ≤ s2.c) (hl1 : a.length ≤ 1000) (hl2 : b.length ≤ 1000) (w : World)
    (hL : RdK slE w L [s1, s2]) (hr : RdK prE w x.on.A on) (ha : ColsAt w s1.A a) (hb : ColsAt w s2.A b) :
    Calls Tryz.prog 64 #[x.val, .slice L 2 lc] w fun e w' => ∃ A c, e = .returned (.tuple #[.slice A (a ++ b).length c, .int .i64 (onV a b on)]) ∧ Made 29 2 cdE (a ++ b) A c w w' := by
  obtain ⟨SA, sn, sc⟩ := s1
  obtain ⟨SB, tn, tc⟩ := s2
  dsimp only at *
  subst h1 h2
  obtain ⟨k0, k1, ⟨A2, n2, c2'⟩, ⟨⟨ck, cn, ⟨cvk, cvn, cvt⟩, cop⟩, CA, cnn, cc⟩, ⟨NA, nn, nc⟩, ⟨EA, en, ec⟩, ⟨OA, ol, oc⟩, ⟨GA, gn, gc⟩, ⟨BA, bn, bc⟩, count⟩ := x
  dsimp only at hk0 ho hr
  subst hk0
  obtain ⟨ad, bl, bo, rfl, hadd0, hc0⟩ := RdK.cells hL 1 slE_length (by omega) 0 (by simp)
  obtain ⟨ad', bl', bo', e', hadd1, hc1⟩ := RdK.cells hL 1 slE_length (by omega) 1 (by simp)
  obtain rfl : ad = ad' := by injection e'
  have l0 := hc0 0 _ rfl
  have l1 := hc1 0 _ rfl
  simp only [Nat.zero_mul, Nat.one_mul, Nat.add_zero] at hadd0 hadd1 l0 l1
  simp only [List.getElem_cons_zero, List.getElem_cons_succ] at l0 l1
  have Hon := Lib.hid fun w' (t : Touch [] w w') => checkOn_any ⟨5, k1, ⟨A2, n2, c2'⟩, ⟨⟨ck, cn, ⟨cvk, cvn, cvt⟩, cop⟩, CA, cnn, cc⟩, ⟨NA, nn, nc⟩, ⟨EA, en, ec⟩, ⟨OA, ol, oc⟩, ⟨GA, gn, gc⟩, ⟨BA, bn, bc⟩, count⟩ on ho SA SB sc tc a.length b.length a b rfl rfl (by omega) (by omega) hlo w' (RdK.touch0 hr t) (ha.touch0 t) (hb.touch0 t)
  have Hcc := Lib.hid fun w' (t : Touch [] w w') => concatC_any SA SB a.length b.length sc tc a b rfl rfl hl1 hl2 hk1 hk2 w' (ha.touch0 t) (hb.touch0 t)
  simp only [PC.val] at *
  obtain ⟨K, hK⟩ : ∃ K, K = onV a b on := ⟨_, rfl⟩
  rw [← hK] at Hon ⊢
  obtain ⟨M, hM⟩ : ∃ M, M = (a ++ b).length := ⟨_, rfl⟩
  rw [← hM] at Hcc ⊢
  obtain ⟨W, hW⟩ : ∃ W, W = w.alloc (.cells #[.int .i64 5, .string k1, .slice A2 n2 c2', .int .i64 ck, .string cn, .int .i64 cvk, .int .i64 cvn, .string cvt, .string cop, .slice CA cnn cc, .slice NA nn nc, .slice EA en ec, .slice OA ol oc, .slice GA gn gc, .slice BA bn bc, .int .i64 count] 49) := ⟨_, rfl⟩
  have t0 : Touch [] w W := hW ▸ (Touch.refl [] w).alloc _
  have hb0 := hW ▸ heap_alloc_new w (.cells #[.int .i64 5, .string k1, .slice A2 n2 c2', .int .i64 ck, .string cn, .int .i64 cvk, .int .i64 cvn, .string cvt, .string cop, .slice CA cnn cc, .slice NA nn nc, .slice EA en ec, .slice OA ol oc, .slice GA gn gc, .slice BA bn bc, .int .i64 count] 49)
  have l0d := t0.drew.cell l0 (by simp)
  have l1d := t0.drew.cell l1 (by simp)
  obtain ⟨p0, p1, p2, p3, p4, p5, p6, p7, p8, p9, p10, p11, p12, p13, p14, p15⟩ := blk16 ((Touch.refl [] W).drew.blk hb0 (by simp))
  have HP : Hid (W.drew.cell? ⟨w.heap.size, 0, none⟩ = some (.int .i64 5) ∧ W.drew.cell? ⟨w.heap.size, 1, none⟩ = some (.string k1) ∧ W.drew.cell? ⟨w.heap.size, 2, none⟩ = some (.slice A2 n2 c2') ∧ W.drew.cell? ⟨w.heap.size, 3, none⟩ = some (.int .i64 ck) ∧ W.drew.cell? ⟨w.heap.size, 4, none⟩ = some (.string cn) ∧ W.drew.cell? ⟨w.heap.size, 5, none⟩ = some (.int .i64 cvk) ∧ W.drew.cell? ⟨w.heap.size, 6, none⟩ = some (.int .i64 cvn) ∧ W.drew.cell? ⟨w.heap.size, 7, none⟩ = some (.string cvt) ∧ W.drew.cell? ⟨w.heap.size, 8, none⟩ = some (.string cop) ∧ W.drew.cell? ⟨w.heap.size, 9, none⟩ = some (.slice CA cnn cc) ∧ W.drew.cell? ⟨w.heap.size, 10, none⟩ = some (.slice NA nn nc) ∧ W.drew.cell? ⟨w.heap.size, 11, none⟩ = some (.slice EA en ec) ∧ W.drew.cell? ⟨w.heap.size, 12, none⟩ = some (.slice OA ol oc) ∧ W.drew.cell? ⟨w.heap.size, 13, none⟩ = some (.slice GA gn gc) ∧ W.drew.cell? ⟨w.heap.size, 14, none⟩ = some (.slice BA bn bc) ∧ W.drew.cell? ⟨w.heap.size, 15, none⟩ = some (.int .i64 count) ∧ W.drew.cell? ⟨bl, bo, none⟩ = some (.slice SA a.length sc) ∧ W.drew.cell? ⟨bl', bo', none⟩ = some (.slice SB b.length tc)) := Lib.hid ⟨p0, p1, p2, p3, p4, p5, p6, p7, p8, p9, p10, p11, p12, p13, p14, p15, l0d, l1d⟩
  have HW := Lib.hid hW
  have HT0 := Lib.hid t0.drew
  clear ho hr ha hb hL hc0 hc1 hK hM hW t0 l0 l1 e' hb0 l0d l1d p0 p1 p2 p3 p4 p5 p6 p7 p8 p9 p10 p11 p12 p13 p14 p15
  go_enter Tryz.func64, Tryz.ntmps64
  go_wp2_with fail
  rw [← HW.out]
  go_region_held3 (fun w' => w'.cell? ⟨w.heap.size, 0, none⟩ = some (.int .i64 5) ∧ w'.cell? ⟨w.heap.size, 1, none⟩ = some (.string k1) ∧ w'.cell? ⟨w.heap.size, 2, none⟩ = some (.slice A2 n2 c2') ∧ w'.cell? ⟨w.heap.size, 3, none⟩ = some (.int .i64 ck) ∧ w'.cell? ⟨w.heap.size, 4, none⟩ = some (.string cn) ∧ w'.cell? ⟨w.heap.size, 5, none⟩ = some (.int .i64 cvk) ∧ w'.cell? ⟨w.heap.size, 6, none⟩ = some (.int .i64 cvn) ∧ w'.cell? ⟨w.heap.size, 7, none⟩ = some (.string cvt) ∧ w'.cell? ⟨w.heap.size, 8, none⟩ = some (.string cop) ∧ w'.cell? ⟨w.heap.size, 9, none⟩ = some (.slice CA cnn cc) ∧ w'.cell? ⟨w.heap.size, 10, none⟩ = some (.slice NA nn nc) ∧ w'.cell? ⟨w.heap.size, 11, none⟩ = some (.slice EA en ec) ∧ w'.cell? ⟨w.heap.size, 12, none⟩ = some (.slice OA ol oc) ∧ w'.cell? ⟨w.heap.size, 13, none⟩ = some (.slice GA gn gc) ∧ w'.cell? ⟨w.heap.size, 14, none⟩ = some (.slice BA bn bc) ∧ w'.cell? ⟨w.heap.size, 15, none⟩ = some (.int .i64 count) ∧ w'.cell? ⟨bl, bo, none⟩ = some (.slice SA a.length sc) ∧ w'.cell? ⟨bl', bo', none⟩ = some (.slice SB b.length tc)) (first | exact HP.out | exact keep18 ((Touch.refl [] _).alloc _) HP.out | exact keep18 M1.out.t HP.out | exact keep18 (M1.out.t.trans0 t2) HP.out) (first
    | (go_at_call 90; refine (Hcc.out _ HT0.out).mono ?_; rintro e w1 ⟨A1, c1, rfl, m1⟩; have M1 := Lib.hid m1; clear m1)
    | (go_at_call 91; refine (Hon.out _ (HT0.out.trans0 M1.out.t)).mono ?_; rintro e w2 ⟨rfl, t2⟩))
  go_wp2_with fail
  go_ret2
  exact ⟨A1, c1, rfl, M1.out.own.touch0 t2, (HT0.out.trans0 M1.out.t).trans0 t2, fun b hb => Nat.le_trans HT0.out.size (M1.out.f b hb)⟩

set_option maxRecDepth 40000 in
set_option maxHeartbeats 6400000 in
theorem schema_group (x : PC) (hk0 : x.kind = 6) (names : List ByteArray) (aggs : List AG) (hnn : x.names.n = names.length) (han : x.aggs.n = aggs.length) (hln : names.length ≤ 100000) (hla : aggs.length ≤ 100000) (L : Option Addr) (lc : Nat) (s1 : SL) (a : List CD) (h1 : s1.n = a.length) (hl1 : a.length ≤ 1000) (w : World)
    (hL : RdK slE w L [s1]) (hr : RdK btE w x.names.A names) (hg : RdK agE w x.aggs.A aggs) (ha : ColsAt w s1.A a) :
    Calls Tryz.prog 64 #[x.val, .slice L 1 lc] w (SchPost (groupV a names aggs) w) := by
  obtain ⟨SA, sn, sc⟩ := s1
  dsimp only at *
  subst h1
  obtain ⟨k0, k1, ⟨A2, n2, c2'⟩, ⟨⟨ck, cn, ⟨cvk, cvn, cvt⟩, cop⟩, CA, cnn, cc⟩, ⟨NA, nn, nc⟩, ⟨EA, en, ec⟩, ⟨OA, ol, oc⟩, ⟨GA, gn, gc⟩, ⟨BA, bn, bc⟩, count⟩ := x
  dsimp only at hk0 hnn han hr hg
  subst hk0
  obtain ⟨ad, bl, bo, rfl, hadd0, hc0⟩ := RdK.cells hL 1 slE_length (by omega) 0 (by simp)
  have l0 := hc0 0 _ rfl
  simp only [Nat.zero_mul, Nat.add_zero] at hadd0 l0
  simp only [List.getElem_cons_zero] at l0
  have Hgs := Lib.hid fun w' (t : Touch [] w w') => groupSchema_any ⟨6, k1, ⟨A2, n2, c2'⟩, ⟨⟨ck, cn, ⟨cvk, cvn, cvt⟩, cop⟩, CA, cnn, cc⟩, ⟨NA, nn, nc⟩, ⟨EA, en, ec⟩, ⟨OA, ol, oc⟩, ⟨GA, gn, gc⟩, ⟨BA, bn, bc⟩, count⟩ names aggs hnn han SA sc a.length a rfl (by omega) hln hla w' (RdK.touch0 hr t) (RdK.touch0 hg t) (ha.touch0 t)
  simp only [PC.val] at *
  obtain ⟨V, hV⟩ : ∃ V, V = groupV a names aggs := ⟨_, rfl⟩
  rw [← hV] at Hgs ⊢
  obtain ⟨W, hW⟩ : ∃ W, W = w.alloc (.cells #[.int .i64 6, .string k1, .slice A2 n2 c2', .int .i64 ck, .string cn, .int .i64 cvk, .int .i64 cvn, .string cvt, .string cop, .slice CA cnn cc, .slice NA nn nc, .slice EA en ec, .slice OA ol oc, .slice GA gn gc, .slice BA bn bc, .int .i64 count] 49) := ⟨_, rfl⟩
  have t0 : Touch [] w W := hW ▸ (Touch.refl [] w).alloc _
  have hb0 := hW ▸ heap_alloc_new w (.cells #[.int .i64 6, .string k1, .slice A2 n2 c2', .int .i64 ck, .string cn, .int .i64 cvk, .int .i64 cvn, .string cvt, .string cop, .slice CA cnn cc, .slice NA nn nc, .slice EA en ec, .slice OA ol oc, .slice GA gn gc, .slice BA bn bc, .int .i64 count] 49)
  have l0d := t0.drew.cell l0 (by simp)
  obtain ⟨p0, p1, p2, p3, p4, p5, p6, p7, p8, p9, p10, p11, p12, p13, p14, p15⟩ := blk16 ((Touch.refl [] W).drew.blk hb0 (by simp))
  have HP : Hid (W.drew.cell? ⟨w.heap.size, 0, none⟩ = some (.int .i64 6) ∧ W.drew.cell? ⟨w.heap.size, 1, none⟩ = some (.string k1) ∧ W.drew.cell? ⟨w.heap.size, 2, none⟩ = some (.slice A2 n2 c2') ∧ W.drew.cell? ⟨w.heap.size, 3, none⟩ = some (.int .i64 ck) ∧ W.drew.cell? ⟨w.heap.size, 4, none⟩ = some (.string cn) ∧ W.drew.cell? ⟨w.heap.size, 5, none⟩ = some (.int .i64 cvk) ∧ W.drew.cell? ⟨w.heap.size, 6, none⟩ = some (.int .i64 cvn) ∧ W.drew.cell? ⟨w.heap.size, 7, none⟩ = some (.string cvt) ∧ W.drew.cell? ⟨w.heap.size, 8, none⟩ = some (.string cop) ∧ W.drew.cell? ⟨w.heap.size, 9, none⟩ = some (.slice CA cnn cc) ∧ W.drew.cell? ⟨w.heap.size, 10, none⟩ = some (.slice NA nn nc) ∧ W.drew.cell? ⟨w.heap.size, 11, none⟩ = some (.slice EA en ec) ∧ W.drew.cell? ⟨w.heap.size, 12, none⟩ = some (.slice OA ol oc) ∧ W.drew.cell? ⟨w.heap.size, 13, none⟩ = some (.slice GA gn gc) ∧ W.drew.cell? ⟨w.heap.size, 14, none⟩ = some (.slice BA bn bc) ∧ W.drew.cell? ⟨w.heap.size, 15, none⟩ = some (.int .i64 count) ∧ W.drew.cell? ⟨bl, bo, none⟩ = some (.slice SA a.length sc)) := Lib.hid ⟨p0, p1, p2, p3, p4, p5, p6, p7, p8, p9, p10, p11, p12, p13, p14, p15, l0d⟩
  have HW := Lib.hid hW
  have HT0 := Lib.hid t0.drew
  clear hnn han hr hg ha hL hc0 hV hW t0 l0 hb0 l0d p0 p1 p2 p3 p4 p5 p6 p7 p8 p9 p10 p11 p12 p13 p14 p15
  go_enter Tryz.func64, Tryz.ntmps64
  go_wp2_with fail
  rw [← HW.out]
  go_region_held3 (fun w' => w'.cell? ⟨w.heap.size, 0, none⟩ = some (.int .i64 6) ∧ w'.cell? ⟨w.heap.size, 1, none⟩ = some (.string k1) ∧ w'.cell? ⟨w.heap.size, 2, none⟩ = some (.slice A2 n2 c2') ∧ w'.cell? ⟨w.heap.size, 3, none⟩ = some (.int .i64 ck) ∧ w'.cell? ⟨w.heap.size, 4, none⟩ = some (.string cn) ∧ w'.cell? ⟨w.heap.size, 5, none⟩ = some (.int .i64 cvk) ∧ w'.cell? ⟨w.heap.size, 6, none⟩ = some (.int .i64 cvn) ∧ w'.cell? ⟨w.heap.size, 7, none⟩ = some (.string cvt) ∧ w'.cell? ⟨w.heap.size, 8, none⟩ = some (.string cop) ∧ w'.cell? ⟨w.heap.size, 9, none⟩ = some (.slice CA cnn cc) ∧ w'.cell? ⟨w.heap.size, 10, none⟩ = some (.slice NA nn nc) ∧ w'.cell? ⟨w.heap.size, 11, none⟩ = some (.slice EA en ec) ∧ w'.cell? ⟨w.heap.size, 12, none⟩ = some (.slice OA ol oc) ∧ w'.cell? ⟨w.heap.size, 13, none⟩ = some (.slice GA gn gc) ∧ w'.cell? ⟨w.heap.size, 14, none⟩ = some (.slice BA bn bc) ∧ w'.cell? ⟨w.heap.size, 15, none⟩ = some (.int .i64 count) ∧ w'.cell? ⟨bl, bo, none⟩ = some (.slice SA a.length sc)) (first | exact HP.out | exact keep17 M1.out.t HP.out) (first
    | (go_at_call 92; refine (Hgs.out _ HT0.out).mono ?_; rintro e w1 ⟨A1, c1, rfl, m1⟩; have M1 := Lib.hid m1; clear m1))
  go_wp2_with fail
  go_ret2
  exact ⟨A1, c1, rfl, M1.out.own, HT0.out.trans0 M1.out.t, fun b hb => Nat.le_trans HT0.out.size (M1.out.f b hb)⟩

end Go.Proofs.YtafoklilkdnepaaGreatDoor
