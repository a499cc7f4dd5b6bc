/- Part 11 of the texts of this proof, one behind the other. No condition beyond those that its theorems state. -/
import Derived.Test.YtafoklilkdnepaaGreatDoorRn10
import Derived.Deep.RegionHeld3
set_option maxRecDepth 40000
set_option maxHeartbeats 25600000
namespace Go.Proofs.YtafoklilkdnepaaGreatDoor
section
open Go.RowKit
theorem keep17 {w w' : World} (ht : Touch [] w w') {a0 a1 a2 a3 a4 a5 a6 a7 a8 a9 a10 a11 a12 a13 a14 a15 a16 : Addr} {v0 v1 v2 v3 v4 v5 v6 v7 v8 v9 v10 v11 v12 v13 v14 v15 v16 : Value} (h : w.cell? a0 = some v0 /\ w.cell? a1 = some v1 /\ w.cell? a2 = some v2 /\ w.cell? a3 = some v3 /\ w.cell? a4 = some v4 /\ w.cell? a5 = some v5 /\ w.cell? a6 = some v6 /\ w.cell? a7 = some v7 /\ w.cell? a8 = some v8 /\ w.cell? a9 = some v9 /\ w.cell? a10 = some v10 /\ w.cell? a11 = some v11 /\ w.cell? a12 = some v12 /\ w.cell? a13 = some v13 /\ w.cell? a14 = some v14 /\ w.cell? a15 = some v15 /\ w.cell? a16 = some v16) : w'.cell? a0 = some v0 /\ w'.cell? a1 = some v1 /\ w'.cell? a2 = some v2 /\ w'.cell? a3 = some v3 /\ w'.cell? a4 = some v4 /\ w'.cell? a5 = some v5 /\ w'.cell? a6 = some v6 /\ w'.cell? a7 = some v7 /\ w'.cell? a8 = some v8 /\ w'.cell? a9 = some v9 /\ w'.cell? a10 = some v10 /\ w'.cell? a11 = some v11 /\ w'.cell? a12 = some v12 /\ w'.cell? a13 = some v13 /\ w'.cell? a14 = some v14 /\ w'.cell? a15 = some v15 /\ w'.cell? a16 = some v16 := by
 obtain ⟨h0, h1, h2, h3, h4, h5, h6, h7, h8, h9, h10, h11, h12, h13, h14, h15, h16⟩ := h
 exact ⟨ht.cell h0 (by simp), ht.cell h1 (by simp), ht.cell h2 (by simp), ht.cell h3 (by simp), ht.cell h4 (by simp), ht.cell h5 (by simp), ht.cell h6 (by simp), ht.cell h7 (by simp), ht.cell h8 (by simp), ht.cell h9 (by simp), ht.cell h10 (by simp), ht.cell h11 (by simp), ht.cell h12 (by simp), ht.cell h13 (by simp), ht.cell h14 (by simp), ht.cell h15 (by simp), ht.cell h16 (by simp)⟩
theorem keep18 {w w' : World} (ht : Touch [] w w') {a0 a1 a2 a3 a4 a5 a6 a7 a8 a9 a10 a11 a12 a13 a14 a15 a16 a17 : Addr} {v0 v1 v2 v3 v4 v5 v6 v7 v8 v9 v10 v11 v12 v13 v14 v15 v16 v17 : Value} (h : w.cell? a0 = some v0 /\ w.cell? a1 = some v1 /\ w.cell? a2 = some v2 /\ w.cell? a3 = some v3 /\ w.cell? a4 = some v4 /\ w.cell? a5 = some v5 /\ w.cell? a6 = some v6 /\ w.cell? a7 = some v7 /\ w.cell? a8 = some v8 /\ w.cell? a9 = some v9 /\ w.cell? a10 = some v10 /\ w.cell? a11 = some v11 /\ w.cell? a12 = some v12 /\ w.cell? a13 = some v13 /\ w.cell? a14 = some v14 /\ w.cell? a15 = some v15 /\ w.cell? a16 = some v16 /\ w.cell? a17 = some v17) : w'.cell? a0 = some v0 /\ w'.cell? a1 = some v1 /\ w'.cell? a2 = some v2 /\ w'.cell? a3 = some v3 /\ w'.cell? a4 = some v4 /\ w'.cell? a5 = some v5 /\ w'.cell? a6 = some v6 /\ w'.cell? a7 = some v7 /\ w'.cell? a8 = some v8 /\ w'.cell? a9 = some v9 /\ w'.cell? a10 = some v10 /\ w'.cell? a11 = some v11 /\ w'.cell? a12 = some v12 /\ w'.cell? a13 = some v13 /\ w'.cell? a14 = some v14 /\ w'.cell? a15 = some v15 /\ w'.cell? a16 = some v16 /\ w'.cell? a17 = some v17 := by
 obtain ⟨h0, h1, h2, h3, h4, h5, h6, h7, h8, h9, h10, h11, h12, h13, h14, h15, h16, h17⟩ := h
 exact ⟨ht.cell h0 (by simp), ht.cell h1 (by simp), ht.cell h2 (by simp), ht.cell h3 (by simp), ht.cell h4 (by simp), ht.cell h5 (by simp), ht.cell h6 (by simp), ht.cell h7 (by simp), ht.cell h8 (by simp), ht.cell h9 (by simp), ht.cell h10 (by simp), ht.cell h11 (by simp), ht.cell h12 (by simp), ht.cell h13 (by simp), ht.cell h14 (by simp), ht.cell h15 (by simp), ht.cell h16 (by simp), ht.cell h17 (by simp)⟩
theorem schema_join (x : PC) (hk0 : x.kind = 4) (on : List (ByteArray × ByteArray)) (ho : x.on.n = on.length) (hlo : on.length <= 1000000) (L : Option Addr) (lc : Nat) (s1 s2 : SL) (a b : List CD) (h1 : s1.n = a.length) (h2 : s2.n = b.length) (hk1 : s1.n <= s1.c) (hk2 : s2.n <= s2.c) (hl1 : a.length <= 1000) (hl2 : b.length <= 1000) (w : World)
  (hL : RdK slE w L [s1, s2]) (hr : RdK prE w x.on.A on) (ha : ColsAt w s1.A a) (hb : ColsAt w s2.A b) :
  Calls Tryz.prog 64 #[x.val, .slice L 2 lc] w fun e w' => ∃ A c, e = .returned (.tuple #[.slice A (a ++ b).length c, .int .i64 (onV a b on)]) /\ Made 29 2 cdE (a ++ b) A c w w' := by
 obtain ⟨SA, sn, sc⟩ := s1
 obtain ⟨SB, tn, tc⟩ := s2
 dsimp only at *
 subst h1 h2
 obtain ⟨k0, k1, ⟨A2, n2, c2'⟩, ⟨⟨ck, cn, ⟨cvk, cvn, cvt⟩, cop⟩, CA, cnn, cc⟩, ⟨NA, nn, nc⟩, ⟨EA, en, ec⟩, ⟨OA, ol, oc⟩, ⟨GA, gn, gc⟩, ⟨BA, bn, bc⟩, count⟩ := x
 dsimp only at hk0 ho hr
 subst hk0
 obtain ⟨ad, bl, bo, rfl, hadd0, hc0⟩ := RdK.cells hL 1 slE_length (by omega) 0 (by simp)
 obtain ⟨ad', bl', bo', e', hadd1, hc1⟩ := RdK.cells hL 1 slE_length (by omega) 1 (by simp)
 obtain rfl : ad = ad' := by injection e'
 have l0 := hc0 0 _ rfl
 have l1 := hc1 0 _ rfl
 simp only [Nat.zero_mul, Nat.one_mul, Nat.add_zero] at hadd0 hadd1 l0 l1
 simp only [List.getElem_cons_zero, List.getElem_cons_succ] at l0 l1
 have Hon := lh fun w' (t : Touch [] w w') => checkOn_any ⟨4, k1, ⟨A2, n2, c2'⟩, ⟨⟨ck, cn, ⟨cvk, cvn, cvt⟩, cop⟩, CA, cnn, cc⟩, ⟨NA, nn, nc⟩, ⟨EA, en, ec⟩, ⟨OA, ol, oc⟩, ⟨GA, gn, gc⟩, ⟨BA, bn, bc⟩, count⟩ on ho SA SB sc tc a.length b.length a b rfl rfl (by omega) (by omega) hlo w' (RdK.touch0 hr t) (ha.touch0 t) (hb.touch0 t)
 have Hcc := lh fun w' (t : Touch [] w w') => concatC_any SA SB a.length b.length sc tc a b rfl rfl hl1 hl2 hk1 hk2 w' (ha.touch0 t) (hb.touch0 t)
 simp only [PC.val] at *
 obtain ⟨K, hK⟩ : ∃ K, K = onV a b on := ⟨_, rfl⟩
 rw [<- hK] at Hon ⊢
 obtain ⟨M, hM⟩ : ∃ M, M = (a ++ b).length := ⟨_, rfl⟩
 rw [<- hM] at Hcc ⊢
 obtain ⟨W, hW⟩ : ∃ W, W = w.alloc (.cells #[.int .i64 4, .string k1, .slice A2 n2 c2', .int .i64 ck, .string cn, .int .i64 cvk, .int .i64 cvn, .string cvt, .string cop, .slice CA cnn cc, .slice NA nn nc, .slice EA en ec, .slice OA ol oc, .slice GA gn gc, .slice BA bn bc, .int .i64 count] 49) := ⟨_, rfl⟩
 have t0 : Touch [] w W := hW ▸ (Touch.refl [] w).alloc _
 have hb0 := hW ▸ heap_alloc_new w (.cells #[.int .i64 4, .string k1, .slice A2 n2 c2', .int .i64 ck, .string cn, .int .i64 cvk, .int .i64 cvn, .string cvt, .string cop, .slice CA cnn cc, .slice NA nn nc, .slice EA en ec, .slice OA ol oc, .slice GA gn gc, .slice BA bn bc, .int .i64 count] 49)
 have l0d := t0.drew.cell l0 (by simp)
 have l1d := t0.drew.cell l1 (by simp)
 obtain ⟨p0, p1, p2, p3, p4, p5, p6, p7, p8, p9, p10, p11, p12, p13, p14, p15⟩ := blk16 ((Touch.refl [] W).drew.blk hb0 (by simp))
 have HP : Hid (W.drew.cell? ⟨w.heap.size, 0, none⟩ = some (.int .i64 4) /\ W.drew.cell? ⟨w.heap.size, 1, none⟩ = some (.string k1) /\ W.drew.cell? ⟨w.heap.size, 2, none⟩ = some (.slice A2 n2 c2') /\ W.drew.cell? ⟨w.heap.size, 3, none⟩ = some (.int .i64 ck) /\ W.drew.cell? ⟨w.heap.size, 4, none⟩ = some (.string cn) /\ W.drew.cell? ⟨w.heap.size, 5, none⟩ = some (.int .i64 cvk) /\ W.drew.cell? ⟨w.heap.size, 6, none⟩ = some (.int .i64 cvn) /\ W.drew.cell? ⟨w.heap.size, 7, none⟩ = some (.string cvt) /\ W.drew.cell? ⟨w.heap.size, 8, none⟩ = some (.string cop) /\ W.drew.cell? ⟨w.heap.size, 9, none⟩ = some (.slice CA cnn cc) /\ W.drew.cell? ⟨w.heap.size, 10, none⟩ = some (.slice NA nn nc) /\ W.drew.cell? ⟨w.heap.size, 11, none⟩ = some (.slice EA en ec) /\ W.drew.cell? ⟨w.heap.size, 12, none⟩ = some (.slice OA ol oc) /\ W.drew.cell? ⟨w.heap.size, 13, none⟩ = some (.slice GA gn gc) /\ W.drew.cell? ⟨w.heap.size, 14, none⟩ = some (.slice BA bn bc) /\ W.drew.cell? ⟨w.heap.size, 15, none⟩ = some (.int .i64 count) /\ W.drew.cell? ⟨bl, bo, none⟩ = some (.slice SA a.length sc) /\ W.drew.cell? ⟨bl', bo', none⟩ = some (.slice SB b.length tc)) := lh ⟨p0, p1, p2, p3, p4, p5, p6, p7, p8, p9, p10, p11, p12, p13, p14, p15, l0d, l1d⟩
 have HW := lh hW
 have HT0 := lh t0.drew
 clear ho hr ha hb hL hc0 hc1 hK hM hW t0 l0 l1 e' hb0 l0d l1d p0 p1 p2 p3 p4 p5 p6 p7 p8 p9 p10 p11 p12 p13 p14 p15
 go_enter Tryz.func64, Tryz.ntmps64
 go_wp2_with fail
 rw [<- HW.out]
 go_region_held3 (fun w' => w'.cell? ⟨w.heap.size, 0, none⟩ = some (.int .i64 4) /\ w'.cell? ⟨w.heap.size, 1, none⟩ = some (.string k1) /\ w'.cell? ⟨w.heap.size, 2, none⟩ = some (.slice A2 n2 c2') /\ w'.cell? ⟨w.heap.size, 3, none⟩ = some (.int .i64 ck) /\ w'.cell? ⟨w.heap.size, 4, none⟩ = some (.string cn) /\ w'.cell? ⟨w.heap.size, 5, none⟩ = some (.int .i64 cvk) /\ w'.cell? ⟨w.heap.size, 6, none⟩ = some (.int .i64 cvn) /\ w'.cell? ⟨w.heap.size, 7, none⟩ = some (.string cvt) /\ w'.cell? ⟨w.heap.size, 8, none⟩ = some (.string cop) /\ w'.cell? ⟨w.heap.size, 9, none⟩ = some (.slice CA cnn cc) /\ w'.cell? ⟨w.heap.size, 10, none⟩ = some (.slice NA nn nc) /\ w'.cell? ⟨w.heap.size, 11, none⟩ = some (.slice EA en ec) /\ w'.cell? ⟨w.heap.size, 12, none⟩ = some (.slice OA ol oc) /\ w'.cell? ⟨w.heap.size, 13, none⟩ = some (.slice GA gn gc) /\ w'.cell? ⟨w.heap.size, 14, none⟩ = some (.slice BA bn bc) /\ w'.cell? ⟨w.heap.size, 15, none⟩ = some (.int .i64 count) /\ w'.cell? ⟨bl, bo, none⟩ = some (.slice SA a.length sc) /\ w'.cell? ⟨bl', bo', none⟩ = some (.slice SB b.length tc)) (first | exact HP.out | exact keep18 ((Touch.refl [] _).alloc _) HP.out | exact keep18 M1.out.t HP.out | exact keep18 (M1.out.t.trans0 t2) HP.out) (first
  | (go_at_call 90; refine (Hcc.out _ HT0.out).mono ?_; rintro e w1 ⟨A1, c1, rfl, m1⟩; have M1 := lh m1; clear m1)
  | (go_at_call 91; refine (Hon.out _ (HT0.out.trans0 M1.out.t)).mono ?_; rintro e w2 ⟨rfl, t2⟩))
 go_wp2_with fail
 go_ret2
 exact ⟨A1, c1, rfl, M1.out.own.touch0 t2, (HT0.out.trans0 M1.out.t).trans0 t2, fun b hb => Nat.le_trans HT0.out.size (M1.out.f b hb)⟩
theorem schema_left (x : PC) (hk0 : x.kind = 5) (on : List (ByteArray × ByteArray)) (ho : x.on.n = on.length) (hlo : on.length <= 1000000) (L : Option Addr) (lc : Nat) (s1 s2 : SL) (a b : List CD) (h1 : s1.n = a.length) (h2 : s2.n = b.length) (hk1 : s1.n <= s1.c) (hk2 : s2.n <= s2.c) (hl1 : a.length <= 1000) (hl2 : b.length <= 1000) (w : World)
  (hL : RdK slE w L [s1, s2]) (hr : RdK prE w x.on.A on) (ha : ColsAt w s1.A a) (hb : ColsAt w s2.A b) :
  Calls Tryz.prog 64 #[x.val, .slice L 2 lc] w fun e w' => ∃ A c, e = .returned (.tuple #[.slice A (a ++ b).length c, .int .i64 (onV a b on)]) /\ Made 29 2 cdE (a ++ b) A c w w' := by
 obtain ⟨SA, sn, sc⟩ := s1
 obtain ⟨SB, tn, tc⟩ := s2
 dsimp only at *
 subst h1 h2
 obtain ⟨k0, k1, ⟨A2, n2, c2'⟩, ⟨⟨ck, cn, ⟨cvk, cvn, cvt⟩, cop⟩, CA, cnn, cc⟩, ⟨NA, nn, nc⟩, ⟨EA, en, ec⟩, ⟨OA, ol, oc⟩, ⟨GA, gn, gc⟩, ⟨BA, bn, bc⟩, count⟩ := x
 dsimp only at hk0 ho hr
 subst hk0
 obtain ⟨ad, bl, bo, rfl, hadd0, hc0⟩ := RdK.cells hL 1 slE_length (by omega) 0 (by simp)
 obtain ⟨ad', bl', bo', e', hadd1, hc1⟩ := RdK.cells hL 1 slE_length (by omega) 1 (by simp)
 obtain rfl : ad = ad' := by injection e'
 have l0 := hc0 0 _ rfl
 have l1 := hc1 0 _ rfl
 simp only [Nat.zero_mul, Nat.one_mul, Nat.add_zero] at hadd0 hadd1 l0 l1
 simp only [List.getElem_cons_zero, List.getElem_cons_succ] at l0 l1
 have Hon := lh fun w' (t : Touch [] w w') => checkOn_any ⟨5, k1, ⟨A2, n2, c2'⟩, ⟨⟨ck, cn, ⟨cvk, cvn, cvt⟩, cop⟩, CA, cnn, cc⟩, ⟨NA, nn, nc⟩, ⟨EA, en, ec⟩, ⟨OA, ol, oc⟩, ⟨GA, gn, gc⟩, ⟨BA, bn, bc⟩, count⟩ on ho SA SB sc tc a.length b.length a b rfl rfl (by omega) (by omega) hlo w' (RdK.touch0 hr t) (ha.touch0 t) (hb.touch0 t)
 have Hcc := lh fun w' (t : Touch [] w w') => concatC_any SA SB a.length b.length sc tc a b rfl rfl hl1 hl2 hk1 hk2 w' (ha.touch0 t) (hb.touch0 t)
 simp only [PC.val] at *
 obtain ⟨K, hK⟩ : ∃ K, K = onV a b on := ⟨_, rfl⟩
 rw [<- hK] at Hon ⊢
 obtain ⟨M, hM⟩ : ∃ M, M = (a ++ b).length := ⟨_, rfl⟩
 rw [<- hM] at Hcc ⊢
 obtain ⟨W, hW⟩ : ∃ W, W = w.alloc (.cells #[.int .i64 5, .string k1, .slice A2 n2 c2', .int .i64 ck, .string cn, .int .i64 cvk, .int .i64 cvn, .string cvt, .string cop, .slice CA cnn cc, .slice NA nn nc, .slice EA en ec, .slice OA ol oc, .slice GA gn gc, .slice BA bn bc, .int .i64 count] 49) := ⟨_, rfl⟩
 have t0 : Touch [] w W := hW ▸ (Touch.refl [] w).alloc _
 have hb0 := hW ▸ heap_alloc_new w (.cells #[.int .i64 5, .string k1, .slice A2 n2 c2', .int .i64 ck, .string cn, .int .i64 cvk, .int .i64 cvn, .string cvt, .string cop, .slice CA cnn cc, .slice NA nn nc, .slice EA en ec, .slice OA ol oc, .slice GA gn gc, .slice BA bn bc, .int .i64 count] 49)
 have l0d := t0.drew.cell l0 (by simp)
 have l1d := t0.drew.cell l1 (by simp)
 obtain ⟨p0, p1, p2, p3, p4, p5, p6, p7, p8, p9, p10, p11, p12, p13, p14, p15⟩ := blk16 ((Touch.refl [] W).drew.blk hb0 (by simp))
 have HP : Hid (W.drew.cell? ⟨w.heap.size, 0, none⟩ = some (.int .i64 5) /\ W.drew.cell? ⟨w.heap.size, 1, none⟩ = some (.string k1) /\ W.drew.cell? ⟨w.heap.size, 2, none⟩ = some (.slice A2 n2 c2') /\ W.drew.cell? ⟨w.heap.size, 3, none⟩ = some (.int .i64 ck) /\ W.drew.cell? ⟨w.heap.size, 4, none⟩ = some (.string cn) /\ W.drew.cell? ⟨w.heap.size, 5, none⟩ = some (.int .i64 cvk) /\ W.drew.cell? ⟨w.heap.size, 6, none⟩ = some (.int .i64 cvn) /\ W.drew.cell? ⟨w.heap.size, 7, none⟩ = some (.string cvt) /\ W.drew.cell? ⟨w.heap.size, 8, none⟩ = some (.string cop) /\ W.drew.cell? ⟨w.heap.size, 9, none⟩ = some (.slice CA cnn cc) /\ W.drew.cell? ⟨w.heap.size, 10, none⟩ = some (.slice NA nn nc) /\ W.drew.cell? ⟨w.heap.size, 11, none⟩ = some (.slice EA en ec) /\ W.drew.cell? ⟨w.heap.size, 12, none⟩ = some (.slice OA ol oc) /\ W.drew.cell? ⟨w.heap.size, 13, none⟩ = some (.slice GA gn gc) /\ W.drew.cell? ⟨w.heap.size, 14, none⟩ = some (.slice BA bn bc) /\ W.drew.cell? ⟨w.heap.size, 15, none⟩ = some (.int .i64 count) /\ W.drew.cell? ⟨bl, bo, none⟩ = some (.slice SA a.length sc) /\ W.drew.cell? ⟨bl', bo', none⟩ = some (.slice SB b.length tc)) := lh ⟨p0, p1, p2, p3, p4, p5, p6, p7, p8, p9, p10, p11, p12, p13, p14, p15, l0d, l1d⟩
 have HW := lh hW
 have HT0 := lh t0.drew
 clear ho hr ha hb hL hc0 hc1 hK hM hW t0 l0 l1 e' hb0 l0d l1d p0 p1 p2 p3 p4 p5 p6 p7 p8 p9 p10 p11 p12 p13 p14 p15
 go_enter Tryz.func64, Tryz.ntmps64
 go_wp2_with fail
 rw [<- HW.out]
 go_region_held3 (fun w' => w'.cell? ⟨w.heap.size, 0, none⟩ = some (.int .i64 5) /\ w'.cell? ⟨w.heap.size, 1, none⟩ = some (.string k1) /\ w'.cell? ⟨w.heap.size, 2, none⟩ = some (.slice A2 n2 c2') /\ w'.cell? ⟨w.heap.size, 3, none⟩ = some (.int .i64 ck) /\ w'.cell? ⟨w.heap.size, 4, none⟩ = some (.string cn) /\ w'.cell? ⟨w.heap.size, 5, none⟩ = some (.int .i64 cvk) /\ w'.cell? ⟨w.heap.size, 6, none⟩ = some (.int .i64 cvn) /\ w'.cell? ⟨w.heap.size, 7, none⟩ = some (.string cvt) /\ w'.cell? ⟨w.heap.size, 8, none⟩ = some (.string cop) /\ w'.cell? ⟨w.heap.size, 9, none⟩ = some (.slice CA cnn cc) /\ w'.cell? ⟨w.heap.size, 10, none⟩ = some (.slice NA nn nc) /\ w'.cell? ⟨w.heap.size, 11, none⟩ = some (.slice EA en ec) /\ w'.cell? ⟨w.heap.size, 12, none⟩ = some (.slice OA ol oc) /\ w'.cell? ⟨w.heap.size, 13, none⟩ = some (.slice GA gn gc) /\ w'.cell? ⟨w.heap.size, 14, none⟩ = some (.slice BA bn bc) /\ w'.cell? ⟨w.heap.size, 15, none⟩ = some (.int .i64 count) /\ w'.cell? ⟨bl, bo, none⟩ = some (.slice SA a.length sc) /\ w'.cell? ⟨bl', bo', none⟩ = some (.slice SB b.length tc)) (first | exact HP.out | exact keep18 ((Touch.refl [] _).alloc _) HP.out | exact keep18 M1.out.t HP.out | exact keep18 (M1.out.t.trans0 t2) HP.out) (first
  | (go_at_call 90; refine (Hcc.out _ HT0.out).mono ?_; rintro e w1 ⟨A1, c1, rfl, m1⟩; have M1 := lh m1; clear m1)
  | (go_at_call 91; refine (Hon.out _ (HT0.out.trans0 M1.out.t)).mono ?_; rintro e w2 ⟨rfl, t2⟩))
 go_wp2_with fail
 go_ret2
 exact ⟨A1, c1, rfl, M1.out.own.touch0 t2, (HT0.out.trans0 M1.out.t).trans0 t2, fun b hb => Nat.le_trans HT0.out.size (M1.out.f b hb)⟩
theorem schema_group (x : PC) (hk0 : x.kind = 6) (names : List ByteArray) (aggs : List AG) (hnn : x.names.n = names.length) (han : x.aggs.n = aggs.length) (hln : names.length <= 100000) (hla : aggs.length <= 100000) (L : Option Addr) (lc : Nat) (s1 : SL) (a : List CD) (h1 : s1.n = a.length) (hl1 : a.length <= 1000) (w : World)
  (hL : RdK slE w L [s1]) (hr : RdK btE w x.names.A names) (hg : RdK agE w x.aggs.A aggs) (ha : ColsAt w s1.A a) :
  Calls Tryz.prog 64 #[x.val, .slice L 1 lc] w (SchPost (groupV a names aggs) w) := by
 obtain ⟨SA, sn, sc⟩ := s1
 dsimp only at *
 subst h1
 obtain ⟨k0, k1, ⟨A2, n2, c2'⟩, ⟨⟨ck, cn, ⟨cvk, cvn, cvt⟩, cop⟩, CA, cnn, cc⟩, ⟨NA, nn, nc⟩, ⟨EA, en, ec⟩, ⟨OA, ol, oc⟩, ⟨GA, gn, gc⟩, ⟨BA, bn, bc⟩, count⟩ := x
 dsimp only at hk0 hnn han hr hg
 subst hk0
 obtain ⟨ad, bl, bo, rfl, hadd0, hc0⟩ := RdK.cells hL 1 slE_length (by omega) 0 (by simp)
 have l0 := hc0 0 _ rfl
 simp only [Nat.zero_mul, Nat.add_zero] at hadd0 l0
 simp only [List.getElem_cons_zero] at l0
 have Hgs := lh fun w' (t : Touch [] w w') => groupSchema_any ⟨6, k1, ⟨A2, n2, c2'⟩, ⟨⟨ck, cn, ⟨cvk, cvn, cvt⟩, cop⟩, CA, cnn, cc⟩, ⟨NA, nn, nc⟩, ⟨EA, en, ec⟩, ⟨OA, ol, oc⟩, ⟨GA, gn, gc⟩, ⟨BA, bn, bc⟩, count⟩ names aggs hnn han SA sc a.length a rfl (by omega) hln hla w' (RdK.touch0 hr t) (RdK.touch0 hg t) (ha.touch0 t)
 simp only [PC.val] at *
 obtain ⟨V, hV⟩ : ∃ V, V = groupV a names aggs := ⟨_, rfl⟩
 rw [<- hV] at Hgs ⊢
 obtain ⟨W, hW⟩ : ∃ W, W = w.alloc (.cells #[.int .i64 6, .string k1, .slice A2 n2 c2', .int .i64 ck, .string cn, .int .i64 cvk, .int .i64 cvn, .string cvt, .string cop, .slice CA cnn cc, .slice NA nn nc, .slice EA en ec, .slice OA ol oc, .slice GA gn gc, .slice BA bn bc, .int .i64 count] 49) := ⟨_, rfl⟩
 have t0 : Touch [] w W := hW ▸ (Touch.refl [] w).alloc _
 have hb0 := hW ▸ heap_alloc_new w (.cells #[.int .i64 6, .string k1, .slice A2 n2 c2', .int .i64 ck, .string cn, .int .i64 cvk, .int .i64 cvn, .string cvt, .string cop, .slice CA cnn cc, .slice NA nn nc, .slice EA en ec, .slice OA ol oc, .slice GA gn gc, .slice BA bn bc, .int .i64 count] 49)
 have l0d := t0.drew.cell l0 (by simp)
 obtain ⟨p0, p1, p2, p3, p4, p5, p6, p7, p8, p9, p10, p11, p12, p13, p14, p15⟩ := blk16 ((Touch.refl [] W).drew.blk hb0 (by simp))
 have HP : Hid (W.drew.cell? ⟨w.heap.size, 0, none⟩ = some (.int .i64 6) /\ W.drew.cell? ⟨w.heap.size, 1, none⟩ = some (.string k1) /\ W.drew.cell? ⟨w.heap.size, 2, none⟩ = some (.slice A2 n2 c2') /\ W.drew.cell? ⟨w.heap.size, 3, none⟩ = some (.int .i64 ck) /\ W.drew.cell? ⟨w.heap.size, 4, none⟩ = some (.string cn) /\ W.drew.cell? ⟨w.heap.size, 5, none⟩ = some (.int .i64 cvk) /\ W.drew.cell? ⟨w.heap.size, 6, none⟩ = some (.int .i64 cvn) /\ W.drew.cell? ⟨w.heap.size, 7, none⟩ = some (.string cvt) /\ W.drew.cell? ⟨w.heap.size, 8, none⟩ = some (.string cop) /\ W.drew.cell? ⟨w.heap.size, 9, none⟩ = some (.slice CA cnn cc) /\ W.drew.cell? ⟨w.heap.size, 10, none⟩ = some (.slice NA nn nc) /\ W.drew.cell? ⟨w.heap.size, 11, none⟩ = some (.slice EA en ec) /\ W.drew.cell? ⟨w.heap.size, 12, none⟩ = some (.slice OA ol oc) /\ W.drew.cell? ⟨w.heap.size, 13, none⟩ = some (.slice GA gn gc) /\ W.drew.cell? ⟨w.heap.size, 14, none⟩ = some (.slice BA bn bc) /\ W.drew.cell? ⟨w.heap.size, 15, none⟩ = some (.int .i64 count) /\ W.drew.cell? ⟨bl, bo, none⟩ = some (.slice SA a.length sc)) := lh ⟨p0, p1, p2, p3, p4, p5, p6, p7, p8, p9, p10, p11, p12, p13, p14, p15, l0d⟩
 have HW := lh hW
 have HT0 := lh t0.drew
 clear hnn han hr hg ha hL hc0 hV hW t0 l0 hb0 l0d p0 p1 p2 p3 p4 p5 p6 p7 p8 p9 p10 p11 p12 p13 p14 p15
 go_enter Tryz.func64, Tryz.ntmps64
 go_wp2_with fail
 rw [<- HW.out]
 go_region_held3 (fun w' => w'.cell? ⟨w.heap.size, 0, none⟩ = some (.int .i64 6) /\ w'.cell? ⟨w.heap.size, 1, none⟩ = some (.string k1) /\ w'.cell? ⟨w.heap.size, 2, none⟩ = some (.slice A2 n2 c2') /\ w'.cell? ⟨w.heap.size, 3, none⟩ = some (.int .i64 ck) /\ w'.cell? ⟨w.heap.size, 4, none⟩ = some (.string cn) /\ w'.cell? ⟨w.heap.size, 5, none⟩ = some (.int .i64 cvk) /\ w'.cell? ⟨w.heap.size, 6, none⟩ = some (.int .i64 cvn) /\ w'.cell? ⟨w.heap.size, 7, none⟩ = some (.string cvt) /\ w'.cell? ⟨w.heap.size, 8, none⟩ = some (.string cop) /\ w'.cell? ⟨w.heap.size, 9, none⟩ = some (.slice CA cnn cc) /\ w'.cell? ⟨w.heap.size, 10, none⟩ = some (.slice NA nn nc) /\ w'.cell? ⟨w.heap.size, 11, none⟩ = some (.slice EA en ec) /\ w'.cell? ⟨w.heap.size, 12, none⟩ = some (.slice OA ol oc) /\ w'.cell? ⟨w.heap.size, 13, none⟩ = some (.slice GA gn gc) /\ w'.cell? ⟨w.heap.size, 14, none⟩ = some (.slice BA bn bc) /\ w'.cell? ⟨w.heap.size, 15, none⟩ = some (.int .i64 count) /\ w'.cell? ⟨bl, bo, none⟩ = some (.slice SA a.length sc)) (first | exact HP.out | exact keep17 M1.out.t HP.out) (first
  | (go_at_call 92; refine (Hgs.out _ HT0.out).mono ?_; rintro e w1 ⟨A1, c1, rfl, m1⟩; have M1 := lh m1; clear m1))
 go_wp2_with fail
 go_ret2
 exact ⟨A1, c1, rfl, M1.out.own, HT0.out.trans0 M1.out.t, fun b hb => Nat.le_trans HT0.out.size (M1.out.f b hb)⟩
end
section
open Go.RowKit
def needV : Nat -> Nat
 | 2 => 1 | 3 => 1 | 4 => 2 | 5 => 2 | 6 => 1 | 7 => 2 | 8 => 1 | 9 => 1 | _ => 0
def NeedsAt (w : World) : Prop := ∀ k, k < 10 -> w.cell? ⟨0, k, none⟩ = some (.int .i64 (needV k))
theorem NeedsAt.touch0 {w w' : World} (h : NeedsAt w) (ht : Touch [] w w') : NeedsAt w' := fun k hk => ht.cell (h k hk) (by simp)
def TyPost (base : Nat) (v : Int × List CD) (w : World) (e : Ending) (w' : World) : Prop := ∃ s : SL, e = .returned (.tuple #[.slice s.A s.n s.c, .int .i64 v.1]) /\ s.n = v.2.length /\ s.n <= s.c /\ ColsAt w' s.A v.2 /\ (∀ b ∈ fpo s.A, base <= b /\ b < w'.heap.size) /\ Touch [] w w'
theorem TyPost.err {w w' : World} (base : Nat) (k : Int) (ht : Touch [] w w') : TyPost base (k, []) w (.returned (.tuple #[.slice none 0 0, .int .i64 k])) w' :=
 ⟨⟨none, 0, 0⟩, rfl, rfl, Nat.le_refl _, RdK.nil _ _ _, by simp [fpo], ht⟩
theorem TyPost.made {w w' : World} {k : Int} {l : List CD} {A : Option Addr} {c : Nat} (h : Made 29 2 cdE l A c w w') : TyPost w.heap.size (k, l) w (.returned (.tuple #[.slice A l.length c, .int .i64 k])) w' :=
 ⟨⟨A, l.length, c⟩, rfl, rfl, h.own.le, h.own.rd, fun b hb => ⟨h.f b hb, h.own.lt b hb⟩, h.t⟩
theorem TyPost.of {v : Int × List CD} {w : World} {e : Ending} {w' : World} (h : SchPost v w e w') : TyPost w.heap.size v w e w' := by
 obtain ⟨A, c, rfl, hm⟩ := h
 exact TyPost.made hm
def TypedC (w : World) (I : Option Addr) (ic n : Nat) (x : PC) (d : Int) (v : Int × List CD) : Prop := ∀ w', Touch [] w w' -> Calls Tryz.prog 31 #[x.val, .slice I n ic, .int .i64 d] w' (TyPost w'.heap.size v w')
def scanV (l : List SrcD) (s : ByteArray) : Int × List CD := match srcI l s with
 | none => (13, [])
 | some k => match l[k]? with
  | none => (13, [])
  | some d => if checkT d.cs d.rows = 0 then (0, d.cs) else (12, [])
theorem typed_scan (x : PC) (hk0 : x.kind = 1) (ha0 : x.args.n = 0) (d : Int) (hd : d <= 16) (I : Option Addr) (ic n : Nat) (l : List SrcD) (hn : l.length = n) (hl : n <= 1000000) (hok : ∀ d ∈ l, d.Ok) (w : World) (hG : NeedsAt w) (h : SrcsAt w I l) :
  Calls Tryz.prog 31 #[x.val, .slice I n ic, .int .i64 d] w (TyPost w.heap.size (scanV l x.name) w) := by
 obtain ⟨k0, k1, ⟨A2, n2, c2'⟩, ⟨⟨ck, cn, ⟨cvk, cvn, cvt⟩, cop⟩, CA, cnn, cc⟩, ⟨NA, nn, nc⟩, ⟨EA, en, ec⟩, ⟨OA, ol, oc⟩, ⟨GA, gn, gc⟩, ⟨BA, bn, bc⟩, count⟩ := x
 dsimp only at hk0 ha0 ⊢
 subst hk0 ha0
 simp only [PC.val]
 obtain ⟨W, hW⟩ : ∃ W, W = w.alloc (.cells #[.int .i64 1, .string k1, .slice A2 0 c2', .int .i64 ck, .string cn, .int .i64 cvk, .int .i64 cvn, .string cvt, .string cop, .slice CA cnn cc, .slice NA nn nc, .slice EA en ec, .slice OA ol oc, .slice GA gn gc, .slice BA bn bc, .int .i64 count] 49) := ⟨_, rfl⟩
 have t0 : Touch [] w W := hW ▸ (Touch.refl [] w).alloc _
 have hb0 := hW ▸ heap_alloc_new w (.cells #[.int .i64 1, .string k1, .slice A2 0 c2', .int .i64 ck, .string cn, .int .i64 cvk, .int .i64 cvn, .string cvt, .string cop, .slice CA cnn cc, .slice NA nn nc, .slice EA en ec, .slice OA ol oc, .slice GA gn gc, .slice BA bn bc, .int .i64 count] 49)
 have g1 := t0.cell (hG 1 (by omega)) (by simp)
 have q0 : W.cell? ⟨w.heap.size, 0, none⟩ = some (.int .i64 1) := cell_blk hb0 rfl
 have q1 : W.cell? ⟨w.heap.size, 1, none⟩ = some (.string k1) := cell_blk hb0 rfl
 have q2 : W.cell? ⟨w.heap.size, 2, none⟩ = some (.slice A2 0 c2') := cell_blk hb0 rfl
 have hd2 : (16 < d) = False := by simp; omega
 have HW := lh hW
 have HT0 := lh t0
 simp only [needV] at g1
 rcases hs : srcI l k1 with _ | k
 ·have Hs := lh fun w' (t : Touch [] W w') => source_no I ic n l hn k1 w' (h.touch0 (t0.trans0 t)) (by omega) hs
  have Hv := lh (show scanV l k1 = (13, []) by unfold scanV; rw [hs])
  clear hs h hb0 hW t0
  go_enter Tryz.func31, Tryz.ntmps31
  go_wp2_with fail
  rw [<- HW.out]
  go_quiet (fail)
  go_wp2_with fail
  refine (Hs.out _ ((Touch.refl _ _).drewN _)).mono ?_
  rintro e w1 ⟨rfl, t1⟩
  have HT1 := lh ((HT0.out.drewN _).trans0 t1)
  clear t1
  go_wp2_with fail
  go_ret2
  rw [Hv.out]
  exact TyPost.err _ 13 (HT1.out.alloc _)
 ·have hkl := srcI_lt hs
  have Hs := lh fun w' (t : Touch [] W w') => source_yes I ic n l hn k1 w' (h.touch0 (t0.trans0 t)) (by omega) k hkl hs
  have hdk := hok _ (List.getElem_mem hkl)
  have hlk : l[k]? = some l[k] := List.getElem?_eq_getElem hkl
  obtain ⟨sd, hsd⟩ : ∃ sd, sd = l[k] := ⟨_, rfl⟩
  rw [<- hsd] at Hs hdk hlk
  obtain ⟨snm, cs, rows⟩ := sd
  dsimp only at Hs
  have Hv := lh (show scanV l k1 = if checkT cs rows = 0 then (0, cs) else (12, []) by unfold scanV; rw [hs]; dsimp only; rw [hlk])
  have Hok := lh hdk
  clear hs h hb0 hW t0 hsd hlk hdk
  go_enter Tryz.func31, Tryz.ntmps31
  go_wp2_with fail
  rw [<- HW.out]
  go_quiet (fail)
  go_wp2_with fail
  refine (Hs.out _ ((Touch.refl _ _).drewN _)).mono ?_
  rintro e w1 ⟨s1, r1, rfl, htab, t1⟩
  obtain ⟨SA, sn, sc⟩ := s1
  obtain ⟨RA, rn, rc⟩ := r1
  have HT1 := lh ((HT0.out.drewN _).trans0 t1)
  have ta := (Touch.refl [] w1).alloc (.cells #[.slice SA sn sc, .slice RA rn rc] 27)
  have hbt := heap_alloc_new w1 (.cells #[.slice SA sn sc, .slice RA rn rc] 27)
  obtain ⟨h1, h2, h3, h4, h5⟩ := htab
  dsimp only at h1 h2 h3 h4 h5
  have hck := checkT_any SA sc sn cs h1.symm Hok.out.cols RA rc rn rows h4.symm Hok.out.rows _ (h3.touch0 ta) (h5.touch0 ta) (by have := Hok.out.n; dsimp only at this; omega) (by have := Hok.out.m; dsimp only at this; omega)
  obtain ⟨K, hK⟩ : ∃ K, K = checkT cs rows := ⟨_, rfl⟩
  rw [<- hK] at hck Hv
  have Hck := lh hck
  have HX := lh (And.intro ta (And.intro hbt (And.intro h1 (And.intro h2 h3))))
  clear t1 ta hbt h1 h2 h3 h4 h5 hck hK
  by_cases hz : K = 0
  ·have Hv0 := lh (show scanV l k1 = (0, cs) by rw [Hv.out, if_pos hz])
   subst hz
   clear Hv
   go_wp2_with fail
   refine Hck.out.mono ?_
   rintro e w2 ⟨rfl, t2⟩
   obtain ⟨ta, hbt, h1, h2, h3⟩ := HX.out
   obtain ⟨f0, f1, _, _⟩ := blk2 (t2.blk hbt (by simp))
   have Hcl := lh (cloneC_any SA sc sn cs h1.symm (by have := Hok.out.n; dsimp only at this; omega) w2 (h3.touch0 (ta.trans0 t2)))
   have HT2 := lh ((HT1.out.trans0 ta).trans0 t2)
   clear ta hbt h1 h2 h3 t2
   go_wp2_with fail
   refine Hcl.out.mono ?_
   rintro e w3 ⟨A3, c3, rfl, hm⟩
   have HM := lh hm
   clear hm
   go_wp2_with fail
   go_ret2
   rw [Hv0.out]
   exact ⟨⟨A3, sn, c3⟩, rfl, HX.out.2.2.1, by have := HM.out.own.le; have := HX.out.2.2.1; dsimp only; omega, HM.out.own.rd, fun b hb => ⟨Nat.le_trans HT2.out.size (HM.out.f b hb), HM.out.own.lt b hb⟩, HT2.out.trans0 HM.out.t⟩
  ·have Hv0 := lh (show scanV l k1 = (12, []) by rw [Hv.out, if_neg hz])
   have hq : (K == 0) = false := by rw [beq_eq_false_iff_ne]; exact hz
   have hq' : (K != 0) = true := by rw [bne, hq]; rfl
   go_wp2_with fail
   refine Hck.out.mono ?_
   rintro e w2 ⟨rfl, t2⟩
   have HT2 := lh ((HT1.out.trans0 HX.out.1).trans0 t2)
   clear t2
   go_wp2_with fail
   go_ret2
   rw [Hv0.out]
   exact TyPost.err _ 12 HT2.out
end
section
open Go.RowKit
def errL : List (Int × List CD) -> Int
 | [] => 0
 | v :: r => if v.1 = 0 then errL r else v.1
theorem errL_zero : ∀ {l : List (Int × List CD)}, (∀ v ∈ l, v.1 = 0) -> errL l = 0
 | [], _ => rfl
 | v :: l, h => by rw [errL, if_pos (h v List.mem_cons_self)]; exact errL_zero fun x hx => h x (List.mem_cons_of_mem _ hx)
theorem errL_at : ∀ {l : List (Int × List CD)} {j : Nat} (hj : j < l.length), (∀ i (hi : i < j), l[i].1 = 0) -> l[j].1 ≠ 0 -> errL l = l[j].1
 | v :: l, 0, _, _, h => by
  have h : v.1 ≠ 0 := h
  rw [errL, if_neg h]; rfl
 | v :: l, j + 1, hj, h0, h => by
  have hz : v.1 = 0 := h0 0 (by omega)
  rw [errL, if_pos hz]
  exact errL_at (by simpa using hj) (fun i hi => by have := h0 (i + 1) (by omega); simpa using this) (by simpa using h)
def nodeV (vs : List (Int × List CD)) (v : Int × List CD) : Int × List CD :=
 if errL vs = 0 then (if v.1 = 0 then (if checkV v.2 = 0 then (0, v.2) else (checkV v.2, [])) else (v.1, [])) else (errL vs, [])
def SlcsAt (base : Nat) (w : World) (sl : List SL) (css : List (List CD)) : Prop := sl.length = css.length /\ ∀ i (h1 : i < sl.length) (h2 : i < css.length), sl[i].n = css[i].length /\ sl[i].n <= sl[i].c /\ ColsAt w sl[i].A css[i] /\ ∀ b ∈ fpo sl[i].A, base <= b /\ b < w.heap.size
theorem SlcsAt.nil (base : Nat) (w : World) : SlcsAt base w [] [] := ⟨rfl, fun i h => absurd h (by simp)⟩
theorem SlcsAt.touch {base : Nat} {w w' : World} {sl : List SL} {css : List (List CD)} {fp : List Nat} (h : SlcsAt base w sl css) (ht : Touch fp w w') (hn : ∀ s ∈ sl, ∀ b ∈ fpo s.A, b ∉ fp) : SlcsAt base w' sl css :=
 ⟨h.1, fun i a b => ⟨(h.2 i a b).1, (h.2 i a b).2.1, RdK.touch (h.2 i a b).2.2.1 ht (hn _ (List.getElem_mem a)), fun x hx => ⟨((h.2 i a b).2.2.2 x hx).1, Nat.lt_of_lt_of_le ((h.2 i a b).2.2.2 x hx).2 ht.size⟩⟩⟩
theorem SlcsAt.touch0 {base : Nat} {w w' : World} {sl : List SL} {css : List (List CD)} (h : SlcsAt base w sl css) (ht : Touch [] w w') : SlcsAt base w' sl css := h.touch ht (by simp)
theorem SlcsAt.snoc {base : Nat} {w : World} {sl : List SL} {css : List (List CD)} (h : SlcsAt base w sl css) (s : SL) (cs : List CD) (h1 : s.n = cs.length) (h2 : s.n <= s.c) (h3 : ColsAt w s.A cs) (h4 : ∀ b ∈ fpo s.A, base <= b /\ b < w.heap.size) : SlcsAt base w (sl ++ [s]) (css ++ [cs]) := by
 refine ⟨by rw [List.length_append, List.length_append, h.1]; rfl, fun i a b => ?_⟩
 by_cases hi : i < sl.length
 ·have hi2 : i < css.length := by rw [<- h.1]; exact hi
  rw [List.getElem_append_left hi, List.getElem_append_left hi2]
  exact h.2 i hi hi2
 ·have hi' : i = sl.length := by rw [List.length_append] at a; simp at a; omega
  subst hi'
  have e1 : (sl ++ [s])[sl.length] = s := by simp
  have e2 : (css ++ [cs])[sl.length] = cs := by rw [List.getElem_append_right (by rw [h.1]; exact Nat.le_refl _)]; simp [h.1]
  rw [e1, e2]
  exact ⟨h1, h2, h3, h4⟩
def SchemaC (w : World) (x : PC) (css : List (List CD)) (v : Int × List CD) : Prop := ∀ w' (base : Nat) (L : Option Addr) (lc : Nat) (sl : List SL), Touch [] w w' -> base <= w'.heap.size -> SlcsAt base w' sl css -> RdK slE w' L sl ->
 Calls Tryz.prog 64 #[x.val, .slice L css.length lc] w' (TyPost base v w')
theorem info_s5 : (Tryz.prog.info? 24).map (fun i => (i.zero, i.size, i.bytes)) = some (some (.slice none 0 0), 1, 24) := by kernel_rfl
theorem typed_node (x : PC) (kk m : Nat) (hk0 : x.kind = kk) (hk2 : 2 <= kk) (hk9 : kk <= 9) (hm : x.args.n = m) (hnd : needV kk = m) (d : Int) (hd0 : 0 <= d) (hd : d <= 16) (I : Option Addr) (ic n : Nat) (w : World) (hG : NeedsAt w)
  (xs : List PC) (vs : List (Int × List CD)) (hxs : xs.length = m) (hvs : vs.length = m) (hX : RdK pcE w x.args.A xs) (hT : ∀ i (h1 : i < xs.length) (h2 : i < vs.length), TypedC w I ic n xs[i] (d + 1) vs[i])
  (v : Int × List CD) (hv : errL vs = 0 -> SchemaC w x (vs.map (·.2)) v) (hok : ∀ c ∈ v.2, c.Ok) (hvl : v.2.length <= 1000000) :
  Calls Tryz.prog 31 #[x.val, .slice I n ic, .int .i64 d] w (TyPost w.heap.size (nodeV vs v) w) := by
 obtain ⟨V, hV⟩ : ∃ V, V = nodeV vs v := ⟨_, rfl⟩
 rw [<- hV]
 have HV := lh hV
 have Hv := lh hv
 obtain ⟨k0, k1, ⟨A2, n2, c2'⟩, ⟨⟨ck, cn, ⟨cvk, cvn, cvt⟩, cop⟩, CA, cnn, cc⟩, ⟨NA, nn, nc⟩, ⟨EA, en, ec⟩, ⟨OA, ol, oc⟩, ⟨GA, gn, gc⟩, ⟨BA, bn, bc⟩, count⟩ := x
 dsimp only at hk0 hm hX ⊢
 subst hk0 hm
 simp only [PC.val]
 have hneed : n2 <= 2 := by
  rw [<- hnd]
  have : kk = 2 \/ kk = 3 \/ kk = 4 \/ kk = 5 \/ kk = 6 \/ kk = 7 \/ kk = 8 \/ kk = 9 := by omega
  rcases this with rfl | rfl | rfl | rfl | rfl | rfl | rfl | rfl <;> simp [needV]
 obtain ⟨W, hW⟩ : ∃ W, W = w.alloc (.cells #[.int .i64 (kk : Nat), .string k1, .slice A2 n2 c2', .int .i64 ck, .string cn, .int .i64 cvk, .int .i64 cvn, .string cvt, .string cop, .slice CA cnn cc, .slice NA nn nc, .slice EA en ec, .slice OA ol oc, .slice GA gn gc, .slice BA bn bc, .int .i64 count] 49) := ⟨_, rfl⟩
 have t0 : Touch [] w W := hW ▸ (Touch.refl [] w).alloc _
 have hb0 := hW ▸ heap_alloc_new w (.cells #[.int .i64 (kk : Nat), .string k1, .slice A2 n2 c2', .int .i64 ck, .string cn, .int .i64 cvk, .int .i64 cvn, .string cvt, .string cop, .slice CA cnn cc, .slice NA nn nc, .slice EA en ec, .slice OA ol oc, .slice GA gn gc, .slice BA bn bc, .int .i64 count] 49)
 have g1 := t0.cell (hG kk (by omega)) (by simp)
 rw [hnd] at g1
 have q0 : W.cell? ⟨w.heap.size, 0, none⟩ = some (.int .i64 kk) := cell_blk hb0 rfl
 have q2 : W.cell? ⟨w.heap.size, 2, none⟩ = some (.slice A2 n2 c2') := cell_blk hb0 rfl
 have hd2 : (16 < d) = False := by simp; omega
 have hka : ((kk : Int) < 1) = False := by simp; omega
 have hkb : (9 < (kk : Int)) = False := by simp; omega
 have hkc : ((kk : Int) == 1) = false := by rw [beq_eq_false_iff_ne]; omega
 have hkd : (0 : Int) <= (kk : Int) := by omega
 have hke : (kk : Int) < 10 := by omega
 have hadd0 : (⟨0, 0, none⟩ : Addr).add kk = ⟨0, kk, none⟩ := add_blk _ _
 have HW := lh hW
 have HT0 := lh t0
 have HB0 := lh hb0
 have HX := lh (RdK.touch0 hX t0)
 have HTy := lh hT
 have Hok := lh hok
 have Hxs := lh hxs
 have Hvs := lh hvs
 clear hV hv hb0 hW t0 hX hT hok hxs hvs hnd
 go_enter Tryz.func31, Tryz.ntmps31
 go_wp2_with fail
 rw [<- HW.out]
 go_quiet (fail)
 go_wp2_with fail
 go_loopw [10, 61] (fun o i wr => ∃ (j : Nat) (L : Option Addr) (lc : Nat) (sl : List SL), j <= n2 /\ i = .int .i64 j /\ o = .slice L j lc /\ Hid (∀ i (hi : i < j) (h2 : i < vs.length), vs[i].1 = 0) /\ Hid (SlcsAt w.heap.size wr sl ((vs.map (·.2)).take j)) /\ Hid (OwnK 24 1 slE wr L lc sl) /\ Hid (∀ b ∈ fpo L, W.heap.size <= b) /\ Hid (∀ s ∈ sl, ∀ b ∈ fpo s.A, b ∉ fpo L) /\ Hid (Touch [] W wr)) (fun _ i _ => n2 - (intOf i).toNat)
 case atStart => exact ⟨0, none, 0, [], by omega, rfl, rfl, lh (fun i h => absurd h (by omega)), lh (SlcsAt.nil _ _), lh (OwnK.nil _ _ _ _), lh (by simp [fpo]), lh (by simp), lh ((Touch.refl _ _).drewN _)⟩
 case round =>
  obtain ⟨j, L, lc, sl, hj, rfl, rfl, HE, HS, HO, HF, HN, HT⟩ := hrel
  have hslj : Hid (sl.length = j) := lh (by rw [HS.out.1, List.length_take, List.length_map, Hvs.out]; omega)
  by_cases hlt : j < n2
  ·have hjx : j < xs.length := by rw [Hxs.out]; exact hlt
   have hjv : j < vs.length := by rw [Hvs.out]; exact hlt
   obtain ⟨ad, b1, o1, rfl, hadd, hc⟩ := RdK.cells (HX.out.touch0 HT.out) 16 pcE_length (by omega) j hjx
   have hty := HTy.out j hjx hjv
   have hmv : (vs.map (·.2)).take (j + 1) = (vs.map (·.2)).take j ++ [vs[j].2] := by
    rw [List.take_succ_eq_append_getElem (by rw [List.length_map]; exact hjv), List.getElem_map]
   have her := fun h0 => errL_at (l := vs) hjv (fun i hi => HE.out i hi (by omega)) h0
   obtain ⟨y, hy⟩ : ∃ y, y = xs[j] := ⟨_, rfl⟩
   obtain ⟨u, hu⟩ : ∃ u, u = vs[j] := ⟨_, rfl⟩
   rw [<- hy] at hc hty
   rw [<- hu] at hty hmv her
   obtain ⟨y0, y1, ⟨yA2, yn2, yc2⟩, ⟨⟨yck, ycn, ⟨ycvk, ycvn, ycvt⟩, ycop⟩, yCA, ycnn, ycc⟩, ⟨yNA, ynn, ync⟩, ⟨yEA, yen, yec⟩, ⟨yOA, yol, yoc⟩, ⟨yGA, ygn, ygc⟩, ⟨yBA, ybn, ybc⟩, ycount⟩ := y
   have e0 := hc 0 _ rfl; have e1 := hc 1 _ rfl; have e2 := hc 2 _ rfl; have e3 := hc 3 _ rfl; have e4 := hc 4 _ rfl; have e5 := hc 5 _ rfl; have e6 := hc 6 _ rfl; have e7 := hc 7 _ rfl
   have e8 := hc 8 _ rfl; have e9 := hc 9 _ rfl; have e10 := hc 10 _ rfl; have e11 := hc 11 _ rfl; have e12 := hc 12 _ rfl; have e13 := hc 13 _ rfl; have e14 := hc 14 _ rfl; have e15 := hc 15 _ rfl
   rw [Nat.add_zero] at e0
   dsimp only at e0 e1 e2 e3 e4 e5 e6 e7 e8 e9 e10 e11 e12 e13 e14 e15
   have ta := (Touch.refl [] wr).alloc (.cells #[.int .i64 y0, .string y1, .slice yA2 yn2 yc2, .int .i64 yck, .string ycn, .int .i64 ycvk, .int .i64 ycvn, .string ycvt, .string ycop, .slice yCA ycnn ycc, .slice yNA ynn ync, .slice yEA yen yec, .slice yOA yol yoc, .slice yGA ygn ygc, .slice yBA ybn ybc, .int .i64 ycount] 49)
   have hty2 := hty _ ((HT0.out.trans0 HT.out).trans0 ta)
   simp only [PC.val] at hty2
   have Hty := lh hty2
   have Hmv := lh hmv
   have HTa := lh ta
   have hjn : (j : Int) < (n2 : Int) := by omega
   obtain ⟨uer, ucs⟩ := u
   dsimp only at her hmv Hmv Hty
   have Hu := lh hu
   clear hc hty hty2 hy hu hmv ta
   by_cases hz : uer = 0
   ·subst hz
    clear her
    go_wp2_with fail
    refine Hty.out.mono ?_
    rintro e w1 ⟨s, rfl, s1, s2, s3, s4, t1⟩
    obtain ⟨sA, sn, sc⟩ := s
    have T1 := HTa.out.trans0 t1
    have HY := lh (And.intro s1 (And.intro s2 (And.intro s3 s4)))
    have HT1 := lh T1
    clear s1 s2 s3 s4 t1 T1
    go_wp2_with (at_builtin; refine stop ?_)
    refine go ?_
    have tb := (Touch.refl [] w1).alloc (.cells #[.slice sA sn sc] 24)
    refine wpList_appK (enc := slE) rfl (.tmp 76) (.tmp 78) 119 rfl 24 _ 1 24 info_s5 Tryz.underlying119 rfl (by omega) slE_length slE_one L j lc sl hslj.out rfl (HO.out.touch0 (HT1.out.trans0 tb))
     (some ⟨w1.heap.size, 0, none⟩) 1 1 [⟨sA, sn, sc⟩] rfl rfl (RdK.one (enc := slE) w1 24 ⟨sA, sn, sc⟩ _ rfl) (by omega) (by omega) ?_
    intro L' lc' w' hown ht hf
    have HN2 := lh (And.intro hown (And.intro ht hf))
    clear hown ht hf tb
    go_wp2_with fail
    go_roundw
    case rel =>
     obtain ⟨hown, ht, hf⟩ := HN2.out
     obtain ⟨s1, s2, s3, s4⟩ := HY.out
     have tb := (Touch.refl [] w1).alloc (.cells #[.slice sA sn sc] 24)
     have hLlt := HO.out.lt
     have hsz := HT1.out.size
     rw [World.size_alloc] at hf s4
     have hbase : w.heap.size <= wr.heap.size := (HT0.out.trans0 HT.out).size
     have hbase2 : W.heap.size <= wr.heap.size := HT.out.size
     have hs4 : ∀ b ∈ fpo sA, w.heap.size <= b /\ b < w1.heap.size := fun b hb => ⟨by have := (s4 b hb).1; omega, (s4 b hb).2⟩
     have hnew : ∀ b ∈ fpo sA, b ∉ fpo L := fun b hb hm => by have := hLlt b hm; have := (s4 b hb).1; omega
     have hsn := ((HS.out.touch0 HT1.out).snoc ⟨sA, sn, sc⟩ ucs s1 s2 s3 hs4).touch0 tb
     have hall : ∀ s ∈ sl ++ [(⟨sA, sn, sc⟩ : SL)], ∀ b ∈ fpo s.A, b ∉ fpo L := fun s hs b hb => by
      rcases List.mem_append.1 hs with q | q
      ·exact HN.out s q b hb
      ·simp only [List.mem_singleton] at q; subst q; exact hnew b hb
     have hlt2 : ∀ s ∈ sl ++ [(⟨sA, sn, sc⟩ : SL)], ∀ b ∈ fpo s.A, b < w1.heap.size := fun s hs b hb => by
      obtain ⟨i, hi, rfl⟩ := List.mem_iff_getElem.1 hs
      have h0 := ((HS.out.touch0 HT1.out).snoc ⟨sA, sn, sc⟩ ucs s1 s2 s3 hs4)
      exact (((h0.2 i hi (by rw [<- h0.1]; exact hi)).2.2.2) b hb).2
     refine ⟨j + 1, L', lc', sl ++ [⟨sA, sn, sc⟩], by omega, by go_num, rfl, lh (fun i hi h2 => ?_), lh (by rw [Hmv.out]; exact hsn.touch ht hall), lh hown, lh (fun b hb => ?_), lh (fun s hs b hb hm => ?_), lh (((HT.out.trans0 HT1.out).trans0 tb).trans ht (fun b hb => .inr ?_))⟩
     ·by_cases hij : i = j
      ·subst hij; rw [<- Hu.out]
      ·exact HE.out i (by omega) h2
     ·rcases hf b hb with q | q
      ·exact HF.out b q
      ·omega
     ·rcases hf b hm with q | q
      ·exact hall s hs b hb q
      ·have := hlt2 s hs b hb; omega
     ·exact HF.out b hb
    case measure => simp [intOf]; omega
   ·have HVe := lh (show V = (uer, []) by
     rw [HV.out]; unfold nodeV; rw [her hz, if_neg hz])
    have hq : (uer == 0) = false := by rw [beq_eq_false_iff_ne]; exact hz
    have hq' : (uer != 0) = true := by rw [bne, hq]; rfl
    clear her
    go_wp2_with fail
    refine Hty.out.mono ?_
    rintro e w1 ⟨s, rfl, s1, s2, s3, s4, t1⟩
    have HT1 := lh (((HT0.out.trans0 HT.out).trans0 HTa.out).trans0 t1)
    clear s1 s2 s3 s4 t1
    go_wp2_with fail
    go_ret2
    rw [HVe.out]
    exact TyPost.err _ uer HT1.out
  ·obtain rfl : j = n2 := by omega
   have hz : errL vs = 0 := errL_zero fun u hu => by
    obtain ⟨i, hi, rfl⟩ := List.mem_iff_getElem.1 hu
    exact HE.out i (by rw [<- Hvs.out]; exact hi) hi
   have HVe := lh (show V = if v.1 = 0 then (if checkV v.2 = 0 then (0, v.2) else (checkV v.2, [])) else (v.1, []) by rw [HV.out]; unfold nodeV; rw [if_pos hz])
   have hlen : (vs.map (·.2)).length = j := by rw [List.length_map]; exact Hvs.out
   have hsl : SlcsAt w.heap.size wr sl (vs.map (·.2)) := by
    have := HS.out
    rwa [<- hlen, List.take_length] at this
   have hsc := Hv.out hz wr w.heap.size L lc sl (HT0.out.trans0 HT.out) (HT0.out.trans0 HT.out).size hsl HO.out.rd
   rw [hlen] at hsc
   simp only [PC.val] at hsc
   have Hsc := lh hsc
   obtain ⟨p0, p1, p2, p3, p4, p5, p6, p7, p8, p9, p10, p11, p12, p13, p14, p15⟩ := blk16 (HT.out.blk HB0.out (by simp))
   have HT1 := lh (HT0.out.trans0 HT.out)
   obtain ⟨ver, vcs⟩ := v
   dsimp only at hvl HVe
   have hck : Hid (∀ (A : Option Addr) (c : Nat) (w' : World), ColsAt w' A vcs -> Calls Tryz.prog 33 #[.slice A vcs.length c] w' fun e w'' => e = .returned (.int .i64 (checkV vcs)) /\ Touch [] w' w'') := lh fun A c w' hcs => check_any A c vcs.length vcs rfl Hok.out w' hcs (by omega)
   obtain ⟨K, hK⟩ : ∃ K, K = checkV vcs := ⟨_, rfl⟩
   rw [<- hK] at hck HVe
   clear hsc hz hlen hsl hK HE HS HO HF HN HT hslj hlt q0 q2 g1 hadd0
   by_cases hv0 : ver = 0
   ·have HVf := lh (show V = if K = 0 then (0, vcs) else (K, []) by rw [HVe.out, if_pos hv0])
    subst hv0
    clear HVe
    by_cases hK0 : K = 0
    ·have HVg := lh (show V = (0, vcs) by rw [HVf.out, if_pos hK0])
     subst hK0
     clear HVf
     go_wp2_with fail
     refine Hsc.out.mono ?_
     rintro e w1 ⟨⟨sA, sn, sc⟩, rfl, s1, s2, s3, s4, t1⟩
     have HY := lh (And.intro s1 (And.intro s2 (And.intro s3 s4)))
     have hcc := hck.out sA sc w1 s3
     rw [<- show sn = vcs.length from s1] at hcc
     have Hcc := lh hcc
     have HT2 := lh (HT1.out.trans0 t1)
     clear s1 s2 s3 s4 t1 hcc
     go_wp2_with fail
     refine Hcc.out.mono ?_
     rintro e w2 ⟨rfl, t2⟩
     have HT3 := lh t2
     clear t2
     go_wp2_with fail
     go_ret2
     rw [HVg.out]
     obtain ⟨s1, s2, s3, s4⟩ := HY.out
     exact ⟨⟨sA, sn, sc⟩, rfl, s1, s2, s3.touch0 HT3.out, fun b hb => ⟨(s4 b hb).1, Nat.lt_of_lt_of_le (s4 b hb).2 HT3.out.size⟩, HT2.out.trans0 HT3.out⟩
    ·have HVg := lh (show V = (K, []) by rw [HVf.out, if_neg hK0])
     have hq : (K == 0) = false := by rw [beq_eq_false_iff_ne]; exact hK0
     have hq' : (K != 0) = true := by rw [bne, hq]; rfl
     clear HVf
     go_wp2_with fail
     refine Hsc.out.mono ?_
     rintro e w1 ⟨⟨sA, sn, sc⟩, rfl, s1, s2, s3, s4, t1⟩
     have hcc := hck.out sA sc w1 s3
     rw [<- show sn = vcs.length from s1] at hcc
     have Hcc := lh hcc
     have HT2 := lh (HT1.out.trans0 t1)
     clear s1 s2 s3 s4 t1 hcc
     go_wp2_with fail
     refine Hcc.out.mono ?_
     rintro e w2 ⟨rfl, t2⟩
     have HT3 := lh (HT2.out.trans0 t2)
     clear t2
     go_wp2_with fail
     go_ret2
     rw [HVg.out]
     exact TyPost.err _ K HT3.out
   ·have HVf := lh (show V = (ver, []) by rw [HVe.out, if_neg hv0])
    have hq : (ver == 0) = false := by rw [beq_eq_false_iff_ne]; exact hv0
    have hq' : (ver != 0) = true := by rw [bne, hq]; rfl
    clear HVe
    go_wp2_with fail
    refine Hsc.out.mono ?_
    rintro e w1 ⟨⟨sA, sn, sc⟩, rfl, s1, s2, s3, s4, t1⟩
    have HT2 := lh (HT1.out.trans0 t1)
    clear s1 s2 s3 s4 t1
    go_wp2_with fail
    go_ret2
    rw [HVf.out]
    exact TyPost.err _ ver HT2.out
end
end Go.Proofs.YtafoklilkdnepaaGreatDoor
