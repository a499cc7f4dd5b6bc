/- Part 12 of the texts of this proof, one behind the other; each begins with its own sentence. No condition beyond those that its theorems state. -/
import Derived.Test.YtafoklilkdnepaaGreatDoorRu11
import Derived.Lib.ItoaLen
/- relop.Plan.schema: a plan's own schema by those of its Args: where, keep, union, distinct, first. (gen_rlschema2.py) -/
namespace Go.Proofs.YtafoklilkdnepaaGreatDoor
open Go.RowKit

/-- what an expression's type is for these columns, wherever it and they are -/
def ETypeS (w : World) (x : XC) (a : List CD) (r : Int × Int) : Prop := ∀ w' A c, Touch [] w w' → ColsAt w' A a → Calls Tryz.prog 68 #[x.val, .slice A a.length c] w' fun e w'' => e = .returned (.tuple #[.int .i64 r.1, .int .i64 r.2]) ∧ Touch [] w' w''
theorem ETypeS.touch0 {w w' : World} {x : XC} {a : List CD} {r : Int × Int} (h : ETypeS w x a r) (t : Touch [] w w') : ETypeS w' x a r := fun w'' A c t2 hc => h w'' A c (t.trans0 t2) hc
theorem ETypeS.at_ {w : World} {x : XC} {a : List CD} {r : Int × Int} (h : ETypeS w x a r) {w' : World} (t : Touch [] w w') {A : Option Addr} (hc : ColsAt w' A a) (c : Nat) : ETypeC w' A c a.length x r := fun w'' t2 => h w'' A c (t.trans0 t2) (hc.touch0 t2)

set_option maxRecDepth 40000 in
set_option maxHeartbeats 6400000 in
theorem schema_where (x : PC) (hk0 : x.kind = 2) (L : Option Addr) (lc : Nat) (s1 : SL) (a : List CD) (h1 : s1.n = a.length) (r : Int × Int) (w : World) (hL : RdK slE w L [s1]) (hE : ETypeC w s1.A s1.c s1.n x.cond r) :
  Calls Tryz.prog 64 #[x.val, .slice L 1 lc] w fun e w' => e = .returned (.tuple #[.slice s1.A s1.n s1.c, .int .i64 r.2]) ∧ Touch [] w w' := by
 obtain ⟨SA, sn, sc⟩ := s1
 dsimp only at *
 subst h1
 obtain ⟨k0, k1, ⟨A2, n2, c2'⟩, ⟨⟨ck, cn, ⟨cvk, cvn, cvt⟩, cop⟩, CA, cnn, cc⟩, ⟨NA, nn, nc⟩, ⟨EA, en, ec⟩, ⟨OA, ol, oc⟩, ⟨GA, gn, gc⟩, ⟨BA, bn, bc⟩, count⟩ := x
 dsimp only at hk0 hE
 subst hk0
 obtain ⟨ad, bl, bo, rfl, hadd0, hc0⟩ := RdK.cells hL 1 slE_length (by omega) 0 (by simp)
 have l0 := hc0 0 _ rfl
 simp only [Nat.zero_mul, Nat.add_zero] at hadd0 l0
 simp only [List.getElem_cons_zero] at l0
 have Het := Lib.hid hE
 simp only [XC.val, ETypeC] at Het
 simp only [PC.val] at *
 obtain ⟨r1, r2⟩ := r
 dsimp only at Het ⊢
 obtain ⟨W, hW⟩ : ∃ W, W = w.alloc (.cells #[.int .i64 2, .string k1, .slice A2 n2 c2', .int .i64 ck, .string cn, .int .i64 cvk, .int .i64 cvn, .string cvt, .string cop, .slice CA cnn cc, .slice NA nn nc, .slice EA en ec, .slice OA ol oc, .slice GA gn gc, .slice BA bn bc, .int .i64 count] 49) := ⟨_, rfl⟩
 have t0 : Touch [] w W := hW ▸ (Touch.refl [] w).alloc _
 have hb0 := hW ▸ heap_alloc_new w (.cells #[.int .i64 2, .string k1, .slice A2 n2 c2', .int .i64 ck, .string cn, .int .i64 cvk, .int .i64 cvn, .string cvt, .string cop, .slice CA cnn cc, .slice NA nn nc, .slice EA en ec, .slice OA ol oc, .slice GA gn gc, .slice BA bn bc, .int .i64 count] 49)
 have l0d := t0.drew.cell l0 (by simp)
 obtain ⟨p0, p1, p2, p3, p4, p5, p6, p7, p8, p9, p10, p11, p12, p13, p14, p15⟩ := blk16 ((Touch.refl [] W).drew.blk hb0 (by simp))
 have HP : Hid (W.drew.cell? ⟨w.heap.size, 0, none⟩ = some (.int .i64 2) ∧ W.drew.cell? ⟨w.heap.size, 1, none⟩ = some (.string k1) ∧ W.drew.cell? ⟨w.heap.size, 2, none⟩ = some (.slice A2 n2 c2') ∧ W.drew.cell? ⟨w.heap.size, 3, none⟩ = some (.int .i64 ck) ∧ W.drew.cell? ⟨w.heap.size, 4, none⟩ = some (.string cn) ∧ W.drew.cell? ⟨w.heap.size, 5, none⟩ = some (.int .i64 cvk) ∧ W.drew.cell? ⟨w.heap.size, 6, none⟩ = some (.int .i64 cvn) ∧ W.drew.cell? ⟨w.heap.size, 7, none⟩ = some (.string cvt) ∧ W.drew.cell? ⟨w.heap.size, 8, none⟩ = some (.string cop) ∧ W.drew.cell? ⟨w.heap.size, 9, none⟩ = some (.slice CA cnn cc) ∧ W.drew.cell? ⟨w.heap.size, 10, none⟩ = some (.slice NA nn nc) ∧ W.drew.cell? ⟨w.heap.size, 11, none⟩ = some (.slice EA en ec) ∧ W.drew.cell? ⟨w.heap.size, 12, none⟩ = some (.slice OA ol oc) ∧ W.drew.cell? ⟨w.heap.size, 13, none⟩ = some (.slice GA gn gc) ∧ W.drew.cell? ⟨w.heap.size, 14, none⟩ = some (.slice BA bn bc) ∧ W.drew.cell? ⟨w.heap.size, 15, none⟩ = some (.int .i64 count) ∧ W.drew.cell? ⟨bl, bo, none⟩ = some (.slice SA a.length sc)) := Lib.hid ⟨p0, p1, p2, p3, p4, p5, p6, p7, p8, p9, p10, p11, p12, p13, p14, p15, l0d⟩
 have HW := Lib.hid hW
 have HT0 := Lib.hid t0.drew
 have HQ := Lib.hid t0
 clear hE hL hc0 l0 hW t0 hb0 l0d p0 p1 p2 p3 p4 p5 p6 p7 p8 p9 p10 p11 p12 p13 p14 p15
 go_enter Tryz.func64, Tryz.ntmps64
 go_wp2_with fail
 rw [← HW.out]
 go_region_held3 (fun w' => w'.cell? ⟨w.heap.size, 0, none⟩ = some (.int .i64 2) ∧ w'.cell? ⟨w.heap.size, 1, none⟩ = some (.string k1) ∧ w'.cell? ⟨w.heap.size, 2, none⟩ = some (.slice A2 n2 c2') ∧ w'.cell? ⟨w.heap.size, 3, none⟩ = some (.int .i64 ck) ∧ w'.cell? ⟨w.heap.size, 4, none⟩ = some (.string cn) ∧ w'.cell? ⟨w.heap.size, 5, none⟩ = some (.int .i64 cvk) ∧ w'.cell? ⟨w.heap.size, 6, none⟩ = some (.int .i64 cvn) ∧ w'.cell? ⟨w.heap.size, 7, none⟩ = some (.string cvt) ∧ w'.cell? ⟨w.heap.size, 8, none⟩ = some (.string cop) ∧ w'.cell? ⟨w.heap.size, 9, none⟩ = some (.slice CA cnn cc) ∧ w'.cell? ⟨w.heap.size, 10, none⟩ = some (.slice NA nn nc) ∧ w'.cell? ⟨w.heap.size, 11, none⟩ = some (.slice EA en ec) ∧ w'.cell? ⟨w.heap.size, 12, none⟩ = some (.slice OA ol oc) ∧ w'.cell? ⟨w.heap.size, 13, none⟩ = some (.slice GA gn gc) ∧ w'.cell? ⟨w.heap.size, 14, none⟩ = some (.slice BA bn bc) ∧ w'.cell? ⟨w.heap.size, 15, none⟩ = some (.int .i64 count) ∧ w'.cell? ⟨bl, bo, none⟩ = some (.slice SA a.length sc)) (first | exact HP.out | exact keep17 HT1.out HP.out) (first
  | (go_at_call 68; refine (Het.out _ HT0.out).mono ?_; rintro e w1 ⟨rfl, t1⟩; have HT1 := Lib.hid t1; clear t1))
 have z0 := (keep17 HT1.out HP.out).2.2.2.2.2.2.2.2.2.2.2.2.2.2.2.2
 go_wp2_with fail
 go_ret2
 exact ⟨rfl, HT0.out.trans0 HT1.out⟩

set_option maxRecDepth 40000 in
set_option maxHeartbeats 6400000 in
theorem schema_keep (x : PC) (hk0 : x.kind = 3) (names : List ByteArray) (xs : List XC) (ets : List (Int × Int)) (hnn : x.names.n = names.length) (hen : x.exprs.n = xs.length) (hle : ets.length = xs.length) (hln : names.length ≤ 100000) (hlx : xs.length ≤ 100000) (L : Option Addr) (lc : Nat) (s1 : SL) (a : List CD) (h1 : s1.n = a.length) (w : World)
  (hL : RdK slE w L [s1]) (hr : RdK btE w x.names.A names) (hx : RdK xcE w x.exprs.A xs) (hE : ∀ i (h1 : i < xs.length) (h2 : i < ets.length), ETypeC w s1.A s1.c s1.n xs[i] ets[i]) :
  Calls Tryz.prog 64 #[x.val, .slice L 1 lc] w (SchPost (keepV names ets) w) := by
 obtain ⟨SA, sn, sc⟩ := s1
 dsimp only at *
 subst h1
 obtain ⟨k0, k1, ⟨A2, n2, c2'⟩, ⟨⟨ck, cn, ⟨cvk, cvn, cvt⟩, cop⟩, CA, cnn, cc⟩, ⟨NA, nn, nc⟩, ⟨EA, en, ec⟩, ⟨OA, ol, oc⟩, ⟨GA, gn, gc⟩, ⟨BA, bn, bc⟩, count⟩ := x
 dsimp only at hk0 hnn hen hr hx
 subst hk0
 obtain ⟨ad, bl, bo, rfl, hadd0, hc0⟩ := RdK.cells hL 1 slE_length (by omega) 0 (by simp)
 have l0 := hc0 0 _ rfl
 simp only [Nat.zero_mul, Nat.add_zero] at hadd0 l0
 simp only [List.getElem_cons_zero] at l0
 have Hgs := Lib.hid fun w' (t : Touch [] w w') => keepSchema_any ⟨3, k1, ⟨A2, n2, c2'⟩, ⟨⟨ck, cn, ⟨cvk, cvn, cvt⟩, cop⟩, CA, cnn, cc⟩, ⟨NA, nn, nc⟩, ⟨EA, en, ec⟩, ⟨OA, ol, oc⟩, ⟨GA, gn, gc⟩, ⟨BA, bn, bc⟩, count⟩ names xs ets hnn hen hle SA sc a.length hln hlx w' (RdK.touch0 hr t) (RdK.touch0 hx t) (fun i h1 h2 w'' t2 => hE i h1 h2 w'' (t.trans0 t2))
 simp only [PC.val] at *
 obtain ⟨V, hV⟩ : ∃ V, V = keepV names ets := ⟨_, rfl⟩
 rw [← hV] at Hgs ⊢
 obtain ⟨W, hW⟩ : ∃ W, W = w.alloc (.cells #[.int .i64 3, .string k1, .slice A2 n2 c2', .int .i64 ck, .string cn, .int .i64 cvk, .int .i64 cvn, .string cvt, .string cop, .slice CA cnn cc, .slice NA nn nc, .slice EA en ec, .slice OA ol oc, .slice GA gn gc, .slice BA bn bc, .int .i64 count] 49) := ⟨_, rfl⟩
 have t0 : Touch [] w W := hW ▸ (Touch.refl [] w).alloc _
 have hb0 := hW ▸ heap_alloc_new w (.cells #[.int .i64 3, .string k1, .slice A2 n2 c2', .int .i64 ck, .string cn, .int .i64 cvk, .int .i64 cvn, .string cvt, .string cop, .slice CA cnn cc, .slice NA nn nc, .slice EA en ec, .slice OA ol oc, .slice GA gn gc, .slice BA bn bc, .int .i64 count] 49)
 have l0d := t0.drew.cell l0 (by simp)
 obtain ⟨p0, p1, p2, p3, p4, p5, p6, p7, p8, p9, p10, p11, p12, p13, p14, p15⟩ := blk16 ((Touch.refl [] W).drew.blk hb0 (by simp))
 have HP : Hid (W.drew.cell? ⟨w.heap.size, 0, none⟩ = some (.int .i64 3) ∧ W.drew.cell? ⟨w.heap.size, 1, none⟩ = some (.string k1) ∧ W.drew.cell? ⟨w.heap.size, 2, none⟩ = some (.slice A2 n2 c2') ∧ W.drew.cell? ⟨w.heap.size, 3, none⟩ = some (.int .i64 ck) ∧ W.drew.cell? ⟨w.heap.size, 4, none⟩ = some (.string cn) ∧ W.drew.cell? ⟨w.heap.size, 5, none⟩ = some (.int .i64 cvk) ∧ W.drew.cell? ⟨w.heap.size, 6, none⟩ = some (.int .i64 cvn) ∧ W.drew.cell? ⟨w.heap.size, 7, none⟩ = some (.string cvt) ∧ W.drew.cell? ⟨w.heap.size, 8, none⟩ = some (.string cop) ∧ W.drew.cell? ⟨w.heap.size, 9, none⟩ = some (.slice CA cnn cc) ∧ W.drew.cell? ⟨w.heap.size, 10, none⟩ = some (.slice NA nn nc) ∧ W.drew.cell? ⟨w.heap.size, 11, none⟩ = some (.slice EA en ec) ∧ W.drew.cell? ⟨w.heap.size, 12, none⟩ = some (.slice OA ol oc) ∧ W.drew.cell? ⟨w.heap.size, 13, none⟩ = some (.slice GA gn gc) ∧ W.drew.cell? ⟨w.heap.size, 14, none⟩ = some (.slice BA bn bc) ∧ W.drew.cell? ⟨w.heap.size, 15, none⟩ = some (.int .i64 count) ∧ W.drew.cell? ⟨bl, bo, none⟩ = some (.slice SA a.length sc)) := Lib.hid ⟨p0, p1, p2, p3, p4, p5, p6, p7, p8, p9, p10, p11, p12, p13, p14, p15, l0d⟩
 have HW := Lib.hid hW
 have HT0 := Lib.hid t0.drew
 have HQ := Lib.hid t0
 clear hnn hen hle hr hx hE hL hc0 hV l0 hW t0 hb0 l0d p0 p1 p2 p3 p4 p5 p6 p7 p8 p9 p10 p11 p12 p13 p14 p15
 go_enter Tryz.func64, Tryz.ntmps64
 go_wp2_with fail
 rw [← HW.out]
 go_region_held3 (fun w' => w'.cell? ⟨w.heap.size, 0, none⟩ = some (.int .i64 3) ∧ w'.cell? ⟨w.heap.size, 1, none⟩ = some (.string k1) ∧ w'.cell? ⟨w.heap.size, 2, none⟩ = some (.slice A2 n2 c2') ∧ w'.cell? ⟨w.heap.size, 3, none⟩ = some (.int .i64 ck) ∧ w'.cell? ⟨w.heap.size, 4, none⟩ = some (.string cn) ∧ w'.cell? ⟨w.heap.size, 5, none⟩ = some (.int .i64 cvk) ∧ w'.cell? ⟨w.heap.size, 6, none⟩ = some (.int .i64 cvn) ∧ w'.cell? ⟨w.heap.size, 7, none⟩ = some (.string cvt) ∧ w'.cell? ⟨w.heap.size, 8, none⟩ = some (.string cop) ∧ w'.cell? ⟨w.heap.size, 9, none⟩ = some (.slice CA cnn cc) ∧ w'.cell? ⟨w.heap.size, 10, none⟩ = some (.slice NA nn nc) ∧ w'.cell? ⟨w.heap.size, 11, none⟩ = some (.slice EA en ec) ∧ w'.cell? ⟨w.heap.size, 12, none⟩ = some (.slice OA ol oc) ∧ w'.cell? ⟨w.heap.size, 13, none⟩ = some (.slice GA gn gc) ∧ w'.cell? ⟨w.heap.size, 14, none⟩ = some (.slice BA bn bc) ∧ w'.cell? ⟨w.heap.size, 15, none⟩ = some (.int .i64 count) ∧ w'.cell? ⟨bl, bo, none⟩ = some (.slice SA a.length sc)) (first | exact HP.out | exact keep17 M1.out.t HP.out) (first
  | (go_at_call 89; refine (Hgs.out _ HT0.out).mono ?_; rintro e w1 ⟨A1, c1, rfl, m1⟩; have M1 := Lib.hid m1; clear m1))
 go_wp2_with fail
 go_ret2
 exact ⟨A1, c1, rfl, M1.out.own, HT0.out.trans0 M1.out.t, fun b hb => Nat.le_trans HT0.out.size (M1.out.f b hb)⟩

set_option maxRecDepth 40000 in
set_option maxHeartbeats 6400000 in
theorem schema_union (x : PC) (hk0 : x.kind = 7) (L : Option Addr) (lc : Nat) (s1 s2 : SL) (a b : List CD) (h1 : s1.n = a.length) (h2 : s2.n = b.length) (hl1 : a.length ≤ 1000000) (hl2 : b.length ≤ 1000000) (w : World)
  (hL : RdK slE w L [s1, s2]) (ha : ColsAt w s1.A a) (hb : ColsAt w s2.A b) :
  Calls Tryz.prog 64 #[x.val, .slice L 2 lc] w fun e w' => e = .returned (if eqCs a b = true then .tuple #[.slice s1.A s1.n s1.c, .int .i64 0] else .tuple #[.slice none 0 0, .int .i64 12]) ∧ Touch [] w w' := by
 obtain ⟨SA, sn, sc⟩ := s1
 obtain ⟨SB, tn, tc⟩ := s2
 dsimp only at *
 subst h1 h2
 obtain ⟨k0, k1, ⟨A2, n2, c2'⟩, ⟨⟨ck, cn, ⟨cvk, cvn, cvt⟩, cop⟩, CA, cnn, cc⟩, ⟨NA, nn, nc⟩, ⟨EA, en, ec⟩, ⟨OA, ol, oc⟩, ⟨GA, gn, gc⟩, ⟨BA, bn, bc⟩, count⟩ := x
 dsimp only at hk0
 subst hk0
 obtain ⟨ad, bl, bo, rfl, hadd0, hc0⟩ := RdK.cells hL 1 slE_length (by omega) 0 (by simp)
 obtain ⟨ad', bl', bo', e', hadd1, hc1⟩ := RdK.cells hL 1 slE_length (by omega) 1 (by simp)
 obtain rfl : ad = ad' := by injection e'
 have l0 := hc0 0 _ rfl
 have l1 := hc1 0 _ rfl
 simp only [Nat.zero_mul, Nat.one_mul, Nat.add_zero] at hadd0 hadd1 l0 l1
 simp only [List.getElem_cons_zero, List.getElem_cons_succ] at l0 l1
 have Heq := Lib.hid fun w' (t : Touch [] w w') => schEqual_any SA SB sc tc a.length b.length a b rfl rfl w' (ha.touch0 t) (hb.touch0 t) (by omega) (by omega)
 simp only [PC.val] at *
 obtain ⟨K, hK⟩ : ∃ K, K = eqCs a b := ⟨_, rfl⟩
 rw [← hK] at Heq ⊢
 obtain ⟨W, hW⟩ : ∃ W, W = w.alloc (.cells #[.int .i64 7, .string k1, .slice A2 n2 c2', .int .i64 ck, .string cn, .int .i64 cvk, .int .i64 cvn, .string cvt, .string cop, .slice CA cnn cc, .slice NA nn nc, .slice EA en ec, .slice OA ol oc, .slice GA gn gc, .slice BA bn bc, .int .i64 count] 49) := ⟨_, rfl⟩
 have t0 : Touch [] w W := hW ▸ (Touch.refl [] w).alloc _
 have hb0 := hW ▸ heap_alloc_new w (.cells #[.int .i64 7, .string k1, .slice A2 n2 c2', .int .i64 ck, .string cn, .int .i64 cvk, .int .i64 cvn, .string cvt, .string cop, .slice CA cnn cc, .slice NA nn nc, .slice EA en ec, .slice OA ol oc, .slice GA gn gc, .slice BA bn bc, .int .i64 count] 49)
 have l0d := t0.drew.cell l0 (by simp)
 have l1d := t0.drew.cell l1 (by simp)
 obtain ⟨p0, p1, p2, p3, p4, p5, p6, p7, p8, p9, p10, p11, p12, p13, p14, p15⟩ := blk16 ((Touch.refl [] W).drew.blk hb0 (by simp))
 have HP : Hid (W.drew.cell? ⟨w.heap.size, 0, none⟩ = some (.int .i64 7) ∧ W.drew.cell? ⟨w.heap.size, 1, none⟩ = some (.string k1) ∧ W.drew.cell? ⟨w.heap.size, 2, none⟩ = some (.slice A2 n2 c2') ∧ W.drew.cell? ⟨w.heap.size, 3, none⟩ = some (.int .i64 ck) ∧ W.drew.cell? ⟨w.heap.size, 4, none⟩ = some (.string cn) ∧ W.drew.cell? ⟨w.heap.size, 5, none⟩ = some (.int .i64 cvk) ∧ W.drew.cell? ⟨w.heap.size, 6, none⟩ = some (.int .i64 cvn) ∧ W.drew.cell? ⟨w.heap.size, 7, none⟩ = some (.string cvt) ∧ W.drew.cell? ⟨w.heap.size, 8, none⟩ = some (.string cop) ∧ W.drew.cell? ⟨w.heap.size, 9, none⟩ = some (.slice CA cnn cc) ∧ W.drew.cell? ⟨w.heap.size, 10, none⟩ = some (.slice NA nn nc) ∧ W.drew.cell? ⟨w.heap.size, 11, none⟩ = some (.slice EA en ec) ∧ W.drew.cell? ⟨w.heap.size, 12, none⟩ = some (.slice OA ol oc) ∧ W.drew.cell? ⟨w.heap.size, 13, none⟩ = some (.slice GA gn gc) ∧ W.drew.cell? ⟨w.heap.size, 14, none⟩ = some (.slice BA bn bc) ∧ W.drew.cell? ⟨w.heap.size, 15, none⟩ = some (.int .i64 count) ∧ W.drew.cell? ⟨bl, bo, none⟩ = some (.slice SA a.length sc) ∧ W.drew.cell? ⟨bl', bo', none⟩ = some (.slice SB b.length tc)) := Lib.hid ⟨p0, p1, p2, p3, p4, p5, p6, p7, p8, p9, p10, p11, p12, p13, p14, p15, l0d, l1d⟩
 have HW := Lib.hid hW
 have HT0 := Lib.hid t0.drew
 have HQ := Lib.hid t0
 clear ha hb hL hc0 hc1 hK l0 l1 e' hW t0 hb0 l0d l1d p0 p1 p2 p3 p4 p5 p6 p7 p8 p9 p10 p11 p12 p13 p14 p15
 cases K
 ·go_enter Tryz.func64, Tryz.ntmps64
  go_wp2_with fail
  rw [← HW.out]
  go_region_held3 (fun w' => w'.cell? ⟨w.heap.size, 0, none⟩ = some (.int .i64 7) ∧ w'.cell? ⟨w.heap.size, 1, none⟩ = some (.string k1) ∧ w'.cell? ⟨w.heap.size, 2, none⟩ = some (.slice A2 n2 c2') ∧ w'.cell? ⟨w.heap.size, 3, none⟩ = some (.int .i64 ck) ∧ w'.cell? ⟨w.heap.size, 4, none⟩ = some (.string cn) ∧ w'.cell? ⟨w.heap.size, 5, none⟩ = some (.int .i64 cvk) ∧ w'.cell? ⟨w.heap.size, 6, none⟩ = some (.int .i64 cvn) ∧ w'.cell? ⟨w.heap.size, 7, none⟩ = some (.string cvt) ∧ w'.cell? ⟨w.heap.size, 8, none⟩ = some (.string cop) ∧ w'.cell? ⟨w.heap.size, 9, none⟩ = some (.slice CA cnn cc) ∧ w'.cell? ⟨w.heap.size, 10, none⟩ = some (.slice NA nn nc) ∧ w'.cell? ⟨w.heap.size, 11, none⟩ = some (.slice EA en ec) ∧ w'.cell? ⟨w.heap.size, 12, none⟩ = some (.slice OA ol oc) ∧ w'.cell? ⟨w.heap.size, 13, none⟩ = some (.slice GA gn gc) ∧ w'.cell? ⟨w.heap.size, 14, none⟩ = some (.slice BA bn bc) ∧ w'.cell? ⟨w.heap.size, 15, none⟩ = some (.int .i64 count) ∧ w'.cell? ⟨bl, bo, none⟩ = some (.slice SA a.length sc) ∧ w'.cell? ⟨bl', bo', none⟩ = some (.slice SB b.length tc)) (first | exact HP.out | exact keep18 HT1.out HP.out) (first
   | (go_at_call 18; refine (Heq.out _ HT0.out).mono ?_; rintro e w1 ⟨rfl, t1⟩; have HT1 := Lib.hid t1; clear t1))
  have z0 := (keep18 HT1.out HP.out).2.2.2.2.2.2.2.2.2.2.2.2.2.2.2.2.1
  have z1 := (keep18 HT1.out HP.out).1
  go_wp2_with fail
  go_ret2
  exact ⟨rfl, HT0.out.trans0 HT1.out⟩
 ·go_enter Tryz.func64, Tryz.ntmps64
  go_wp2_with fail
  rw [← HW.out]
  go_region_held3 (fun w' => w'.cell? ⟨w.heap.size, 0, none⟩ = some (.int .i64 7) ∧ w'.cell? ⟨w.heap.size, 1, none⟩ = some (.string k1) ∧ w'.cell? ⟨w.heap.size, 2, none⟩ = some (.slice A2 n2 c2') ∧ w'.cell? ⟨w.heap.size, 3, none⟩ = some (.int .i64 ck) ∧ w'.cell? ⟨w.heap.size, 4, none⟩ = some (.string cn) ∧ w'.cell? ⟨w.heap.size, 5, none⟩ = some (.int .i64 cvk) ∧ w'.cell? ⟨w.heap.size, 6, none⟩ = some (.int .i64 cvn) ∧ w'.cell? ⟨w.heap.size, 7, none⟩ = some (.string cvt) ∧ w'.cell? ⟨w.heap.size, 8, none⟩ = some (.string cop) ∧ w'.cell? ⟨w.heap.size, 9, none⟩ = some (.slice CA cnn cc) ∧ w'.cell? ⟨w.heap.size, 10, none⟩ = some (.slice NA nn nc) ∧ w'.cell? ⟨w.heap.size, 11, none⟩ = some (.slice EA en ec) ∧ w'.cell? ⟨w.heap.size, 12, none⟩ = some (.slice OA ol oc) ∧ w'.cell? ⟨w.heap.size, 13, none⟩ = some (.slice GA gn gc) ∧ w'.cell? ⟨w.heap.size, 14, none⟩ = some (.slice BA bn bc) ∧ w'.cell? ⟨w.heap.size, 15, none⟩ = some (.int .i64 count) ∧ w'.cell? ⟨bl, bo, none⟩ = some (.slice SA a.length sc) ∧ w'.cell? ⟨bl', bo', none⟩ = some (.slice SB b.length tc)) (first | exact HP.out | exact keep18 HT1.out HP.out) (first
   | (go_at_call 18; refine (Heq.out _ HT0.out).mono ?_; rintro e w1 ⟨rfl, t1⟩; have HT1 := Lib.hid t1; clear t1))
  have z0 := (keep18 HT1.out HP.out).2.2.2.2.2.2.2.2.2.2.2.2.2.2.2.2.1
  have z1 := (keep18 HT1.out HP.out).1
  go_wp2_with fail
  go_ret2
  exact ⟨rfl, HT0.out.trans0 HT1.out⟩

set_option maxRecDepth 40000 in
set_option maxHeartbeats 6400000 in
theorem schema_distinct (x : PC) (hk0 : x.kind = 8) (L : Option Addr) (lc : Nat) (s1 : SL) (w : World) (hL : RdK slE w L [s1]) :
  Calls Tryz.prog 64 #[x.val, .slice L 1 lc] w fun e w' => e = .returned (.tuple #[.slice s1.A s1.n s1.c, .int .i64 0]) ∧ Touch [] w w' := by
 obtain ⟨SA, sn, sc⟩ := s1
 obtain ⟨k0, k1, ⟨A2, n2, c2'⟩, ⟨⟨ck, cn, ⟨cvk, cvn, cvt⟩, cop⟩, CA, cnn, cc⟩, ⟨NA, nn, nc⟩, ⟨EA, en, ec⟩, ⟨OA, ol, oc⟩, ⟨GA, gn, gc⟩, ⟨BA, bn, bc⟩, count⟩ := x
 dsimp only at hk0
 subst hk0
 obtain ⟨ad, bl, bo, rfl, hadd0, hc0⟩ := RdK.cells hL 1 slE_length (by omega) 0 (by simp)
 have l0 := hc0 0 _ rfl
 simp only [Nat.zero_mul, Nat.add_zero] at hadd0 l0
 simp only [List.getElem_cons_zero] at l0
 simp only [PC.val] at *
 have t0 := (Touch.refl [] w).alloc (.cells #[.int .i64 8, .string k1, .slice A2 n2 c2', .int .i64 ck, .string cn, .int .i64 cvk, .int .i64 cvn, .string cvt, .string cop, .slice CA cnn cc, .slice NA nn nc, .slice EA en ec, .slice OA ol oc, .slice GA gn gc, .slice BA bn bc, .int .i64 count] 49)
 have l0d := t0.cell l0 (by simp)
 have HT0 := Lib.hid t0
 clear hL hc0 l0 t0
 go_enter Tryz.func64, Tryz.ntmps64
 go_wp2
 go_ret2
 exact ⟨rfl, HT0.out⟩

set_option maxRecDepth 40000 in
set_option maxHeartbeats 6400000 in
theorem schema_first (x : PC) (hk0 : x.kind = 9) (l : List (ByteArray × Bool)) (hlb : x.by_.n = l.length) (hll : l.length ≤ 1000000) (L : Option Addr) (lc : Nat) (s1 : SL) (a : List CD) (h1 : s1.n = a.length) (hl1 : a.length ≤ 1000000) (w : World)
  (hL : RdK slE w L [s1]) (hr : RdK odE w x.by_.A l) (ha : ColsAt w s1.A a) :
  Calls Tryz.prog 64 #[x.val, .slice L 1 lc] w fun e w' => e = .returned (.tuple #[.slice s1.A s1.n s1.c, .int .i64 (byV a l x.count)]) ∧ Touch [] w w' := by
 obtain ⟨SA, sn, sc⟩ := s1
 dsimp only at *
 subst h1
 obtain ⟨k0, k1, ⟨A2, n2, c2'⟩, ⟨⟨ck, cn, ⟨cvk, cvn, cvt⟩, cop⟩, CA, cnn, cc⟩, ⟨NA, nn, nc⟩, ⟨EA, en, ec⟩, ⟨OA, ol, oc⟩, ⟨GA, gn, gc⟩, ⟨BA, bn, bc⟩, count⟩ := x
 dsimp only at hk0 hlb hr ⊢
 subst hk0
 obtain ⟨ad, bl, bo, rfl, hadd0, hc0⟩ := RdK.cells hL 1 slE_length (by omega) 0 (by simp)
 have l0 := hc0 0 _ rfl
 simp only [Nat.zero_mul, Nat.add_zero] at hadd0 l0
 simp only [List.getElem_cons_zero] at l0
 have Hby := Lib.hid fun w' (t : Touch [] w w') => checkBy_any ⟨9, k1, ⟨A2, n2, c2'⟩, ⟨⟨ck, cn, ⟨cvk, cvn, cvt⟩, cop⟩, CA, cnn, cc⟩, ⟨NA, nn, nc⟩, ⟨EA, en, ec⟩, ⟨OA, ol, oc⟩, ⟨GA, gn, gc⟩, ⟨BA, bn, bc⟩, count⟩ l hlb SA sc a.length a rfl (by omega) hll w' (RdK.touch0 hr t) (ha.touch0 t)
 simp only [PC.val] at *
 obtain ⟨V, hV⟩ : ∃ V, V = byV a l count := ⟨_, rfl⟩
 rw [← hV] at Hby ⊢
 obtain ⟨W, hW⟩ : ∃ W, W = w.alloc (.cells #[.int .i64 9, .string k1, .slice A2 n2 c2', .int .i64 ck, .string cn, .int .i64 cvk, .int .i64 cvn, .string cvt, .string cop, .slice CA cnn cc, .slice NA nn nc, .slice EA en ec, .slice OA ol oc, .slice GA gn gc, .slice BA bn bc, .int .i64 count] 49) := ⟨_, rfl⟩
 have t0 : Touch [] w W := hW ▸ (Touch.refl [] w).alloc _
 have hb0 := hW ▸ heap_alloc_new w (.cells #[.int .i64 9, .string k1, .slice A2 n2 c2', .int .i64 ck, .string cn, .int .i64 cvk, .int .i64 cvn, .string cvt, .string cop, .slice CA cnn cc, .slice NA nn nc, .slice EA en ec, .slice OA ol oc, .slice GA gn gc, .slice BA bn bc, .int .i64 count] 49)
 have l0d := t0.drew.cell l0 (by simp)
 obtain ⟨p0, p1, p2, p3, p4, p5, p6, p7, p8, p9, p10, p11, p12, p13, p14, p15⟩ := blk16 ((Touch.refl [] W).drew.blk hb0 (by simp))
 have HP : Hid (W.drew.cell? ⟨w.heap.size, 0, none⟩ = some (.int .i64 9) ∧ W.drew.cell? ⟨w.heap.size, 1, none⟩ = some (.string k1) ∧ W.drew.cell? ⟨w.heap.size, 2, none⟩ = some (.slice A2 n2 c2') ∧ W.drew.cell? ⟨w.heap.size, 3, none⟩ = some (.int .i64 ck) ∧ W.drew.cell? ⟨w.heap.size, 4, none⟩ = some (.string cn) ∧ W.drew.cell? ⟨w.heap.size, 5, none⟩ = some (.int .i64 cvk) ∧ W.drew.cell? ⟨w.heap.size, 6, none⟩ = some (.int .i64 cvn) ∧ W.drew.cell? ⟨w.heap.size, 7, none⟩ = some (.string cvt) ∧ W.drew.cell? ⟨w.heap.size, 8, none⟩ = some (.string cop) ∧ W.drew.cell? ⟨w.heap.size, 9, none⟩ = some (.slice CA cnn cc) ∧ W.drew.cell? ⟨w.heap.size, 10, none⟩ = some (.slice NA nn nc) ∧ W.drew.cell? ⟨w.heap.size, 11, none⟩ = some (.slice EA en ec) ∧ W.drew.cell? ⟨w.heap.size, 12, none⟩ = some (.slice OA ol oc) ∧ W.drew.cell? ⟨w.heap.size, 13, none⟩ = some (.slice GA gn gc) ∧ W.drew.cell? ⟨w.heap.size, 14, none⟩ = some (.slice BA bn bc) ∧ W.drew.cell? ⟨w.heap.size, 15, none⟩ = some (.int .i64 count) ∧ W.drew.cell? ⟨bl, bo, none⟩ = some (.slice SA a.length sc)) := Lib.hid ⟨p0, p1, p2, p3, p4, p5, p6, p7, p8, p9, p10, p11, p12, p13, p14, p15, l0d⟩
 have HW := Lib.hid hW
 have HT0 := Lib.hid t0.drew
 have HQ := Lib.hid t0
 clear hlb hr ha hL hc0 hV l0 hW t0 hb0 l0d p0 p1 p2 p3 p4 p5 p6 p7 p8 p9 p10 p11 p12 p13 p14 p15
 go_enter Tryz.func64, Tryz.ntmps64
 go_wp2_with fail
 rw [← HW.out]
 go_region_held3 (fun w' => w'.cell? ⟨w.heap.size, 0, none⟩ = some (.int .i64 9) ∧ w'.cell? ⟨w.heap.size, 1, none⟩ = some (.string k1) ∧ w'.cell? ⟨w.heap.size, 2, none⟩ = some (.slice A2 n2 c2') ∧ w'.cell? ⟨w.heap.size, 3, none⟩ = some (.int .i64 ck) ∧ w'.cell? ⟨w.heap.size, 4, none⟩ = some (.string cn) ∧ w'.cell? ⟨w.heap.size, 5, none⟩ = some (.int .i64 cvk) ∧ w'.cell? ⟨w.heap.size, 6, none⟩ = some (.int .i64 cvn) ∧ w'.cell? ⟨w.heap.size, 7, none⟩ = some (.string cvt) ∧ w'.cell? ⟨w.heap.size, 8, none⟩ = some (.string cop) ∧ w'.cell? ⟨w.heap.size, 9, none⟩ = some (.slice CA cnn cc) ∧ w'.cell? ⟨w.heap.size, 10, none⟩ = some (.slice NA nn nc) ∧ w'.cell? ⟨w.heap.size, 11, none⟩ = some (.slice EA en ec) ∧ w'.cell? ⟨w.heap.size, 12, none⟩ = some (.slice OA ol oc) ∧ w'.cell? ⟨w.heap.size, 13, none⟩ = some (.slice GA gn gc) ∧ w'.cell? ⟨w.heap.size, 14, none⟩ = some (.slice BA bn bc) ∧ w'.cell? ⟨w.heap.size, 15, none⟩ = some (.int .i64 count) ∧ w'.cell? ⟨bl, bo, none⟩ = some (.slice SA a.length sc)) (first | exact HP.out | exact keep17 HT1.out HP.out) (first
  | (go_at_call 93; refine (Hby.out _ HT0.out).mono ?_; rintro e w1 ⟨rfl, t1⟩; have HT1 := Lib.hid t1; clear t1))
 go_wp2_with fail
 go_ret2
 exact ⟨rfl, HT0.out.trans0 HT1.out⟩

end Go.Proofs.YtafoklilkdnepaaGreatDoor

/- relop.places, picked, null, keyOf. For every rows and names. -/
namespace Go.Proofs.YtafoklilkdnepaaGreatDoor
open Go.RowKit

def naE (n : Nat) : List Value := [.int .i64 n]
theorem naE_length (n : Nat) : (naE n).length = 1 := rfl
theorem naE_one (n : Nat) : ∀ u ∈ naE n, u.oneCell' = true := by
 intro u hu
 simp only [naE, List.mem_cons, List.not_mem_nil, or_false] at hu
 subst hu; rfl
theorem info_i5 : (Tryz.prog.info? 3).map (fun i => (i.zero, i.size, i.bytes)) = some (some (.int .i64 0), 1, 8) := by kernel_rfl
/-- where columns are -/
def placesV (cs : List CD) (names : List ByteArray) : List Nat := names.map fun n => (placeV cs n).getD 0
/-- a row's values at some places -/
def pickV (r : List VD) (at_ : List Nat) : List VD := at_.map fun i => r.getD i ⟨0, 0, ⟨#[]⟩⟩
def nullV (l : List VD) : Bool := l.any fun v => decide (v.kind = 0)

set_option maxRecDepth 20000 in
set_option maxHeartbeats 6400000 in
theorem places_any (SA : Option Addr) (c1 n1 : Nat) (a : List CD) (h1 : a.length = n1) (hl1 : n1 ≤ 1000000) (NA : Option Addr) (nc n2 : Nat) (names : List ByteArray) (h2 : names.length = n2) (hl2 : n2 ≤ 1000000) (w : World) (ha : ColsAt w SA a) (hr : RdK btE w NA names) :
  Calls Tryz.prog 133 #[.slice SA n1 c1, .slice NA n2 nc] w fun e w' => ∃ A c, e = .returned (.slice A n2 c) ∧ Made 3 1 naE (placesV a names) A c w w' := by
 subst h1 h2
 have HRD := Lib.hid (And.intro ha hr)
 clear ha hr
 go_enter Tryz.func133, Tryz.ntmps133
 go_wp2_with fail
 go_loopw [5, 12] (fun o i wr => ∃ (k : Nat) (A : Option Addr) (c : Nat), k ≤ names.length ∧ i = .int .i64 k ∧ o = .slice A k c ∧ Hid (Made 3 1 naE (placesV a (names.take k)) A c w wr)) (fun _ i _ => names.length - (intOf i).toNat)
 case atStart => exact ⟨0, none, 0, by omega, rfl, rfl, Lib.hid (Made.nil _ _ _ _)⟩
 case round =>
  obtain ⟨k, A, c, hk, rfl, rfl, HM⟩ := hrel
  by_cases hlt : k < names.length
  ·obtain ⟨ad, b1, o1, rfl, hadd, hc⟩ := RdK.cells (HRD.out.2.touch0 HM.out.t) 1 btE_length (by omega) k hlt
   rw [Nat.mul_one] at hadd
   have e0 := hc 0 _ rfl
   rw [Nat.add_zero] at e0
   have htk := List.take_succ_eq_append_getElem hlt
   obtain ⟨p, hp⟩ : ∃ p, p = names[k] := ⟨_, rfl⟩
   rw [← hp] at e0 htk
   have hfa := findC_any SA c1 a.length a rfl p wr (HRD.out.1.touch0 HM.out.t) (by omega)
   have hnx : placesV a (names.take (k + 1)) = placesV a (names.take k) ++ [(placeV a p).getD 0] := by
    rw [htk]; unfold placesV; rw [List.map_append]; rfl
   have hln : Hid ((placesV a (names.take k)).length = k) := Lib.hid (by unfold placesV; rw [List.length_map, List.length_take]; omega)
   obtain ⟨i, hi⟩ : ∃ i, i = (placeV a p).getD 0 := ⟨_, rfl⟩
   obtain ⟨b, hb⟩ : ∃ b, b = (placeV a p).isSome := ⟨_, rfl⟩
   rw [← hi, ← hb] at hfa
   rw [← hi] at hnx
   have Hfa := Lib.hid hfa
   have Hnx := Lib.hid hnx
   have hkn : (k : Int) < (names.length : Int) := by omega
   clear hfa hnx htk hc hp hi hb
   go_wp2_with fail
   refine Hfa.out.mono ?_
   rintro e w1 ⟨rfl, t1⟩
   have HM1 := Lib.hid (HM.out.touch0 t1)
   clear t1 HM
   go_wp2_with (at_builtin; refine stop ?_)
   refine go ?_
   have ta := (Touch.refl [] w1).alloc (.cells #[.int .i64 i] 3)
   refine wpList_appK (enc := naE) rfl (.tmp 22) (.tmp 24) 97 rfl 3 _ 1 8 info_i5 Tryz.underlying97 rfl (by omega) naE_length naE_one A k c _ hln.out rfl (HM1.out.touch0 ta).own
    (some ⟨w1.heap.size, 0, none⟩) 1 1 [i] rfl rfl (RdK.one (enc := naE) w1 3 i _ rfl) (by omega) (by omega) ?_
   intro A' c' w' hown ht hf
   have HX := Lib.hid ((HM1.out.touch0 ta).step hown ht hf)
   clear hown ht hf ta
   go_wp2_with fail
   go_roundw
   case rel => exact ⟨k + 1, A', c', by omega, by go_num, rfl, Lib.hid (by rw [Hnx.out]; exact HX.out)⟩
   case measure => simp [intOf]; omega
  ·obtain rfl : k = names.length := by omega
   have HM2 : Hid (Made 3 1 naE (placesV a names) A c w wr) := Lib.hid (by have := HM.out; rwa [List.take_length] at this)
   clear HM
   go_wp2
   go_ret
   exact ⟨A, c, rfl, HM2.out⟩

set_option maxRecDepth 20000 in
set_option maxHeartbeats 6400000 in
theorem picked_any (RA : Option Addr) (rc n1 : Nat) (r : List VD) (h1 : r.length = n1) (hl1 : n1 ≤ 1000000) (PA : Option Addr) (pc n2 : Nat) (at_ : List Nat) (h2 : at_.length = n2) (hl2 : n2 ≤ 1000000) (hat : ∀ i ∈ at_, i < n1) (w : World) (hr : ValsAt w RA r) (hp : RdK naE w PA at_) :
  Calls Tryz.prog 134 #[.slice RA n1 rc, .slice PA n2 pc] w fun e w' => ∃ A c, e = .returned (.slice A n2 c) ∧ Made 31 3 vdE (pickV r at_) A c w w' := by
 subst h1 h2
 have HRD := Lib.hid (And.intro hr hp)
 have Hat := Lib.hid hat
 clear hr hp hat
 go_enter Tryz.func134, Tryz.ntmps134
 go_wp2_with fail
 go_loopw [5, 10] (fun o i wr => ∃ (k : Nat) (A : Option Addr) (c : Nat), k ≤ at_.length ∧ i = .int .i64 k ∧ o = .slice A k c ∧ Hid (Made 31 3 vdE (pickV r (at_.take k)) A c w wr)) (fun _ i _ => at_.length - (intOf i).toNat)
 case atStart => exact ⟨0, none, 0, by omega, rfl, rfl, Lib.hid (Made.nil _ _ _ _)⟩
 case round =>
  obtain ⟨k, A, c, hk, rfl, rfl, HM⟩ := hrel
  by_cases hlt : k < at_.length
  ·obtain ⟨ad, b1, o1, rfl, hadd, hc⟩ := RdK.cells (HRD.out.2.touch0 HM.out.t) 1 naE_length (by omega) k hlt
   rw [Nat.mul_one] at hadd
   have e0 := hc 0 _ rfl
   rw [Nat.add_zero] at e0
   have htk := List.take_succ_eq_append_getElem hlt
   have hil := Hat.out _ (List.getElem_mem hlt)
   obtain ⟨i, hi⟩ : ∃ i, i = at_[k] := ⟨_, rfl⟩
   rw [← hi] at e0 htk hil
   obtain ⟨ad2, b2, o2, rfl, hadd2, c0, c1, c2⟩ := (HRD.out.1.touch0 HM.out.t).at_ i hil
   have hnx : pickV r (at_.take (k + 1)) = pickV r (at_.take k) ++ [r[i]] := by
    rw [htk]; unfold pickV; rw [List.map_append]; simp [hil]
   have hln : Hid ((pickV r (at_.take k)).length = k) := Lib.hid (by unfold pickV; rw [List.length_map, List.length_take]; omega)
   obtain ⟨v, hv⟩ : ∃ v, v = r[i] := ⟨_, rfl⟩
   rw [← hv] at c0 c1 c2 hnx
   obtain ⟨vk, vn, vt⟩ := v
   dsimp only at c0 c1 c2
   have Hnx := Lib.hid hnx
   have hkn : (k : Int) < (at_.length : Int) := by omega
   have hin : (i : Int) < (r.length : Int) := by omega
   have hi0 : (0 : Int) ≤ (i : Int) := by omega
   clear hnx htk hc hi hv
   go_wp2_with (at_builtin; refine stop ?_)
   refine go ?_
   have ta := (Touch.refl [] wr).alloc (.cells #[.int .i64 vk, .int .i64 vn, .string vt] 31)
   refine wpList_appK (enc := vdE) rfl (.tmp 14) (.tmp 19) 33 rfl 31 _ 3 32 info_v5 Tryz.underlying33 rfl (by omega) vdE_length vdE_one A k c _ hln.out rfl (HM.out.touch0 ta).own
    (some ⟨wr.heap.size, 0, none⟩) 1 1 [⟨vk, vn, vt⟩] rfl rfl (RdK.one (enc := vdE) wr 31 ⟨vk, vn, vt⟩ _ rfl) (by omega) (by omega) ?_
   intro A' c' w' hown ht hf
   have HX := Lib.hid ((HM.out.touch0 ta).step hown ht hf)
   clear hown ht hf ta
   go_wp2_with fail
   go_roundw
   case rel => exact ⟨k + 1, A', c', by omega, by go_num, rfl, Lib.hid (by rw [Hnx.out]; exact HX.out)⟩
   case measure => simp [intOf]; omega
  ·obtain rfl : k = at_.length := by omega
   have HM2 : Hid (Made 31 3 vdE (pickV r at_) A c w wr) := Lib.hid (by have := HM.out; rwa [List.take_length] at this)
   clear HM
   go_wp2
   go_ret
   exact ⟨A, c, rfl, HM2.out⟩

set_option maxHeartbeats 400000 in
theorem null1_any (v : VD) (w : World) :
  Calls Tryz.prog 169 #[.agg #[.int .i64 v.kind, .int .i64 v.num, .string v.text]] w fun e w' => e = .returned (.bool (decide (v.kind = 0))) ∧ Touch [] w w' := by
 obtain ⟨vk, vn, vt⟩ := v
 dsimp only
 have t0 := (Touch.refl [] w).alloc (.cells #[.int .i64 vk, .int .i64 vn, .string vt] 31)
 by_cases h : vk = 0
 ·subst h
  go_enter Tryz.func169, Tryz.ntmps169
  go_wp2
  go_ret
  exact ⟨rfl, t0⟩
 ·have hq : (vk == 0) = false := by rw [beq_eq_false_iff_ne]; exact h
  have hd := Lib.hid (decide_eq_false h)
  go_enter Tryz.func169, Tryz.ntmps169
  go_wp2
  go_ret
  exact ⟨ret_bool hd.out.symm, t0⟩

set_option maxRecDepth 20000 in
set_option maxHeartbeats 1600000 in
theorem indexNull_any (A : Option Addr) (c m : Nat) (l : List VD) (hm : l.length = m) (w : World) (hv : ValsAt w A l) (hl2 : m ≤ 140737000000000) :
  Calls Tryz.prog 192 #[.slice A m c, .func (.func 169) #[] #[]] w fun e w' =>
   (∃ i : Int, e = .returned (.int .i64 i) ∧ -1 ≤ i ∧ i ≤ m ∧ (decide (0 ≤ i) = nullV l)) ∧ Touch [] w w' := by
 subst hm
 go_enter Tryz.func192, Tryz.ntmps192
 go_wp2
 go_loopw [8] (fun i wr => ∃ k : Nat, k ≤ l.length ∧ i = .int .i64 k ∧ Hid (nullV (l.take k) = false) ∧ Touch [] w wr) (fun i _ => l.length - (intOf i).toNat)
 case atStart => exact ⟨0, by omega, rfl, Lib.hid rfl, Touch.refl _ _⟩
 case round =>
  obtain ⟨k, hk, rfl, Hall, ht⟩ := hrel
  by_cases hlt : k < l.length
  ·obtain ⟨ad, b, off, rfl, hadd, c0, c1, c2⟩ := (hv.touch0 ht).at_ k hlt
   have htk := List.take_succ_eq_append_getElem hlt
   have hmem := List.getElem_mem hlt
   obtain ⟨v, hve⟩ : ∃ v, v = l[k] := ⟨_, rfl⟩
   rw [← hve] at c0 c1 c2 htk hmem
   have hst : nullV (l.take (k + 1)) = decide (v.kind = 0) := by
    rw [htk]; unfold nullV
    rw [List.any_append]
    have := Hall.out
    unfold nullV at this
    rw [this]; simp
   have hyes : decide (v.kind = 0) = true → nullV l = true := fun h => List.any_eq_true.2 ⟨v, hmem, h⟩
   have Hst := Lib.hid hst
   have hf := fun w' => null1_any v w'
   have hkn : (k : Int) < (l.length : Int) := by omega
   have Hyes := Lib.hid hyes
   clear hst htk hve hyes hmem Hall
   obtain ⟨vk, vn, vt⟩ := v
   dsimp only at c0 c1 c2 hf Hst Hyes
   rcases hb : decide (vk = 0) with _ | _
   ·rw [hb] at hf
    have Hf := Lib.hid hf
    have Hs := Lib.hid (Hst.out.trans hb)
    clear hf hb
    go_wp2_with fail
    refine (Hf.out _).mono ?_
    rintro e w1 ⟨rfl, t1⟩
    go_wp2
    go_roundw
    case rel => exact ⟨k + 1, by omega, by go_num, Hs, ht.trans0 t1⟩
    case measure => simp [intOf]; omega
   ·rw [hb] at hf
    have Hf := Lib.hid hf
    have Hs := Lib.hid (Hyes.out hb)
    clear hf hb
    go_wp2_with fail
    refine (Hf.out _).mono ?_
    rintro e w1 ⟨rfl, t1⟩
    go_wp2
    go_ret
    exact ⟨⟨k, rfl, by omega, by omega, by rw [Hs.out]; simp⟩, ht.trans0 t1⟩
  ·obtain rfl : k = l.length := by omega
   have hall := Hall.out
   rw [List.take_length] at hall
   have Hs := Lib.hid hall
   clear hall
   go_wp2
   go_ret
   exact ⟨⟨-1, rfl, by omega, by omega, by rw [Hs.out]; rfl⟩, ht⟩

set_option maxHeartbeats 800000 in
theorem containsNull_any (A : Option Addr) (c m : Nat) (l : List VD) (hm : l.length = m) (w : World) (hv : ValsAt w A l) (hl2 : m ≤ 140737000000000) :
  Calls Tryz.prog 168 #[.slice A m c, .func (.func 169) #[] #[]] w fun e w' => e = .returned (.bool (nullV l)) ∧ Touch [] w w' := by
 have Hi := Lib.hid (indexNull_any A c m l hm w hv hl2)
 go_enter Tryz.func168, Tryz.ntmps168
 go_wp2_with fail
 refine Hi.out.mono ?_
 rintro e w1 ⟨⟨i, rfl, i1, i2, i3⟩, t1⟩
 have I3 := Lib.hid i3
 clear i3
 go_wp2
 go_ret
 exact ⟨ret_bool (by rw [← I3.out]), t1⟩
set_option maxHeartbeats 800000 in
theorem null_any (A : Option Addr) (c m : Nat) (l : List VD) (hm : l.length = m) (w : World) (hv : ValsAt w A l) (hl2 : m ≤ 140737000000000) :
  Calls Tryz.prog 135 #[.slice A m c] w fun e w' => e = .returned (.bool (nullV l)) ∧ Touch [] w w' := by
 have Hi := Lib.hid (containsNull_any A c m l hm w hv hl2)
 go_enter Tryz.func135, Tryz.ntmps135
 go_wp2_with fail
 refine Hi.out.mono ?_
 rintro e w1 ⟨rfl, t1⟩
 go_wp2
 go_ret
 exact ⟨rfl, t1⟩
end Go.Proofs.YtafoklilkdnepaaGreatDoor

/- relop.keyOf: the key of some values. For every values whose texts are known. -/
namespace Go.Proofs.YtafoklilkdnepaaGreatDoor
open Go.RowKit

/-- a text between quotes -/
def quotL (s : List UInt8) : List UInt8 := 34 :: (s.flatMap (fun c => if c = 34 ∨ c = 92 then [92, c] else [c]) ++ [34])
/-- a value's text -/
def showL (v : VD) : List UInt8 := if v.right = false then [] else if v.kind = 0 then [110, 117, 108, 108] else if v.kind = 1 then Lib.itoa v.num else quotL v.text.data.toList
theorem quot_le (s : List UInt8) : (quotL s).length ≤ 2 * s.length + 2 := by
 have : (s.flatMap (fun c => if c = 34 ∨ c = 92 then [92, c] else [c])).length ≤ 2 * s.length := by
  induction s with
  | nil => simp
  | cons a s ih =>
   rw [List.flatMap_cons, List.length_append, List.length_cons]
   split
   ·rw [show ([92, a] : List UInt8).length = 2 from rfl]; omega
   ·rw [show ([a] : List UInt8).length = 1 from rfl]; omega
 unfold quotL
 rw [List.length_cons, List.length_append, List.length_singleton]; omega
theorem show_le (v : VD) (hn : -9223372036854775808 ≤ v.num ∧ v.num ≤ 9223372036854775807) : (showL v).length ≤ 200 := by
 unfold showL
 split
 ·simp
 ·split
  ·simp
  ·split
   ·have := Lib.itoa_length_le v.num (by omega) (by omega)
    omega
   ·rename_i h1 h2 h3
    have hr : v.right = true := by simpa using h1
    have hp : v.text.data.toList.length ≤ 64 := by
     unfold VD.right at hr
     rw [if_neg h2, if_neg h3] at hr
     split at hr
     ·have := (Bool.and_eq_true_iff.1 hr).2
      unfold plainV at this
      exact of_decide_eq_true (Bool.and_eq_true_iff.1 this).2
     ·cases hr
    have := quot_le v.text.data.toList
    omega
/-- the key of some values -/
def keyL (l : List VD) : List UInt8 := l.flatMap fun v => showL v ++ [10]
/-- a value's text is this wherever it is asked for -/
def ShowAt (w : World) (v : VD) : Prop := ∀ w', Touch [] w w' → Calls Tryz.prog 170 #[v.val] w' fun e w'' => e = .returned (.string (S (showL v))) ∧ Touch [] w' w''
theorem ShowAt.touch0 {w w' : World} {v : VD} (h : ShowAt w v) (ht : Touch [] w w') : ShowAt w' v := fun w'' t => h w'' (ht.trans0 t)
theorem S_app' (a b : List UInt8) : S a ++ S b = S (a ++ b) := by
 apply bs_eq
 simp [S]

set_option maxRecDepth 20000 in
set_option maxHeartbeats 6400000 in
theorem keyOf_any (A : Option Addr) (c m : Nat) (l : List VD) (hm : l.length = m) (w : World) (hv : ValsAt w A l) (hl2 : m ≤ 1000000) (hs : ∀ v ∈ l, ShowAt w v) (hn : ∀ v ∈ l, v.Ok 140737000000000) :
  Calls Tryz.prog 136 #[.slice A m c] w fun e w' => e = .returned (.string (S (keyL l))) ∧ Touch [] w w' := by
 subst hm
 have HS := Lib.hid hs
 have HN := Lib.hid hn
 have HV := Lib.hid hv
 clear hs hn hv
 go_enter Tryz.func136, Tryz.ntmps136
 go_wp2_with fail
 go_loopw [3, 8] (fun o i wr => ∃ (k : Nat) (acc : ByteArray), k ≤ l.length ∧ acc.size ≤ 201 * k ∧ i = .int .i64 k ∧ o = .string acc ∧ Hid (acc = S (keyL (l.take k))) ∧ Hid (Touch [] w wr)) (fun _ i _ => l.length - (intOf i).toNat)
 case atStart => exact ⟨0, ⟨#[]⟩, by omega, Nat.le_refl 0, rfl, rfl, Lib.hid rfl, Lib.hid (Touch.refl _ _)⟩
 case round =>
  obtain ⟨k, acc, hk, hac, rfl, rfl, HA, HT⟩ := hrel
  by_cases hlt : k < l.length
  ·obtain ⟨ad, b, off, rfl, hadd, c0, c1, c2⟩ := (HV.out.touch0 HT.out).at_ k hlt
   have htk := List.take_succ_eq_append_getElem hlt
   have hmem := List.getElem_mem hlt
   obtain ⟨v, hve⟩ : ∃ v, v = l[k] := ⟨_, rfl⟩
   rw [← hve] at c0 c1 c2 htk hmem
   have hsh := HS.out v hmem
   have hle := show_le v (HN.out v hmem).n
   have hnx : S (keyL (l.take (k + 1))) = acc ++ (S (showL v) ++ ⟨#[10]⟩) := by
    rw [htk]; unfold keyL
    rw [List.flatMap_append, HA.out, show (⟨#[10]⟩ : ByteArray) = S [10] from rfl, S_app', S_app']
    simp [keyL]
   have ta := (Touch.refl [] wr).alloc (.cells #[.int .i64 v.kind, .int .i64 v.num, .string v.text] 31)
   have hsv := hsh _ (HT.out.trans0 ta)
   have hsz : (S (showL v)).size = (showL v).length := S_size _
   obtain ⟨sv, hsve⟩ : ∃ sv, sv = S (showL v) := ⟨_, rfl⟩
   rw [← hsve] at hsv hsz hnx
   have hz3 : (sv ++ ⟨#[10]⟩ : ByteArray).size = sv.size + 1 := by rw [ByteArray.size_append]; rfl
   have hz4 : (acc ++ (sv ++ ⟨#[10]⟩) : ByteArray).size ≤ 201 * (k + 1) := by rw [ByteArray.size_append, hz3]; omega
   have hz1 : ¬ 9223372036854775807 < sv.size + 1 := by omega
   have hz2 : ¬ 9223372036854775807 < acc.size + (sv ++ ⟨#[10]⟩ : ByteArray).size := by omega
   have hz5 : ¬ 9223372036854775807 < acc.size + (sv.size + 1) := by omega
   have Hnx := Lib.hid hnx
   have HTa := Lib.hid ta
   have Hz4 := Lib.hid hz4
   have hkn : (k : Int) < (l.length : Int) := by omega
   clear hnx htk hve hmem hsh hle ta hsz hsve hz4 hz3
   obtain ⟨vk, vn, vt⟩ := v
   dsimp only [VD.val] at c0 c1 c2 hsv
   have Hsv := Lib.hid hsv
   clear hsv
   go_wp2_with fail
   refine Hsv.out.mono ?_
   rintro e w1 ⟨rfl, t1⟩
   have HT1 := Lib.hid ((HT.out.trans0 HTa.out).trans0 t1)
   clear t1
   go_wp2_with fail
   go_roundw
   case rel => exact ⟨k + 1, _, by omega, Hz4.out, by go_num, rfl, Lib.hid Hnx.out.symm, HT1⟩
   case measure => simp [intOf]; omega
  ·obtain rfl : k = l.length := by omega
   have hA := HA.out
   rw [List.take_length] at hA
   have HA2 := Lib.hid hA
   clear hA HA
   go_wp2
   go_ret
   exact ⟨by rw [← HA2.out]; rfl, HT.out⟩
end Go.Proofs.YtafoklilkdnepaaGreatDoor
