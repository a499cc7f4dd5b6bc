/- Part 30 of the texts of this proof, one behind the other; each begins with its own sentence. No condition beyond those that its theorems state. -/
import Derived.Test.YtafoklilkdnepaaGreatDoorRu29
import Derived.BigQuiet
import Derived.IntWalk
import Derived.Lib.SliceRun
/- relop.Plan.rows: a plan's rows by the tables of its Args: at joins. (gen_rlrows.py) -/
namespace Go.Proofs.YtafoklilkdnepaaGreatDoor
open Go.RowKit

def joinV (left : Bool) (wide : Nat) (rowsA rowsB : List (List VD)) (at_ bt : List Nat) : Int × List (List VD) := if 4096 < (joinL left wide rowsA rowsB at_ bt).length then (31, []) else (0, joinL left wide rowsA rowsB at_ bt)
theorem JoinP.post {left : Bool} {wide : Nat} {rowsA rowsB : List (List VD)} {at_ bt : List Nat} {w : World} {e : Ending} {w' : World} (h : JoinP left wide rowsA rowsB at_ bt w e w') : RowsPost (joinV left wide rowsA rowsB at_ bt) w e w' := by
 obtain ⟨h1, h2⟩ := h
 unfold joinV
 by_cases hb : 4096 < (joinL left wide rowsA rowsB at_ bt).length
 ·rw [if_pos hb] at h2
  rw [if_pos hb]
  exact ⟨⟨none, 0, 0⟩, h2, rfl, ⟨[], ⟨rfl, fun i h => absurd h (by simp)⟩, RdK.nil _ _ _⟩, h1⟩
 ·rw [if_neg hb] at h2
  rw [if_neg hb]
  obtain ⟨B, c, he, hr⟩ := h2
  exact ⟨⟨B, _, c⟩, he, rfl, hr, h1⟩

theorem keep20 {w w' : World} (ht : Touch [] w w') {a0 a1 a2 a3 a4 a5 a6 a7 a8 a9 a10 a11 a12 a13 a14 a15 a16 a17 a18 a19 : Addr} {v0 v1 v2 v3 v4 v5 v6 v7 v8 v9 v10 v11 v12 v13 v14 v15 v16 v17 v18 v19 : Value} (h : w.cell? a0 = some v0 ∧ w.cell? a1 = some v1 ∧ w.cell? a2 = some v2 ∧ w.cell? a3 = some v3 ∧ w.cell? a4 = some v4 ∧ w.cell? a5 = some v5 ∧ w.cell? a6 = some v6 ∧ w.cell? a7 = some v7 ∧ w.cell? a8 = some v8 ∧ w.cell? a9 = some v9 ∧ w.cell? a10 = some v10 ∧ w.cell? a11 = some v11 ∧ w.cell? a12 = some v12 ∧ w.cell? a13 = some v13 ∧ w.cell? a14 = some v14 ∧ w.cell? a15 = some v15 ∧ w.cell? a16 = some v16 ∧ w.cell? a17 = some v17 ∧ w.cell? a18 = some v18 ∧ w.cell? a19 = some v19) : w'.cell? a0 = some v0 ∧ w'.cell? a1 = some v1 ∧ w'.cell? a2 = some v2 ∧ w'.cell? a3 = some v3 ∧ w'.cell? a4 = some v4 ∧ w'.cell? a5 = some v5 ∧ w'.cell? a6 = some v6 ∧ w'.cell? a7 = some v7 ∧ w'.cell? a8 = some v8 ∧ w'.cell? a9 = some v9 ∧ w'.cell? a10 = some v10 ∧ w'.cell? a11 = some v11 ∧ w'.cell? a12 = some v12 ∧ w'.cell? a13 = some v13 ∧ w'.cell? a14 = some v14 ∧ w'.cell? a15 = some v15 ∧ w'.cell? a16 = some v16 ∧ w'.cell? a17 = some v17 ∧ w'.cell? a18 = some v18 ∧ w'.cell? a19 = some v19 := by
 obtain ⟨h0, h1, h2, h3, h4, h5, h6, h7, h8, h9, h10, h11, h12, h13, h14, h15, h16, h17, h18, h19⟩ := h
 exact ⟨ht.cell h0 (by simp), ht.cell h1 (by simp), ht.cell h2 (by simp), ht.cell h3 (by simp), ht.cell h4 (by simp), ht.cell h5 (by simp), ht.cell h6 (by simp), ht.cell h7 (by simp), ht.cell h8 (by simp), ht.cell h9 (by simp), ht.cell h10 (by simp), ht.cell h11 (by simp), ht.cell h12 (by simp), ht.cell h13 (by simp), ht.cell h14 (by simp), ht.cell h15 (by simp), ht.cell h16 (by simp), ht.cell h17 (by simp), ht.cell h18 (by simp), ht.cell h19 (by simp)⟩
set_option maxRecDepth 40000 in
set_option maxHeartbeats 6400000 in
theorem rows_join (x : PC) (hk0 : x.kind = 4) (on : List (ByteArray × ByteArray)) (ho : x.on.n = on.length) (hlo : on.length ≤ 1000) (L : Option Addr) (lc : Nat) (ta tb : SL × SL) (csA csB : List CD) (rowsA rowsB : List (List VD)) (w : World)
  (hL : RdK tbE w L [ta, tb]) (hTA : TabAt w ta.1 ta.2 csA rowsA) (hTB : TabAt w tb.1 tb.2 csB rowsB) (hr : RdK prE w x.on.A on) (hgA : GoodR w rowsA csA.length) (hgB : GoodR w rowsB csB.length)
  (hA0 : 0 < csA.length) (hB0 : 0 < csB.length) (hA1 : csA.length ≤ 16) (hB1 : csB.length ≤ 16) (hA2 : rowsA.length ≤ 4096) (hB2 : rowsB.length ≤ 4096) :
  Calls Tryz.prog 65 #[x.val, .slice L 2 lc] w (RowsPost (joinV false csB.length rowsA rowsB (placesV csA (on.map (·.1))) (placesV csB (on.map (·.2)))) w) := by
 obtain ⟨⟨SA, sn, sc⟩, ⟨RA, rn, rc⟩⟩ := ta
 obtain ⟨⟨SB, tn, tc⟩, ⟨RB, un, uc⟩⟩ := tb
 obtain ⟨k0, k1, ⟨A2, n2, c2'⟩, ⟨⟨ck, cn, ⟨cvk, cvn, cvt⟩, cop⟩, CA, cnn, cc⟩, ⟨NA, nn, nc⟩, ⟨EA, en, ec⟩, ⟨OA, ol, oc⟩, ⟨GA, gn, gc⟩, ⟨BA, bn, bc⟩, count⟩ := x
 dsimp only at hk0 ho hr hTA hTB
 subst hk0
 obtain ⟨ad, bl, bo, rfl, hadd0, hc0⟩ := RdK.cells hL 2 tbE_length (by omega) 0 (by simp)
 obtain ⟨ad', bl', bo', e', hadd1, hc1⟩ := RdK.cells hL 2 tbE_length (by omega) 1 (by simp)
 obtain rfl : ad = ad' := by injection e'
 have l0 := hc0 0 _ rfl
 have l1 := hc0 1 _ rfl
 have l2 := hc1 0 _ rfl
 have l3 := hc1 1 _ rfl
 simp only [Nat.zero_mul, Nat.one_mul, Nat.add_zero] at hadd0 hadd1 l0 l1 l2 l3
 simp only [List.getElem_cons_zero, List.getElem_cons_succ] at l0 l1 l2 l3
 have Hj := Lib.hid fun w' (t : Touch [] w w') => (join_no ⟨4, k1, ⟨A2, n2, c2'⟩, ⟨⟨ck, cn, ⟨cvk, cvn, cvt⟩, cop⟩, CA, cnn, cc⟩, ⟨NA, nn, nc⟩, ⟨EA, en, ec⟩, ⟨OA, ol, oc⟩, ⟨GA, gn, gc⟩, ⟨BA, bn, bc⟩, count⟩ false rfl rfl on ho hlo ⟨SA, sn, sc⟩ ⟨RA, rn, rc⟩ ⟨SB, tn, tc⟩ ⟨RB, un, uc⟩ csA csB rowsA rowsB w' (hTA.touch0 t) (hTB.touch0 t) (RdK.touch0 hr t) (hgA.touch0 t) (hgB.touch0 t) hA0 hB0 hA1 hB1 hA2 hB2).mono fun e w'' h => JoinP.post h
 simp only [PC.val] at *
 obtain ⟨V, hV⟩ : ∃ V, V = joinV false csB.length rowsA rowsB (placesV csA (on.map (·.1))) (placesV csB (on.map (·.2))) := ⟨_, rfl⟩
 rw [← hV] at Hj ⊢
 obtain ⟨W, hW⟩ : ∃ W, W = w.alloc (.cells #[.int .i64 4, .string k1, .slice A2 n2 c2', .int .i64 ck, .string cn, .int .i64 cvk, .int .i64 cvn, .string cvt, .string cop, .slice CA cnn cc, .slice NA nn nc, .slice EA en ec, .slice OA ol oc, .slice GA gn gc, .slice BA bn bc, .int .i64 count] 49) := ⟨_, rfl⟩
 have t0 : Touch [] w W := hW ▸ (Touch.refl [] w).alloc _
 have hb0 := hW ▸ heap_alloc_new w (.cells #[.int .i64 4, .string k1, .slice A2 n2 c2', .int .i64 ck, .string cn, .int .i64 cvk, .int .i64 cvn, .string cvt, .string cop, .slice CA cnn cc, .slice NA nn nc, .slice EA en ec, .slice OA ol oc, .slice GA gn gc, .slice BA bn bc, .int .i64 count] 49)
 have l0d := t0.drew.cell l0 (by simp)
 have l1d := t0.drew.cell l1 (by simp)
 have l2d := t0.drew.cell l2 (by simp)
 have l3d := t0.drew.cell l3 (by simp)
 obtain ⟨p0, p1, p2, p3, p4, p5, p6, p7, p8, p9, p10, p11, p12, p13, p14, p15⟩ := blk16 ((Touch.refl [] W).drew.blk hb0 (by simp))
 have HP : Hid (W.drew.cell? ⟨w.heap.size, 0, none⟩ = some (.int .i64 4) ∧ W.drew.cell? ⟨w.heap.size, 1, none⟩ = some (.string k1) ∧ W.drew.cell? ⟨w.heap.size, 2, none⟩ = some (.slice A2 n2 c2') ∧ W.drew.cell? ⟨w.heap.size, 3, none⟩ = some (.int .i64 ck) ∧ W.drew.cell? ⟨w.heap.size, 4, none⟩ = some (.string cn) ∧ W.drew.cell? ⟨w.heap.size, 5, none⟩ = some (.int .i64 cvk) ∧ W.drew.cell? ⟨w.heap.size, 6, none⟩ = some (.int .i64 cvn) ∧ W.drew.cell? ⟨w.heap.size, 7, none⟩ = some (.string cvt) ∧ W.drew.cell? ⟨w.heap.size, 8, none⟩ = some (.string cop) ∧ W.drew.cell? ⟨w.heap.size, 9, none⟩ = some (.slice CA cnn cc) ∧ W.drew.cell? ⟨w.heap.size, 10, none⟩ = some (.slice NA nn nc) ∧ W.drew.cell? ⟨w.heap.size, 11, none⟩ = some (.slice EA en ec) ∧ W.drew.cell? ⟨w.heap.size, 12, none⟩ = some (.slice OA ol oc) ∧ W.drew.cell? ⟨w.heap.size, 13, none⟩ = some (.slice GA gn gc) ∧ W.drew.cell? ⟨w.heap.size, 14, none⟩ = some (.slice BA bn bc) ∧ W.drew.cell? ⟨w.heap.size, 15, none⟩ = some (.int .i64 count) ∧ W.drew.cell? ⟨bl, bo, none⟩ = some (.slice SA sn sc) ∧ W.drew.cell? ⟨bl, bo + 1, none⟩ = some (.slice RA rn rc) ∧ W.drew.cell? ⟨bl', bo', none⟩ = some (.slice SB tn tc) ∧ W.drew.cell? ⟨bl', bo' + 1, none⟩ = some (.slice RB un uc)) := Lib.hid ⟨p0, p1, p2, p3, p4, p5, p6, p7, p8, p9, p10, p11, p12, p13, p14, p15, l0d, l1d, l2d, l3d⟩
 have HW := Lib.hid hW
 have HT0 := Lib.hid t0.drew
 clear ho hr hTA hTB hgA hgB hL hc0 hc1 hV hW t0 l0 l1 l2 l3 e' hb0 l0d l1d l2d l3d p0 p1 p2 p3 p4 p5 p6 p7 p8 p9 p10 p11 p12 p13 p14 p15
 go_enter Tryz.func65, Tryz.ntmps65
 go_wp2_with fail
 rw [← HW.out]
 go_region_held3 (fun w' => w'.cell? ⟨w.heap.size, 0, none⟩ = some (.int .i64 4) ∧ w'.cell? ⟨w.heap.size, 1, none⟩ = some (.string k1) ∧ w'.cell? ⟨w.heap.size, 2, none⟩ = some (.slice A2 n2 c2') ∧ w'.cell? ⟨w.heap.size, 3, none⟩ = some (.int .i64 ck) ∧ w'.cell? ⟨w.heap.size, 4, none⟩ = some (.string cn) ∧ w'.cell? ⟨w.heap.size, 5, none⟩ = some (.int .i64 cvk) ∧ w'.cell? ⟨w.heap.size, 6, none⟩ = some (.int .i64 cvn) ∧ w'.cell? ⟨w.heap.size, 7, none⟩ = some (.string cvt) ∧ w'.cell? ⟨w.heap.size, 8, none⟩ = some (.string cop) ∧ w'.cell? ⟨w.heap.size, 9, none⟩ = some (.slice CA cnn cc) ∧ w'.cell? ⟨w.heap.size, 10, none⟩ = some (.slice NA nn nc) ∧ w'.cell? ⟨w.heap.size, 11, none⟩ = some (.slice EA en ec) ∧ w'.cell? ⟨w.heap.size, 12, none⟩ = some (.slice OA ol oc) ∧ w'.cell? ⟨w.heap.size, 13, none⟩ = some (.slice GA gn gc) ∧ w'.cell? ⟨w.heap.size, 14, none⟩ = some (.slice BA bn bc) ∧ w'.cell? ⟨w.heap.size, 15, none⟩ = some (.int .i64 count) ∧ w'.cell? ⟨bl, bo, none⟩ = some (.slice SA sn sc) ∧ w'.cell? ⟨bl, bo + 1, none⟩ = some (.slice RA rn rc) ∧ w'.cell? ⟨bl', bo', none⟩ = some (.slice SB tn tc) ∧ w'.cell? ⟨bl', bo' + 1, none⟩ = some (.slice RB un uc)) (first | exact HP.out | exact keep20 M1.out.2.2 HP.out) (first
  | (go_at_call 96; refine (Hj.out _ HT0.out).mono ?_; rintro e w1 ⟨⟨A1, n1, c1⟩, rfl, m1⟩; have M1 := Lib.hid m1; clear m1))
 go_wp2_with fail
 go_ret2
 exact ⟨⟨A1, n1, c1⟩, rfl, M1.out.1, M1.out.2.1, HT0.out.trans0 M1.out.2.2⟩
end Go.Proofs.YtafoklilkdnepaaGreatDoor

/- slices.CompactFunc on rows of values: each row once that follows itself. For every rows. -/
namespace Go.Proofs.YtafoklilkdnepaaGreatDoor
open Go.RowKit

/-- is a row another one than the one ahead? -/
def newR (rows : List (List VD)) (i : Nat) : Bool := decide (i = 0) || !eqVs (rows.getD i []) (rows.getD (i - 1) [])
/-- the places of those that are kept, of the first m -/
def cptI (rows : List (List VD)) (m : Nat) : List Nat := (List.range m).filter (newR rows)
theorem cptI_succ (rows : List (List VD)) (m : Nat) : cptI rows (m + 1) = cptI rows m ++ if newR rows m = true then [m] else [] := by
 unfold cptI
 rw [List.range_succ, List.filter_append]
 congr 1
 rw [List.filter_cons, List.filter_nil]
theorem cptI_le (rows : List (List VD)) (m : Nat) : (cptI rows m).length ≤ m := by
 unfold cptI
 exact Nat.le_trans (List.length_filter_le _ _) (by rw [List.length_range]; exact Nat.le_refl _)
theorem cptI_all (rows : List (List VD)) (m : Nat) (h : ∀ i, i < m → newR rows i = true) : cptI rows m = List.range m := by
 unfold cptI
 rw [List.filter_eq_self]
 intro i hi
 exact h i (List.mem_range.1 hi)
theorem cptI_lt {rows : List (List VD)} {m : Nat} : ∀ i ∈ cptI rows m, i < m := fun _ hi => List.mem_range.1 (List.mem_filter.1 hi).1

/-- the closure of relop.Plan.rows at distinct -/
theorem eqRows_any (A B : Option Addr) (c1 c2 n m : Nat) (l r : List VD) (hn : l.length = n) (hm : r.length = m) (w : World) (h : ValsAt w A l) (h2 : ValsAt w B r) (hl : n ≤ 140737000000000) (hl2 : m ≤ 140737000000000) :
  Calls Tryz.prog 100 #[.slice A n c1, .slice B m c2] w fun e w' => e = .returned (.bool (eqVs l r)) ∧ Touch [] w w' := by
 have H := Lib.hid (equalV_any A B c1 c2 n m l r hn hm w h h2 hl hl2)
 clear h h2
 go_enter Tryz.func100, Tryz.ntmps100
 go_wp2_with fail
 refine H.out.mono ?_
 rintro e w1 ⟨rfl, t1⟩
 go_wp2
 go_ret
 exact ⟨rfl, t1⟩
/-- the comparing closure, at whatever world of the compaction's -/
def EqOkV (S : Nat → SL) (rows : List (List VD)) (G n : Nat) (w0 : World) : Prop := ∀ wr, Touch [G] w0 wr → ∀ x y : Nat, x < n → y < n →
 Calls Tryz.prog 100 #[(Value.slice (SL.A (S x)) (SL.n (S x)) (SL.c (S x))), (Value.slice (SL.A (S y)) (SL.n (S y)) (SL.c (S y)))] wr fun e w' => e = .returned (.bool (eqVs (rows.getD x []) (rows.getD y []))) ∧ Touch [] wr w'

theorem touchCs (g : Nat) : ∀ (vs : List Value) (w : World) (o : Nat), Touch [g] w (w.setCells g o vs)
 | [], w, _ => Touch.refl _ _
 | v :: vs, w, o => ((Touch.refl [g] w).setCell (p := ⟨g, o, none⟩) (.inl (by simp)) v).trans (touchCs g vs _ _) (fun b hb => .inl hb)
theorem zeroRow1 (w : World) : (zeroValue 33).run Tryz.prog w = .ok (.slice none 0 0) w := by kernel_rfl
set_option maxRecDepth 20000 in
set_option maxHeartbeats 8000000 in
theorem compact_short (A : Option Addr) (n c : Nat) (hn : n < 2) (fv : Value) (w : World) : Calls Tryz.prog 99 #[.slice A n c, fv] w fun e w' => e = .returned (.slice A n c) ∧ w' = w := by
 have h : ((n : Int) < 2) = True := eq_true (by omega)
 go_enter Tryz.func99, Tryz.ntmps99
 go_wp2
 go_ret
 exact ⟨rfl, rfl⟩

set_option maxRecDepth 20000 in
set_option maxHeartbeats 8000000 in
theorem compact_any (G c n : Nat) (hn2 : 2 ≤ n) (hn : n ≤ 100000) (hnc : n ≤ c) (S : Nat → SL) (rows : List (List VD)) (w : World) (hR : RowV S w G c n (fun k => k)) (hE : EqOkV S rows G n w) :
  Calls Tryz.prog 99 #[.slice (some ⟨G, 0, none⟩) n c, .func (.func 100) #[] #[]] w fun e w' =>
   e = .returned (.slice (some ⟨G, 0, none⟩) (cptI rows n).length c) ∧ (∀ p (h : p < (cptI rows n).length), w'.cell? ⟨G, p, none⟩ = some (Value.slice (SL.A (S (cptI rows n)[p])) (SL.n (S (cptI rows n)[p])) (SL.c (S (cptI rows n)[p])))) ∧ Touch [G] w w' := by
 have HR := Lib.hid hR
 have HE := Lib.hid hE
 have h2 : ((n : Int) < 2) = False := eq_false (by omega)
 clear hR hE
 go_enter Tryz.func99, Tryz.ntmps99
 go_wp2_with fail
 go_loopw [5] (fun x wr => ∃ k : Nat, 1 ≤ k ∧ k ≤ n ∧ x = .int .i64 k ∧ Hid (∀ i, i < k → newR rows i = true) ∧ Hid (Touch [] w wr)) (fun x _ => n - (intOf x).toNat)
 case atStart => exact ⟨1, by omega, by omega, rfl, Lib.hid (fun i hi => by
  have h0 : i = 0 := by omega
  subst h0
  simp [newR]), Lib.hid (Touch.refl _ _)⟩
 case round =>
  obtain ⟨k, hk1, hk, rfl, HN, HT⟩ := hrel
  by_cases hlt : k < n
  ·have hR1 : RowV S wr G c n (fun k => k) := HR.out.touch0 HT.out
   have ca := TW.cell (hR1.cell k hlt)
   have cb := TW.cell (hR1.cell (k - 1) (by omega))
   obtain ⟨b, hb⟩ : ∃ b, b = eqVs (rows.getD k []) (rows.getD (k - 1) []) := ⟨_, rfl⟩
   have hc : ∀ x8 : TW wr, Calls Tryz.prog 100 #[(Value.slice (SL.A (S k)) (SL.n (S k)) (SL.c (S k))), (Value.slice (SL.A (S (k - 1))) (SL.n (S (k - 1))) (SL.c (S (k - 1))))] x8.w fun e w' => e = .returned (.bool b) ∧ Touch [] x8.w w' := fun x8 => by
    rw [hb]
    exact HE.out _ ((HT.out.mono (by simp)).trans x8.t (by simp)) k (k - 1) hlt (by omega)
   have HCC := Lib.hid hc
   have HB := Lib.hid hb
   have hw1 : IntKind.i64.wrap ((k : Int) - 1) = ((k - 1 : Nat) : Int) := by rw [IntWalk.i64_in _ (by omega)]; omega
   have hkk : (k : Int) - 1 = ((k - 1 : Nat) : Int) := by omega
   have hkn : (k : Int) < (n : Int) := by omega
   have hadd0 : (⟨G, 0, none⟩ : Addr).add k = ⟨G, k, none⟩ := add_blk _ _
   have hadd1 : (⟨G, 0, none⟩ : Addr).add (k - 1) = ⟨G, k - 1, none⟩ := add_blk _ _
   have HR1 := Lib.hid hR1
   clear hc hb hR1
   go_wp2_with fail
   refine wp_region_tw wr (Touch.refl _ _) (by kernel_rfl) (by kernel_rfl) ?_
   repeat (go_big_quiet_step (((go_at_call 100; exact Calls.tw _ (HCC.out _)))))
   refine wpQuiet_nil ?_
   rintro _ ⟨x9, rfl⟩
   cases b
   ·go_wp2_with fail
    go_roundw
    case rel => exact ⟨k + 1, by omega, by omega, by go_num, Lib.hid (fun i hi => by
     by_cases hik : i < k
     ·exact HN.out i hik
     ·obtain rfl : i = k := by omega
      unfold newR
      rw [← HB.out]; simp), Lib.hid (HT.out.trans0 x9.t)⟩
    case measure => simp [intOf]; omega
   ·have hck : (c = k) = False := eq_false (by omega)
    have hkI : (0 : Int) ≤ (k : Int) := by omega
    have hkc : (k : Int) ≤ (c : Int) := by omega
    have hkn2 : (k : Int) ≤ (n : Int) := by omega
    have hnew0 : newR rows k = false := by unfold newR; rw [← HB.out]; simp; omega
    have hc1 : cptI rows (k + 1) = List.range k := by rw [cptI_succ, hnew0, cptI_all rows k HN.out]; simp
    have HC1 := Lib.hid hc1
    have HT9 := Lib.hid (show Touch [G] w x9.w from (HT.out.trans0 x9.t).mono (by simp))
    have HR9 := Lib.hid (HR1.out.touch0 x9.t)
    clear hc1 hnew0 ca cb hadd1 hkk hw1
    go_wp2_with fail
    go_loopw [5, 7] (fun x y wx => ∃ (q k2 : Nat) (f : Nat → Nat), 1 ≤ k2 ∧ k + k2 ≤ n ∧ q + 1 ≤ k + k2 ∧ x = .int .i64 q ∧ y = .int .i64 k2 ∧ Hid ((cptI rows (k + k2)).length = q) ∧ Hid (∀ p (h : p < (cptI rows (k + k2)).length), f p = (cptI rows (k + k2))[p]) ∧ Hid (∀ p, k + k2 - 1 ≤ p → p < n → f p = p) ∧ Hid (RowV S wx G c n f) ∧ Hid (Touch [G] w wx)) (fun _ y _ => n - k - (intOf y).toNat)
    case atStart => exact ⟨k, 1, fun p => p, by omega, by omega, by omega, rfl, rfl, Lib.hid (by rw [HC1.out, List.length_range]), Lib.hid (fun p hp => by simp only [HC1.out, List.getElem_range]), Lib.hid (fun p _ _ => rfl), HR9, HT9⟩
    case round =>
     obtain ⟨q, k2, f, hk2, hkm, hqm, rfl, rfl, HL, HP, HG, HRf, HTf⟩ := hrel
     clear HT9 HR9
     by_cases hlt2 : k2 < n - k
     ·have ca := HRf.out.cell (k + k2) (by omega)
      have cb := HRf.out.cell (k + (k2 - 1)) (by omega)
      rw [HG.out (k + k2) (by omega) (by omega)] at ca
      rw [HG.out (k + (k2 - 1)) (by omega) (by omega)] at cb
      have ga := TW.cell ca
      have gb := TW.cell cb
      obtain ⟨b2, hb2⟩ : ∃ b2, b2 = eqVs (rows.getD (k + k2) []) (rows.getD (k + (k2 - 1)) []) := ⟨_, rfl⟩
      have hc : ∀ x8 : TW wr, Calls Tryz.prog 100 #[(Value.slice (SL.A (S (k + k2))) (SL.n (S (k + k2))) (SL.c (S (k + k2)))), (Value.slice (SL.A (S (k + (k2 - 1)))) (SL.n (S (k + (k2 - 1)))) (SL.c (S (k + (k2 - 1)))))] x8.w fun e w' => e = .returned (.bool b2) ∧ Touch [] x8.w w' := fun x8 => by
       rw [hb2]
       exact HE.out _ (HTf.out.trans x8.t (by simp)) (k + k2) (k + (k2 - 1)) (by omega) (by omega)
      have hnw : newR rows (k + k2) = !b2 := by
       unfold newR
       rw [hb2, show k + k2 - 1 = k + (k2 - 1) by omega, decide_eq_false (by omega), Bool.false_or]
      have hsc := cptI_succ rows (k + k2)
      rw [hnw] at hsc
      have HCC := Lib.hid hc
      have HSC := Lib.hid hsc
      have hw2 : IntKind.i64.wrap ((k2 : Int) - 1) = ((k2 - 1 : Nat) : Int) := by rw [IntWalk.i64_in _ (by omega)]; omega
      have hkk2 : (k2 : Int) - 1 = ((k2 - 1 : Nat) : Int) := by omega
      have hlI : (k2 : Int) < ((n - k : Nat) : Int) := by omega
      have hlI2 : ((k2 - 1 : Nat) : Int) < ((n - k : Nat) : Int) := by omega
      have hlI0 : (0 : Int) ≤ ((k2 - 1 : Nat) : Int) := by omega
      have hadd2 : (⟨G, k, none⟩ : Addr).add k2 = ⟨G, k + k2, none⟩ := by unfold Addr.add; rw [if_neg (by omega)]
      have hadd3 : (⟨G, k, none⟩ : Addr).add (k2 - 1) = ⟨G, k + (k2 - 1), none⟩ := by
       unfold Addr.add
       split
       ·rename_i h0; rw [h0]; rfl
       ·rfl
      clear hc hsc hnw ca cb hb2
      go_wp2_with fail
      refine wp_region_tw wr (Touch.refl _ _) (by kernel_rfl) (by kernel_rfl) ?_
      repeat (go_big_quiet_step (((go_at_call 100; exact Calls.tw _ (HCC.out _)))))
      refine wpQuiet_nil ?_
      rintro _ ⟨x8, rfl⟩
      have HR8 := Lib.hid (HRf.out.touch0 x8.t)
      have HT8 := Lib.hid (HTf.out.trans x8.t (by simp))
      cases b2
      ·have hq1 : q < n := by omega
       have hqI : (q : Int) < (n : Int) := by omega
       have d0 := HR8.out.cell (k + k2) (by omega)
       rw [HG.out (k + k2) (by omega) (by omega)] at d0
       have d1 := HR8.out.cell q hq1
       have f1 := HR8.out.free q
       have hadd4 : (⟨G, 0, none⟩ : Addr).add q = ⟨G, q, none⟩ := add_blk _ _
       clear ga gb
       go_wp2_with fail
       go_roundw
       case rel =>
        have hsc : cptI rows (k + (k2 + 1)) = cptI rows (k + k2) ++ [k + k2] := HSC.out
        have hl := HL.out
        refine ⟨q + 1, k2 + 1, upd f q (k + k2), by omega, by omega, by omega, by go_num, by go_num, Lib.hid (by rw [hsc, List.length_append, hl]; rfl), Lib.hid (fun p hp => ?_), Lib.hid (fun p h1 h2 => ?_), Lib.hid (HR8.out.set q (k + k2) hq1), Lib.hid (HT8.out.setCell (p := ⟨G, q, none⟩) (.inl (by simp)) _)⟩
        ·have hp2 : p < q + 1 := by rw [hsc, List.length_append, hl] at hp; exact hp
         simp only [hsc]
         by_cases hpq : p < q
         ·rw [List.getElem_append_left (by omega)]
          unfold upd
          rw [if_neg (by omega)]
          exact HP.out p (by omega)
         ·obtain rfl : p = q := by omega
          rw [List.getElem_append_right (by omega)]
          unfold upd
          simp
        ·unfold upd
         rw [if_neg (by omega)]
         exact HG.out p (by omega) h2
       case measure => simp [intOf]; omega
      ·clear ga gb
       go_wp2_with fail
       go_roundw
       case rel =>
        have hsc : cptI rows (k + (k2 + 1)) = cptI rows (k + k2) := by
         have h := HSC.out
         simp only [Bool.not_true, Bool.false_eq_true, if_false, List.append_nil] at h
         exact h
        exact ⟨q, k2 + 1, f, by omega, by omega, by omega, rfl, by go_num, Lib.hid (by rw [hsc]; exact HL.out), Lib.hid (fun p hp => by simp only [hsc] at hp ⊢; exact HP.out p hp), Lib.hid (fun p h1 h2 => HG.out p (by omega) h2), HR8, HT8⟩
       case measure => simp [intOf]; omega
     ·have hkn3 : k + k2 = n := by omega
      have hq1 : q < n := by omega
      have hl := HL.out
      rw [hkn3] at hl
      have hP2 := HP.out
      simp only [hkn3] at hP2
      have HL2 := Lib.hid hl
      have HP2 := Lib.hid hP2
      have hlI : ((k2 : Int) < ((n - k : Nat) : Int)) = False := eq_false (by omega)
      have hqI : (0 : Int) ≤ (q : Int) := by omega
      have hqn : (q : Int) ≤ (n : Int) := by omega
      have hqc : (q : Int) ≤ (c : Int) := by omega
      have hcq : (c = q) = False := eq_false (by omega)
      have hcl : ∀ ty, (Builtin.clear_ #[25] ty #[.slice (some ⟨G, q, none⟩) (n - q) (c - q)]).run Tryz.prog wr = .ok (.tuple #[]) (wr.setCells G q (List.replicate (n - q) (.slice none 0 0))) := fun ty =>
       Lib.run_clear_slice wr _ _ ty _ Tryz.underlying25 (fun w0 => zeroRow1 w0) rfl rfl G q _ _ (by omega) (fun j hj => by rw [HRf.out.cell (q + j) (by omega)]; rfl) (fun j hj => HRf.out.free (q + j))
      clear HL HP hl hP2
      go_wp2_with fail
      go_ret
      have hl := HL2.out
      have tC := touchCs G (List.replicate (n - q) (.slice none 0 0)) wr q
      refine ⟨by rw [hl]; rfl, fun p hp => ?_, HTf.out.trans tC (fun b hb => .inl hb)⟩
      rw [World.cell?_setCells_out G _ q wr ⟨G, p, none⟩ (fun _ _ => .inl (by show p < q; omega)), HRf.out.cell p (by omega), HP2.out p hp]
  ·obtain rfl : k = n := by omega
   have HA := Lib.hid (cptI_all rows k HN.out)
   go_wp2_with fail
   go_ret
   have hl : (cptI rows k).length = k := by rw [HA.out, List.length_range]
   refine ⟨by rw [hl]; rfl, fun p hp => ?_, HT.out.mono (by simp)⟩
   have h1 : (cptI rows k)[p] = p := by simp only [HA.out, List.getElem_range]
   rw [h1]
   exact (HR.out.touch0 HT.out).cell p (by omega)
end Go.Proofs.YtafoklilkdnepaaGreatDoor

/- relop.Plan.rows at distinct: each row once that follows itself, in the Arg's own row. (gen_rldist.py) -/
namespace Go.Proofs.YtafoklilkdnepaaGreatDoor
open Go.RowKit

/-- each row once that follows itself -/
def cptR (rows : List (List VD)) : List (List VD) := (cptI rows rows.length).map fun i => rows.getD i []
theorem cptR_le (rows : List (List VD)) : (cptR rows).length ≤ rows.length := by unfold cptR; rw [List.length_map]; exact cptI_le rows _
theorem cptR_mem {rows : List (List VD)} {r : List VD} (h : r ∈ cptR rows) : r ∈ rows := by
 unfold cptR at h
 obtain ⟨i, hi, rfl⟩ := List.mem_map.1 h
 have hl := cptI_lt i hi
 have : rows.getD i [] = rows[i] := by simp [List.getD, hl]
 rw [this]; exact List.getElem_mem hl
theorem cptR_short (rows : List (List VD)) (h : rows.length < 2) : cptR rows = rows := by
 match rows, h with
 | [], _ => rfl
 | [r], _ => rfl
/-- the compaction of a row of the calls' own -/
theorem compactR_any (B : Option Addr) (c : Nat) (sl : List SL) (rows : List (List VD)) (hl : rows.length ≤ 100000) (hrk : RowsOk rows) (w : World) (hS : SlsAt w sl rows) (hO : OwnK 33 1 slE w B c sl) (ha : ∀ s ∈ sl, ∀ b ∈ fpo s.A, b ∉ fpo B) :
  Calls Tryz.prog 99 #[.slice B rows.length c, .func (.func 100) #[] #[]] w fun e w' =>
   e = .returned (.slice B (cptR rows).length c) ∧ RowsAt w' B (cptR rows) ∧ Touch (fpo B) w w' := by
 by_cases h2 : rows.length < 2
 ·refine (compact_short B rows.length c h2 _ w).mono ?_
  rintro e w' ⟨rfl, rfl⟩
  rw [cptR_short rows h2]
  exact ⟨rfl, ⟨sl, hS, hO.rd⟩, Touch.refl _ _⟩
 ·rcases hO.head with ⟨-, h0, -⟩ | ⟨G, rfl⟩
  ·rw [← hS.1, h0] at h2; simp at h2
  ·have hG : ∀ s ∈ sl, ∀ b ∈ fpo s.A, b ≠ G := fun s hs b hb q => ha s hs b hb (by simp [fpo, q])
   have hn : sl.length = rows.length := hS.1
   have hat : ∀ i (h : i < sl.length), slAt sl i = sl[i] := fun i h => by simp [slAt, List.getD, h]
   have hid : (List.range rows.length).map (fun k => slAt sl k) = sl := by
    apply List.ext_getElem
    ·simp [hn]
    ·intro i h1 h3
     rw [List.getElem_map, List.getElem_range]
     exact hat i h3
   have hR : RowV (slAt sl) w G c rows.length (fun k => k) := by
    unfold RowV
    rw [hid]
    exact hO
   have hv : ∀ i (h : i < rows.length) wr, Touch [G] w wr → (slAt sl i).n = rows[i].length ∧ ValsAt wr (slAt sl i).A rows[i] := fun i h wr t => by
    have hi : i < sl.length := by omega
    rw [hat i hi]
    have := hS.2 i hi h
    exact ⟨this.1, RdK.touch this.2 t (fun b hb hm => hG _ (List.getElem_mem hi) b hb (by simpa using hm))⟩
   have hgd : ∀ i (h : i < rows.length), rows.getD i [] = rows[i] := fun i h => by simp [List.getD, h]
   have hE : EqOkV (slAt sl) rows G rows.length w := fun wr t x y hx hy => by
    have h1 := hv x hx wr t
    have h3 := hv y hy wr t
    rw [hgd x hx, hgd y hy, h1.1, h3.1]
    exact eqRows_any _ _ _ _ _ _ rows[x] rows[y] rfl rfl wr h1.2 h3.2 (hrk _ (List.getElem_mem hx)).1 (hrk _ (List.getElem_mem hy)).1
   have hcl : rows.length ≤ c := by rw [← hn]; exact hO.le
   refine (compact_any G c rows.length (by omega) hl hcl (slAt sl) rows w hR hE).mono ?_
   rintro e w' ⟨rfl, hc, ht⟩
   have hlen : (cptR rows).length = (cptI rows rows.length).length := by unfold cptR; rw [List.length_map]
   refine ⟨by rw [hlen], ⟨(cptI rows rows.length).map (slAt sl), ⟨by rw [hlen, List.length_map], fun i a b => ?_⟩, fun h0 => ⟨_, rfl, fun j u hu => ?_⟩⟩, by simpa [fpo] using ht⟩
   ·have hi : i < (cptI rows rows.length).length := by simpa using a
    have hlt := cptI_lt _ (List.getElem_mem hi)
    have e1 : (cptR rows)[i] = rows[(cptI rows rows.length)[i]] := by
     rw [← hgd _ hlt]
     simp [cptR]
    rw [e1, List.getElem_map]
    exact hv _ hlt w' ht
   ·have hfl : ((cptI rows rows.length).map (slAt sl)).flatMap slE = ((cptI rows rows.length).map (slAt sl)).map fun s : SL => Value.slice s.A s.n s.c := flat_one (val := fun s : SL => Value.slice s.A s.n s.c) _
    rw [hfl] at hu
    have hj : j < (cptI rows rows.length).length := by
     have := (List.getElem?_eq_some_iff.1 hu).1
     simpa using this
    have hadd : (⟨G, 0, none⟩ : Addr).add j = ⟨G, j, none⟩ := add_blk _ _
    rw [hadd, hc j hj, ← hu]
    simp [hj]

set_option maxRecDepth 40000 in
set_option maxHeartbeats 6400000 in
theorem rows_distinct (x : PC) (hk0 : x.kind = 8) (L : Option Addr) (lc : Nat) (s r : SL) (rows : List (List VD)) (w : World) (hL : RdK tbE w L [(s, r)]) (hm : r.n = rows.length) (hl : rows.length ≤ 100000) (hrk : RowsOk rows) (sl : List SL) (hS : SlsAt w sl rows) (hO : OwnK 33 1 slE w r.A r.c sl) (ha : ∀ s ∈ sl, ∀ b ∈ fpo s.A, b ∉ fpo r.A) :
  Calls Tryz.prog 65 #[x.val, .slice L 1 lc] w fun e w' => ∃ q : SL, e = .returned (.tuple #[.slice q.A q.n q.c, .int .i64 0]) ∧ q.n = (cptR rows).length ∧ RowsAt w' q.A (cptR rows) ∧ Touch (fpo r.A) w w' := by
 obtain ⟨SA, sn, sc⟩ := s
 obtain ⟨RA, rn, rc⟩ := r
 obtain ⟨k0, k1, ⟨A2, n2, c2'⟩, ⟨⟨ck, cn, ⟨cvk, cvn, cvt⟩, cop⟩, CA, cnn, cc⟩, ⟨NA, nn, nc⟩, ⟨EA, en, ec⟩, ⟨OA, ol, oc⟩, ⟨GA, gn, gc⟩, ⟨BA, bn, bc⟩, count⟩ := x
 dsimp only at hk0 hm hO ha
 subst hk0 hm
 obtain ⟨ad, bl, bo, rfl, hadd0, hc0⟩ := RdK.cells hL 2 tbE_length (by omega) 0 (by simp)
 have l1 : w.cell? ⟨bl, bo + 1, none⟩ = some (.slice RA rows.length rc) := hc0 1 _ rfl
 simp only [Nat.zero_mul] at hadd0
 have had : ad = ⟨bl, bo, none⟩ := by rw [← hadd0]; unfold Addr.add; simp
 subst had
 have hadd1 : (⟨bl, bo, none⟩ : Addr).add 1 = ⟨bl, bo + 1, none⟩ := by unfold Addr.add; simp
 have Hj := Lib.hid fun w' (t : Touch [] w w') => compactR_any RA rc sl rows hl hrk w' ⟨hS.1, fun i a b => ⟨(hS.2 i a b).1, ValsAt.touch0 (hS.2 i a b).2 t⟩⟩ (hO.touch0 t) ha
 simp only [PC.val] at *
 obtain ⟨W, hW⟩ : ∃ W, W = w.alloc (.cells #[.int .i64 8, .string k1, .slice A2 n2 c2', .int .i64 ck, .string cn, .int .i64 cvk, .int .i64 cvn, .string cvt, .string cop, .slice CA cnn cc, .slice NA nn nc, .slice EA en ec, .slice OA ol oc, .slice GA gn gc, .slice BA bn bc, .int .i64 count] 49) := ⟨_, rfl⟩
 have t0 : Touch [] w W := hW ▸ (Touch.refl [] w).alloc _
 have hb0 := hW ▸ heap_alloc_new w (.cells #[.int .i64 8, .string k1, .slice A2 n2 c2', .int .i64 ck, .string cn, .int .i64 cvk, .int .i64 cvn, .string cvt, .string cop, .slice CA cnn cc, .slice NA nn nc, .slice EA en ec, .slice OA ol oc, .slice GA gn gc, .slice BA bn bc, .int .i64 count] 49)
 have l1d := t0.cell l1 (by simp)
 have p0 : W.cell? ⟨w.heap.size, 0, none⟩ = some (.int .i64 8) := cell_blk hb0 rfl
 rw [hW] at l1d p0
 have HW := Lib.hid hW
 have HT0 := Lib.hid t0
 clear hL hc0 hW t0 l1 hb0 hS hO ha hrk
 go_enter Tryz.func65, Tryz.ntmps65
 go_wp2_with fail
 rw [← HW.out]
 refine (Hj.out _ HT0.out).mono ?_
 rintro e w1 ⟨rfl, m1, m2⟩
 have M1 := Lib.hid (And.intro m1 m2)
 clear m1 m2 p0 l1d
 go_wp2_with fail
 go_ret2
 exact ⟨⟨RA, _, rc⟩, rfl, rfl, M1.out.1, (HT0.out.mono (by simp)).trans M1.out.2 (fun b hb => .inl hb)⟩
end Go.Proofs.YtafoklilkdnepaaGreatDoor

/- RelopRules, plainly: first without By. -/
namespace Go.Proofs.YtafoklilkdnepaaGreatDoor
open Go.RowKit

theorem byD_zero (cs : List CD) (rows : List (List VD)) (x : Nat) : byD cs [] rows x = 0 := by
 unfold byD rankN
 rw [List.filter_eq_nil_iff.2 (fun a _ => by simp [byR, cmpBy])]
 rfl
theorem byD_none (cs : List CD) (rows : List (List VD)) (x y : Nat) : byD cs [] rows x = byD cs [] rows y := by rw [byD_zero, byD_zero]
/-- without By the rows stay as they are -/
theorem good_none (cs : List CD) (rows : List (List VD)) : Good (byD cs [] rows) (fun k => k) 0 rows.length := by
 refine ⟨fun i j h1 h2 h3 => ?_, fun x => ⟨fun ⟨i, h1, h2, h3⟩ => ?_, fun h => ⟨x, h.1, h.2, rfl⟩⟩⟩
 ·have := byD_none cs rows i j
  unfold ltL
  dsimp only
  omega
 ·dsimp only at h3
  omega
theorem firstL_none (cs : List CD) (rows : List (List VD)) (count : Nat) : firstL cs [] rows count = rows.take count := by
 rw [firstL_eq count (good_none cs rows)]
 unfold pickL
 rw [range_getD rows [] _ rfl]
theorem cmpRV_self (a : List VD) : cmpRV a a = 0 := by have := cmpRV_neg a a; omega
/-- what is left of rows in their order is in strict order -/
theorem cptR_strict (rows : List (List VD)) (h : rows.Pairwise fun a b => cmpRV a b ≤ 0) : (cptR rows).Pairwise fun a b => cmpRV a b < 0 := by
 unfold cptR
 rw [List.pairwise_map]
 have h0 : (cptI rows rows.length).Pairwise (· < ·) := List.pairwise_lt_range.filter _
 refine h0.imp_of_mem fun {a b} ha hb hab => ?_
 have hb1 := cptI_lt b hb
 have hbn : newR rows b = true := (List.mem_filter.1 hb).2
 unfold newR at hbn
 rw [show decide (b = 0) = false from decide_eq_false (by omega), Bool.false_or, Bool.not_eq_true', Bool.eq_false_iff, ne_eq, eqVs_iff] at hbn
 have hl : ∀ i j, i < j → j < rows.length → cmpRV (rows.getD i []) (rows.getD j []) ≤ 0 := fun i j hij hj => by
  have := List.pairwise_iff_getElem.1 h i j (by omega) hj hij
  simpa [List.getD, hj, show i < rows.length by omega] using this
 have e1 := hl (b - 1) b (by omega) hb1
 have n1 : cmpRV (rows.getD (b - 1) []) (rows.getD b []) ≠ 0 := fun e => hbn (cmpRV_zero _ _ e).symm
 have e2 : cmpRV (rows.getD a []) (rows.getD (b - 1) []) ≤ 0 := by
  by_cases hc : a = b - 1
  ·rw [hc, cmpRV_self]; omega
  ·exact hl a (b - 1) (by omega) (by omega)
 have := tr_row _ _ _ e2 e1
 omega
/-- of rows in strict order all are left -/
theorem cptR_same (rows : List (List VD)) (h : rows.Pairwise fun a b => cmpRV a b < 0) : cptR rows = rows := by
 unfold cptR
 rw [cptI_all rows rows.length (fun i hi => ?_), range_getD rows [] _ rfl]
 unfold newR
 by_cases h0 : i = 0
 ·simp [h0]
 ·rw [Bool.or_eq_true, Bool.not_eq_true', Bool.eq_false_iff, ne_eq, eqVs_iff]
  right
  intro e
  have := List.pairwise_iff_getElem.1 h (i - 1) i (by omega) hi (by omega)
  have e' : rows[i] = rows[i - 1] := by simpa [List.getD, hi, show i - 1 < rows.length by omega] using e
  rw [e', cmpRV_self] at this
  omega
theorem cptR_twice (rows : List (List VD)) (h : rows.Pairwise fun a b => cmpRV a b ≤ 0) : cptR (cptR rows) = cptR rows := cptR_same _ (cptR_strict rows h)
/-- rows have one order alone -/
theorem SortedOf.one {a b x y : List (List VD)} (ha : SortedOf a x) (hb : SortedOf b y) (hp : a.Perm b) : x = y := by
 refine List.Perm.eq_of_pairwise (le := fun a b => cmpRV a b ≤ 0) (fun u v _ _ h1 h2 => ?_) ha.2 hb.2 (ha.1.trans (hp.trans hb.1.symm))
 have := cmpRV_neg u v
 exact cmpRV_zero _ _ (by omega)
/-- what holds and what does not, together: all -/
theorem parts_perm (p q : List VD → Bool) (rows : List (List VD)) (h : ∀ r ∈ rows, q r = !p r) : (rows.filter p ++ rows.filter q).Perm rows := by
 have e : rows.filter q = rows.filter fun r => !p r := List.filter_congr h
 rw [e]
 exact List.filter_append_perm p rows
/-- where by a condition and by its not: the table again -/
theorem parts_sorted (p q : List VD → Bool) {rows a b c : List (List VD)} (hr : rows.Pairwise fun a b => cmpRV a b ≤ 0) (h : ∀ r ∈ rows, q r = !p r) (ha : SortedOf (rows.filter p) a) (hb : SortedOf (rows.filter q) b) (hc : SortedOf (a ++ b) c) : c = rows :=
 SortedOf.one hc ⟨.refl _, hr⟩ ((ha.1.append hb.1).trans (parts_perm p q rows h))
theorem errF_all {α : Type} {g : α → Int} : ∀ {l : List α}, errF g l = 0 → ∀ v ∈ l, g v = 0
 | [], _ => fun v hv => absurd hv (by simp)
 | a :: r, h => fun v hv => by
  rw [errF] at h
  by_cases h0 : g a = 0
  ·rw [if_pos h0] at h
   rcases List.mem_cons.1 hv with rfl | hm
   ·exact h0
   ·exact errF_all h v hm
  ·rw [if_neg h0] at h
   exact absurd h h0
end Go.Proofs.YtafoklilkdnepaaGreatDoor

/- RelopRules, plainly: what not tells. -/
namespace Go.Proofs.YtafoklilkdnepaaGreatDoor
open Go.RowKit

theorem topX_zero {cs : List CD} {row : List VD} {n : Nat} {e : TX n} (h : (topX cs row n e).2 = 0) : topX cs row n e = evalX cs row n e := by
 unfold topX at h ⊢
 by_cases h1 : (typeX cs n e).2 ≠ 0
 ·rw [if_pos h1] at h; exact absurd h h1
 ·rw [if_neg h1] at h ⊢
  by_cases h2 : fitR cs row = true
  ·rw [if_pos h2]
  ·rw [if_neg h2] at h; cases h
theorem tru_bit (b : Bool) : (bitV b).tru = b := by cases b <;> rfl
/-- a condition's not, as expr.Unary makes it -/
def notX (n : Nat) (e : TX n) : TX (n + 1) := (⟨3, ⟨#[]⟩, ⟨0, 0, ⟨#[]⟩⟩, wNot⟩, [e])
theorem evalX_not {cs : List CD} {row : List VD} {n : Nat} {e : TX n} (h1 : (evalX cs row n e).2 = 0) : evalX cs row (n + 1) (notX n e) = (bitV (!(evalX cs row n e).1.tru), 0) := by
 rw [evalX_succ cs row n (notX n e)]
 have k1 : ¬ ((notX n e).1.kind = 1) := show ¬ ((3 : Int) = 1) by decide
 have k2 : ¬ ((notX n e).1.kind = 2) := show ¬ ((3 : Int) = 2) by decide
 rw [if_neg k1, if_neg k2]
 show (if (evalX cs row n e).2 ≠ 0 then (zeroV, (evalX cs row n e).2) else _) = _
 rw [if_neg (by rw [h1]; decide)]
 rfl
theorem topX_not {cs : List CD} {row : List VD} {n : Nat} {e : TX n} (h1 : (topX cs row n e).2 = 0) (h2 : (topX cs row (n + 1) (notX n e)).2 = 0) : (topX cs row (n + 1) (notX n e)).1.tru = !(topX cs row n e).1.tru := by
 have e1 := topX_zero h1
 rw [topX_zero h2, e1]
 rw [e1] at h1
 rw [evalX_not h1]
 exact tru_bit _
end Go.Proofs.YtafoklilkdnepaaGreatDoor
