/- Part 33 of the texts of this proof, one behind the other; each begins with its own sentence. No condition beyond those that its theorems state. -/
import Derived.Test.YtafoklilkdnepaaGreatDoorRu32
/- bywashlaw05.smallPlan. For every plan. -/
namespace Go.Proofs.YtafoklilkdnepaaGreatDoor
open Go.RowKit

def smE (m : Nat) (e : TX m) : Bool := decide (sizeX m e ≤ 60)
def smallPl {m : Nat} (d : PD m) : Bool := d.exprs.all (smE m) && (decide (d.names.length ≤ 20) && (decide (d.exprs.length ≤ 20) && (decide (d.on.length ≤ 20) && (decide (d.aggs.length ≤ 20) && (decide (d.by_.length ≤ 20) && decide (sizeX m d.cond ≤ 60))))))
structure PD.Small {m : Nat} (d : PD m) : Prop where
 x : ∀ e ∈ d.exprs, sizeX m e ≤ 60
 n : d.names.length ≤ 20
 e : d.exprs.length ≤ 20
 o : d.on.length ≤ 20
 a : d.aggs.length ≤ 20
 b : d.by_.length ≤ 20
 c : sizeX m d.cond ≤ 60
theorem smallPl_true {m : Nat} {d : PD m} (h : smallPl d = true) : d.Small := by
 unfold smallPl at h
 simp only [Bool.and_eq_true, List.all_eq_true, decide_eq_true_eq] at h
 obtain ⟨h1, h2, h3, h4, h5, h6, h7⟩ := h
 exact ⟨fun e he => by simpa [smE] using h1 e he, h2, h3, h4, h5, h6, h7⟩
/-- numbers and lengths of a plan within bounds -/
structure PD.Ok {m : Nat} (d : PD m) : Prop where
 x : ∀ e ∈ d.exprs, sizeX m e ≤ 2000000
 n : d.names.length ≤ 2000000
 e : d.exprs.length ≤ 2000000
 o : d.on.length ≤ 2000000
 a : d.aggs.length ≤ 2000000
 b : d.by_.length ≤ 2000000
 c : sizeX m d.cond ≤ 2000000

set_option maxRecDepth 40000 in
set_option maxHeartbeats 6400000 in
theorem smallPlan_any (m : Nat) (x : PC) (d : PD m) (hd : d.Ok) (w : World) (h : PlanAt w x d) :
  Calls Tryz.prog 14 #[x.val] w fun e w' => e = .returned (.bool (smallPl d)) ∧ Touch [] w w' := by
 obtain ⟨-, -, hcd, hnn, -, hen, hex, hon, -, han, -, hbn, -, -⟩ := h
 obtain ⟨o1, o2, o3, o4, o5, o6, o7⟩ := hd
 have Ho1 := Lib.hid o1
 have HX := Lib.hid hex
 have Hcs := Lib.hid fun w' (t : Touch [] w w') => sizeX_any m d.cond x.cond w' (hcd.touch0 t) o7
 obtain ⟨V, hV⟩ : ∃ V, V = smallPl d := ⟨_, rfl⟩
 have HV := Lib.hid hV
 rw [← hV]
 obtain ⟨k0, k1, ⟨A2, n2, c2'⟩, ⟨⟨ck, cn, ⟨cvk, cvn, cvt⟩, cop⟩, CA, cnn, cc⟩, ⟨NA, nn, nc⟩, ⟨EA, en, ec⟩, ⟨OA, ol, oc⟩, ⟨GA, gn, gc⟩, ⟨BA, bn, bc⟩, count⟩ := x
 dsimp only at hnn hen hon han hbn HX
 subst hnn hen hon han hbn
 simp only [PC.val, XC.val] at Hcs ⊢
 obtain ⟨sz, hsz⟩ : ∃ sz, sz = sizeX m d.cond := ⟨_, rfl⟩
 rw [← hsz] at Hcs o7
 have Hsz := Lib.hid hsz
 clear hsz o1 hcd hex hV
 have hb0 := heap_alloc_new w (.cells #[.int .i64 k0, .string k1, .slice A2 n2 c2', .int .i64 ck, .string cn, .int .i64 cvk, .int .i64 cvn, .string cvt, .string cop, .slice CA cnn cc, .slice NA d.names.length nc, .slice EA d.exprs.length ec, .slice OA d.on.length oc, .slice GA d.aggs.length gc, .slice BA d.by_.length bc, .int .i64 count] 49)
 have t0 := (Touch.refl [] w).alloc (.cells #[.int .i64 k0, .string k1, .slice A2 n2 c2', .int .i64 ck, .string cn, .int .i64 cvk, .int .i64 cvn, .string cvt, .string cop, .slice CA cnn cc, .slice NA d.names.length nc, .slice EA d.exprs.length ec, .slice OA d.on.length oc, .slice GA d.aggs.length gc, .slice BA d.by_.length bc, .int .i64 count] 49)
 obtain ⟨W, hW⟩ : ∃ W, W = w.alloc (.cells #[.int .i64 k0, .string k1, .slice A2 n2 c2', .int .i64 ck, .string cn, .int .i64 cvk, .int .i64 cvn, .string cvt, .string cop, .slice CA cnn cc, .slice NA d.names.length nc, .slice EA d.exprs.length ec, .slice OA d.on.length oc, .slice GA d.aggs.length gc, .slice BA d.by_.length bc, .int .i64 count] 49) := ⟨_, rfl⟩
 rw [← hW] at hb0 t0
 have HW := Lib.hid hW
 have HB := Lib.hid hb0
 have HT0 := Lib.hid t0
 clear hb0 t0 hW
 go_enter Tryz.func14, Tryz.ntmps14
 go_wp2_with fail
 rw [← HW.out]
 go_loopw [8] (fun i wr => ∃ k : Nat, k ≤ d.exprs.length ∧ i = .int .i64 k ∧ Hid ((d.exprs.take k).all (smE m) = true) ∧ Hid (Touch [] W wr)) (fun i _ => d.exprs.length - (intOf i).toNat)
 case atStart => exact ⟨0, by omega, rfl, Lib.hid rfl, Lib.hid (Touch.refl _ _)⟩
 case round =>
  obtain ⟨k, hk, rfl, Hall, HT⟩ := hrel
  by_cases hlt : k < d.exprs.length
  ·obtain ⟨ad, b, off, y, rfl, hadd, hy, hcell⟩ := (HX.out.touch0 (HT0.out.trans0 HT.out)).at_ xcE_length k hlt
   have hsy := Ho1.out _ (List.getElem_mem hlt)
   have hno := all_no (p := smE m) hlt
   have hyes := all_snoc (p := smE m) hlt Hall.out
   obtain ⟨e, he⟩ : ∃ e, e = d.exprs[k] := ⟨_, rfl⟩
   rw [← he] at hy hsy hno hyes
   have c0 := hcell 0 _ rfl; have c1 := hcell 1 _ rfl; have c2 := hcell 2 _ rfl; have c3 := hcell 3 _ rfl; have c4 := hcell 4 _ rfl; have c5 := hcell 5 _ rfl; have c6 := hcell 6 _ rfl
   rw [Nat.add_zero] at c0
   have ta := (Touch.refl [] wr).alloc (.cells #[.int .i64 y.nd.kind, .string y.nd.name, .int .i64 y.nd.v.kind, .int .i64 y.nd.v.num, .string y.nd.v.text, .string y.nd.op, .slice y.A y.n y.c] 44)
   have hc := Lib.hid (sizeX_any m e y _ (hy.touch0 ta) hsy)
   obtain ⟨q, hq⟩ : ∃ q, q = sizeX m e := ⟨_, rfl⟩
   rw [← hq] at hc hsy
   have Hno := Lib.hid fun h0 : 60 < q => hno (by unfold smE; rw [← hq]; simp; omega)
   have Hyes := Lib.hid fun h0 : q ≤ 60 => hyes (by unfold smE; rw [← hq]; simp; omega)
   have HTa := Lib.hid ta
   clear hno hyes he hcell hq ta hy Hall
   obtain ⟨⟨k2, nm2, ⟨vk2, vn2, vt2⟩, op2⟩, A3, m2, c3'⟩ := y
   simp only [XC.val] at hc c0 c1 c2 c3 c4 c5 c6
   have hkn : (k : Int) < (d.exprs.length : Int) := by omega
   by_cases h60 : 60 < q
   ·have Hs := Lib.hid (show V = false by rw [HV.out]; unfold smallPl; rw [Hno.out h60]; rfl)
    have hq6 : (60 < (q : Int)) = True := eq_true (by omega)
    go_wp2_with fail
    refine hc.out.mono ?_
    rintro e w1 ⟨rfl, t1⟩
    go_wp2
    go_ret
    exact ⟨ret_bool (by rw [Hs.out]), (HT0.out.trans0 HT.out).trans0 (HTa.out.trans0 t1)⟩
   ·have hq6 : (60 < (q : Int)) = False := eq_false (by omega)
    go_wp2_with fail
    refine hc.out.mono ?_
    rintro e w1 ⟨rfl, t1⟩
    have HT1 := Lib.hid (HT.out.trans0 (HTa.out.trans0 t1))
    clear t1
    go_wp2_with fail
    go_roundw
    case rel => exact ⟨k + 1, by omega, by go_num, Lib.hid (Hyes.out (by omega)), HT1⟩
    case measure => simp [intOf]; omega
  ·obtain rfl : k = d.exprs.length := by omega
   have hall := Hall.out
   rw [List.take_length] at hall
   have HA := Lib.hid (show V = (decide (d.names.length ≤ 20) && (decide (d.exprs.length ≤ 20) && (decide (d.on.length ≤ 20) && (decide (d.aggs.length ≤ 20) && (decide (d.by_.length ≤ 20) && decide (sz ≤ 60)))))) by rw [HV.out, Hsz.out]; unfold smallPl; rw [hall, Bool.true_and])
   obtain ⟨p0, p1, p2, p3, p4, p5, p6, p7, p8, p9, p10, p11, p12, p13, p14, p15⟩ := blk16 (HT.out.blk HB.out (by simp))
   have Hc := Lib.hid (Hcs.out _ (HT0.out.trans0 HT.out))
   clear hall Hall Hcs HV
   by_cases g0 : d.names.length ≤ 20
   rotate_left
   ·have Hs := Lib.hid (show V = false by rw [HA.out, decide_eq_false g0]; simp)
    have q0 : ((d.names.length : Int) ≤ 20) = False := eq_false (by omega)
    go_wp2
    go_ret
    exact ⟨ret_bool (by rw [Hs.out]), HT0.out.trans0 HT.out⟩
   by_cases g1 : d.exprs.length ≤ 20
   rotate_left
   ·have Hs := Lib.hid (show V = false by rw [HA.out, decide_eq_true g0, decide_eq_false g1]; simp)
    have q1 : ((d.exprs.length : Int) ≤ 20) = False := eq_false (by omega)
    have q0 : ((d.names.length : Int) ≤ 20) = True := eq_true (by omega)
    go_wp2
    go_ret
    exact ⟨ret_bool (by rw [Hs.out]), HT0.out.trans0 HT.out⟩
   by_cases g2 : d.on.length ≤ 20
   rotate_left
   ·have Hs := Lib.hid (show V = false by rw [HA.out, decide_eq_true g0, decide_eq_true g1, decide_eq_false g2]; simp)
    have q2 : ((d.on.length : Int) ≤ 20) = False := eq_false (by omega)
    have q0 : ((d.names.length : Int) ≤ 20) = True := eq_true (by omega)
    have q1 : ((d.exprs.length : Int) ≤ 20) = True := eq_true (by omega)
    go_wp2
    go_ret
    exact ⟨ret_bool (by rw [Hs.out]), HT0.out.trans0 HT.out⟩
   by_cases g3 : d.aggs.length ≤ 20
   rotate_left
   ·have Hs := Lib.hid (show V = false by rw [HA.out, decide_eq_true g0, decide_eq_true g1, decide_eq_true g2, decide_eq_false g3]; simp)
    have q3 : ((d.aggs.length : Int) ≤ 20) = False := eq_false (by omega)
    have q0 : ((d.names.length : Int) ≤ 20) = True := eq_true (by omega)
    have q1 : ((d.exprs.length : Int) ≤ 20) = True := eq_true (by omega)
    have q2 : ((d.on.length : Int) ≤ 20) = True := eq_true (by omega)
    go_wp2
    go_ret
    exact ⟨ret_bool (by rw [Hs.out]), HT0.out.trans0 HT.out⟩
   by_cases g4 : d.by_.length ≤ 20
   rotate_left
   ·have Hs := Lib.hid (show V = false by rw [HA.out, decide_eq_true g0, decide_eq_true g1, decide_eq_true g2, decide_eq_true g3, decide_eq_false g4]; simp)
    have q4 : ((d.by_.length : Int) ≤ 20) = False := eq_false (by omega)
    have q0 : ((d.names.length : Int) ≤ 20) = True := eq_true (by omega)
    have q1 : ((d.exprs.length : Int) ≤ 20) = True := eq_true (by omega)
    have q2 : ((d.on.length : Int) ≤ 20) = True := eq_true (by omega)
    have q3 : ((d.aggs.length : Int) ≤ 20) = True := eq_true (by omega)
    go_wp2
    go_ret
    exact ⟨ret_bool (by rw [Hs.out]), HT0.out.trans0 HT.out⟩
   have Hs := Lib.hid (show V = decide (sz ≤ 60) by rw [HA.out, decide_eq_true g0, decide_eq_true g1, decide_eq_true g2, decide_eq_true g3, decide_eq_true g4]; simp)
   have q0 : ((d.names.length : Int) ≤ 20) = True := eq_true (by omega)
   have q1 : ((d.exprs.length : Int) ≤ 20) = True := eq_true (by omega)
   have q2 : ((d.on.length : Int) ≤ 20) = True := eq_true (by omega)
   have q3 : ((d.aggs.length : Int) ≤ 20) = True := eq_true (by omega)
   have q4 : ((d.by_.length : Int) ≤ 20) = True := eq_true (by omega)
   go_wp2_with fail
   refine Hc.out.mono ?_
   rintro e w1 ⟨rfl, t1⟩
   go_wp2
   go_ret
   exact ⟨ret_bool (by rw [Hs.out, Bool.eq_iff_iff, decide_eq_true_eq, decide_eq_true_eq]; omega), (HT0.out.trans0 HT.out).trans0 t1⟩
end Go.Proofs.YtafoklilkdnepaaGreatDoor
