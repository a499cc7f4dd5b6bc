/- Part 9 of the texts of this proof, one behind the other; each begins with its own sentence. No condition beyond those that its theorems state. -/
import Derived.Test.YtafoklilkdnepaaGreatDoorRu8
/- relop.Plan.checkOn: may two schemas be joined on these pairs? For every plan and schemas. -/
namespace Go.Proofs.YtafoklilkdnepaaGreatDoor
open Go.RowKit

/-- the type of the first column of a name -/
def typO (cs : List CD) (s : ByteArray) : Option Int := (placeV cs s).map fun k => (cs.getD k ⟨⟨#[]⟩, 0⟩).typ
def onL (a b : List CD) : List (ByteArray × ByteArray) → Int
 | [] => 0
 | p :: r => match typO a p.1, typO b p.2 with
  | some s, some t => if s = t then onL a b r else 12
  | _, _ => 13
def onV (a b : List CD) (l : List (ByteArray × ByteArray)) : Int := if l.length = 0 then 20 else onL a b l
theorem onL_step (a b : List CD) (l : List (ByteArray × ByteArray)) (k : Nat) (h : k < l.length) : onL a b (l.drop k) = match typO a l[k].1, typO b l[k].2 with
  | some s, some t => if s = t then onL a b (l.drop (k + 1)) else 12
  | _, _ => 13 := by
 rw [List.drop_eq_getElem_cons h]; rfl

set_option maxRecDepth 20000 in
set_option maxHeartbeats 6400000 in
theorem checkOn_any (x : PC) (on : List (ByteArray × ByteArray)) (ho : x.on.n = on.length) (SA SB : Option Addr) (c1 c2 n1 n2 : Nat) (a b : List CD) (h1 : a.length = n1) (h2 : b.length = n2) (hl1 : n1 ≤ 1000000) (hl2 : n2 ≤ 1000000) (hlo : on.length ≤ 1000000) (w : World)
  (hr : RdK prE w x.on.A on) (ha : ColsAt w SA a) (hb : ColsAt w SB b) :
  Calls Tryz.prog 91 #[x.val, .slice SA n1 c1, .slice SB n2 c2] w fun e w' => e = .returned (.int .i64 (onV a b on)) ∧ Touch [] w w' := by
 subst h1 h2
 have Hv := Lib.hid (show onV a b on = if on.length = 0 then 20 else onL a b on from rfl)
 have HRD := Lib.hid (And.intro hr (And.intro ha hb))
 obtain ⟨k0, k1, ⟨A2, n2, c2'⟩, ⟨⟨ck, cn, ⟨cvk, cvn, cvt⟩, cop⟩, CA, cnn, cc⟩, ⟨NA, nn, nc⟩, ⟨EA, en, ec⟩, ⟨OA, ol, oc⟩, ⟨GA, gn, gc⟩, ⟨BA, bn, bc⟩, count⟩ := x
 simp only [PC.val] at *
 subst ho
 have t0 := (Touch.refl [] w).alloc (.cells #[.int .i64 k0, .string k1, .slice A2 n2 c2', .int .i64 ck, .string cn, .int .i64 cvk, .int .i64 cvn, .string cvt, .string cop, .slice CA cnn cc, .slice NA nn nc, .slice EA en ec, .slice OA on.length oc, .slice GA gn gc, .slice BA bn bc, .int .i64 count] 49)
 have HT0 := Lib.hid t0
 clear t0 hr ha hb
 by_cases hz : on.length = 0
 ·have Hq := Lib.hid (show onV a b on = 20 by rw [Hv.out, if_pos hz])
  have hzb : ((on.length : Int) == 0) = true := by rw [hz]; rfl
  clear hz
  go_enter Tryz.func91, Tryz.ntmps91
  go_wp2
  go_ret
  exact ⟨ret_int Hq.out.symm, HT0.out⟩
 ·have Hq := Lib.hid (show onV a b on = onL a b on by rw [Hv.out, if_neg hz])
  have hzb : ((on.length : Int) == 0) = false := by rw [beq_eq_false_iff_ne]; omega
  clear hz Hv
  go_enter Tryz.func91, Tryz.ntmps91
  go_wp2_with fail
  go_loopw [20] (fun i wr => ∃ k : Nat, k ≤ on.length ∧ i = .int .i64 k ∧ Hid (onV a b on = onL a b (on.drop k)) ∧ Hid (Touch [] w wr)) (fun i _ => on.length - (intOf i).toNat)
  case atStart => exact ⟨0, by omega, rfl, Lib.hid (by rw [Hq.out, List.drop_zero]), HT0⟩
  case round =>
   obtain ⟨k, hk, rfl, Hd, HT⟩ := hrel
   by_cases hlt : k < on.length
   ·obtain ⟨ad, b1, o1, rfl, hadd, hc⟩ := RdK.cells (HRD.out.1.touch0 HT.out) 2 prE_length (by omega) k hlt
    have hst := onL_step a b on k hlt
    obtain ⟨p, hp⟩ : ∃ p, p = on[k] := ⟨_, rfl⟩
    rw [← hp] at hc hst
    obtain ⟨p1, p2⟩ := p
    have e0 := hc 0 _ rfl
    have e1 := hc 1 _ rfl
    rw [Nat.add_zero] at e0
    have ta := (Touch.refl [] wr).alloc (.cells #[.string p1, .string p2] 39)
    have hbl := heap_alloc_new wr (.cells #[.string p1, .string p2] 39)
    have hfa := fun w' (t : Touch [] wr w') => findC_any SA c1 a.length a rfl p1 w' (HRD.out.2.1.touch0 (HT.out.trans0 t)) (by omega)
    have hfb := fun w' (t : Touch [] wr w') => findC_any SB c2 b.length b rfl p2 w' (HRD.out.2.2.touch0 (HT.out.trans0 t)) (by omega)
    have hkn : (k : Int) < (on.length : Int) := by omega
    have HTa := Lib.hid (And.intro ta hbl)
    rcases hpa : placeV a p1 with _ | i
    ·rw [hpa] at hfa
     have Hq2 := Lib.hid (show onV a b on = 13 by rw [Hd.out, hst]; unfold typO; rw [hpa]; rfl)
     have Hfa := Lib.hid hfa
     have Hfb := Lib.hid hfb
     clear hfa hfb hpa hst hc hp ta hbl
     go_wp2_with fail
     refine (Hfa.out _ HTa.out.1).mono ?_
     rintro e w1 ⟨rfl, t1⟩
     have T1 := HTa.out.1.trans0 t1
     obtain ⟨g0, g1, _, _⟩ := blk2 (t1.blk HTa.out.2 (by simp))
     have HT1 := Lib.hid T1
     clear T1 t1
     go_wp2_with fail
     refine (Hfb.out _ HT1.out).mono ?_
     rintro e w2 ⟨rfl, t2⟩
     have HT2 := Lib.hid (HT1.out.trans0 t2)
     clear t2
     go_wp2
     go_ret
     exact ⟨ret_int Hq2.out.symm, HT.out.trans0 HT2.out⟩
    ·rw [hpa] at hfa
     rcases hpb : placeV b p2 with _ | j
     ·rw [hpb] at hfb
      have Hq2 := Lib.hid (show onV a b on = 13 by rw [Hd.out, hst]; unfold typO; rw [hpa, hpb]; rfl)
      have Hfa := Lib.hid hfa
      have Hfb := Lib.hid hfb
      clear hfa hfb hpa hpb hst hc hp ta hbl
      go_wp2_with fail
      refine (Hfa.out _ HTa.out.1).mono ?_
      rintro e w1 ⟨rfl, t1⟩
      have T1 := HTa.out.1.trans0 t1
      obtain ⟨g0, g1, _, _⟩ := blk2 (t1.blk HTa.out.2 (by simp))
      have HT1 := Lib.hid T1
      clear T1 t1
      go_wp2_with fail
      refine (Hfb.out _ HT1.out).mono ?_
      rintro e w2 ⟨rfl, t2⟩
      have HT2 := Lib.hid (HT1.out.trans0 t2)
      clear t2
      go_wp2
      go_ret
      exact ⟨ret_int Hq2.out.symm, HT.out.trans0 HT2.out⟩
     ·rw [hpb] at hfb
      have hil := placeV_lt hpa
      have hjl := placeV_lt hpb
      obtain ⟨ad2, b2, o2, rfl, hadd2, _, e3⟩ := (HRD.out.2.1.touch0 HT.out).at_ i hil
      obtain ⟨ad3, b3, o3, rfl, hadd3, _, e4⟩ := (HRD.out.2.2.touch0 HT.out).at_ j hjl
      have hts : onL a b (on.drop k) = if a[i].typ = b[j].typ then onL a b (on.drop (k + 1)) else 12 := by
       rw [hst]; unfold typO; rw [hpa, hpb]; simp [hil, hjl]
      obtain ⟨s, hs⟩ : ∃ s, s = a[i].typ := ⟨_, rfl⟩
      obtain ⟨t, ht⟩ : ∃ t, t = b[j].typ := ⟨_, rfl⟩
      rw [← hs] at e3 hts
      rw [← ht] at e4 hts
      have hi0 : (0 : Int) ≤ (i : Int) := by omega
      have hj0 : (0 : Int) ≤ (j : Int) := by omega
      have hin : (i : Int) < (a.length : Int) := by omega
      have hjn : (j : Int) < (b.length : Int) := by omega
      have HTS := Lib.hid hts
      have Hfa := Lib.hid hfa
      have Hfb := Lib.hid hfb
      clear hfa hfb hpa hpb hst hc hp ta hbl hts hs ht
      by_cases hst : s = t
      ·subst hst
       have Hn := Lib.hid (show onV a b on = onL a b (on.drop (k + 1)) by rw [Hd.out, HTS.out, if_pos rfl])
       clear HTS
       go_wp2_with fail
       refine (Hfa.out _ HTa.out.1).mono ?_
       rintro e w1 ⟨rfl, t1⟩
       have T1 := HTa.out.1.trans0 t1
       obtain ⟨g0, g1, _, _⟩ := blk2 (t1.blk HTa.out.2 (by simp))
       have HT1 := Lib.hid T1
       clear T1 t1
       go_wp2_with fail
       refine (Hfb.out _ HT1.out).mono ?_
       rintro e w2 ⟨rfl, t2⟩
       have e3' := (HT1.out.trans0 t2).cell e3 (by simp)
       have e4' := (HT1.out.trans0 t2).cell e4 (by simp)
       have HT2 := Lib.hid (HT1.out.trans0 t2)
       clear t2
       go_wp2_with fail
       go_quiet (fail)
       go_wp2_with fail
       go_roundw
       case rel => exact ⟨k + 1, by omega, by go_num, Hn, Lib.hid ((HT.out.trans0 HT2.out).drewN _)⟩
       case measure => simp [intOf]; omega
      ·have Hn := Lib.hid (show onV a b on = 12 by rw [Hd.out, HTS.out, if_neg hst])
       have hq : (s == t) = false := by rw [beq_eq_false_iff_ne]; exact hst
       have hq' : (s != t) = true := by rw [bne, hq]; rfl
       clear HTS
       go_wp2_with fail
       refine (Hfa.out _ HTa.out.1).mono ?_
       rintro e w1 ⟨rfl, t1⟩
       have T1 := HTa.out.1.trans0 t1
       obtain ⟨g0, g1, _, _⟩ := blk2 (t1.blk HTa.out.2 (by simp))
       have HT1 := Lib.hid T1
       clear T1 t1
       go_wp2_with fail
       refine (Hfb.out _ HT1.out).mono ?_
       rintro e w2 ⟨rfl, t2⟩
       have e3' := (HT1.out.trans0 t2).cell e3 (by simp)
       have e4' := (HT1.out.trans0 t2).cell e4 (by simp)
       have HT2 := Lib.hid (HT1.out.trans0 t2)
       clear t2
       go_wp2_with fail
       go_quiet (fail)
       go_wp2_with fail
       go_ret
       exact ⟨ret_int Hn.out.symm, (HT.out.trans0 HT2.out).drewN _⟩
   ·obtain rfl : k = on.length := by omega
    have Hn := Lib.hid (show onV a b on = 0 by rw [Hd.out, List.drop_length]; rfl)
    go_wp2
    go_ret
    exact ⟨ret_int Hn.out.symm, HT.out⟩
end Go.Proofs.YtafoklilkdnepaaGreatDoor

/- relop.Agg.typed: the type of what is reckoned of a group. For every agg and schema. (gen_rlagg.py) -/
namespace Go.Proofs.YtafoklilkdnepaaGreatDoor
open Go.RowKit

def opC : ByteArray := ⟨#[99, 111, 117, 110, 116]⟩
def opS : ByteArray := ⟨#[115, 117, 109]⟩
def opMi : ByteArray := ⟨#[109, 105, 110]⟩
def opMa : ByteArray := ⟨#[109, 97, 120]⟩
def opsL : List ByteArray := [⟨#[99, 111, 117, 110, 116]⟩, ⟨#[115, 117, 109]⟩, ⟨#[109, 105, 110]⟩, ⟨#[109, 97, 120]⟩]

set_option maxRecDepth 20000 in
set_option maxHeartbeats 3200000 in
theorem aggT_form (op col nm : ByteArray) (SA : Option Addr) (c n : Nat) (cs : List CD) (hn : cs.length = n) (hl : n ≤ 1000000) (w : World) (h : ColsAt w SA cs) (HM : Hid (memS opsL op = false)) :
  Calls Tryz.prog 131 #[.agg #[.string op, .string col, .string nm], .slice SA n c] w fun e w' => e = .returned (.tuple #[.int .i64 0, .int .i64 20]) ∧ Touch [] w w' := by
 have Hc := Lib.hid fun w' (t : Touch [] w w') A (h : RdK btE w' A opsL) => containsS_any A 4 4 opsL rfl op w' h (by omega)
 have t0 := (Touch.refl [] w).alloc (.cells #[.string op, .string col, .string nm] 79)
 have hb0 := heap_alloc_new w (.cells #[.string op, .string col, .string nm] 79)
 have tb := t0.alloc (.cells #[.string ⟨#[99, 111, 117, 110, 116]⟩, .string ⟨#[115, 117, 109]⟩, .string ⟨#[109, 105, 110]⟩, .string ⟨#[109, 97, 120]⟩] 9)
 have hb1 := ((Touch.refl [] (w.alloc (.cells #[.string op, .string col, .string nm] 79))).alloc (.cells #[.string ⟨#[99, 111, 117, 110, 116]⟩, .string ⟨#[115, 117, 109]⟩, .string ⟨#[109, 105, 110]⟩, .string ⟨#[109, 97, 120]⟩] 9)).blk hb0 (by simp)
 have hrd := RdK.row (enc := btE) (w.alloc (.cells #[.string op, .string col, .string nm] 79)) 9 opsL #[.string ⟨#[99, 111, 117, 110, 116]⟩, .string ⟨#[115, 117, 109]⟩, .string ⟨#[109, 105, 110]⟩, .string ⟨#[109, 97, 120]⟩] rfl
 rw [World.size_alloc] at hrd
 have HB := Lib.hid (And.intro tb (And.intro hb1 hrd))
 have hfd := fun w' (t : Touch [] w w') => findC_any SA c n cs hn col w' (h.touch0 t) (by omega)
 clear t0 hb0 tb hb1 hrd hfd hn h
 go_enter Tryz.func131, Tryz.ntmps131
 go_wp2_with fail
 refine (Hc.out _ HB.out.1 _ HB.out.2.2).mono ?_
 rintro e w1 ⟨rfl, t1⟩
 rw [HM.out]
 obtain ⟨d0, d1, d2, _, _, _⟩ := blk3 (t1.blk HB.out.2.1 (by simp))
 have HT := Lib.hid (And.intro (HB.out.1.trans0 t1) (t1.blk HB.out.2.1 (by simp)))
 clear t1
 go_wp2
 go_ret2
 exact ⟨rfl, HT.out.1⟩

set_option maxRecDepth 20000 in
set_option maxHeartbeats 3200000 in
theorem aggT_form2 (op col nm : ByteArray) (SA : Option Addr) (c n : Nat) (cs : List CD) (hn : cs.length = n) (hl : n ≤ 1000000) (w : World) (h : ColsAt w SA cs) (HM : Hid (memS opsL op = true)) (q5 : col.toList.isEmpty = true) (q1 : (op.toList == [99, 111, 117, 110, 116]) = false) :
  Calls Tryz.prog 131 #[.agg #[.string op, .string col, .string nm], .slice SA n c] w fun e w' => e = .returned (.tuple #[.int .i64 0, .int .i64 20]) ∧ Touch [] w w' := by
 have Hc := Lib.hid fun w' (t : Touch [] w w') A (h : RdK btE w' A opsL) => containsS_any A 4 4 opsL rfl op w' h (by omega)
 have t0 := (Touch.refl [] w).alloc (.cells #[.string op, .string col, .string nm] 79)
 have hb0 := heap_alloc_new w (.cells #[.string op, .string col, .string nm] 79)
 have tb := t0.alloc (.cells #[.string ⟨#[99, 111, 117, 110, 116]⟩, .string ⟨#[115, 117, 109]⟩, .string ⟨#[109, 105, 110]⟩, .string ⟨#[109, 97, 120]⟩] 9)
 have hb1 := ((Touch.refl [] (w.alloc (.cells #[.string op, .string col, .string nm] 79))).alloc (.cells #[.string ⟨#[99, 111, 117, 110, 116]⟩, .string ⟨#[115, 117, 109]⟩, .string ⟨#[109, 105, 110]⟩, .string ⟨#[109, 97, 120]⟩] 9)).blk hb0 (by simp)
 have hrd := RdK.row (enc := btE) (w.alloc (.cells #[.string op, .string col, .string nm] 79)) 9 opsL #[.string ⟨#[99, 111, 117, 110, 116]⟩, .string ⟨#[115, 117, 109]⟩, .string ⟨#[109, 105, 110]⟩, .string ⟨#[109, 97, 120]⟩] rfl
 rw [World.size_alloc] at hrd
 have HB := Lib.hid (And.intro tb (And.intro hb1 hrd))
 have hfd := fun w' (t : Touch [] w w') => findC_any SA c n cs hn col w' (h.touch0 t) (by omega)
 clear t0 hb0 tb hb1 hrd hfd hn h
 go_enter Tryz.func131, Tryz.ntmps131
 go_wp2_with fail
 refine (Hc.out _ HB.out.1 _ HB.out.2.2).mono ?_
 rintro e w1 ⟨rfl, t1⟩
 rw [HM.out]
 obtain ⟨d0, d1, d2, _, _, _⟩ := blk3 (t1.blk HB.out.2.1 (by simp))
 have HT := Lib.hid (And.intro (HB.out.1.trans0 t1) (t1.blk HB.out.2.1 (by simp)))
 clear t1
 go_wp2
 go_ret2
 exact ⟨rfl, HT.out.1⟩

set_option maxRecDepth 20000 in
set_option maxHeartbeats 3200000 in
theorem aggT_rows (op col nm : ByteArray) (SA : Option Addr) (c n : Nat) (cs : List CD) (hn : cs.length = n) (hl : n ≤ 1000000) (w : World) (h : ColsAt w SA cs) (HM : Hid (memS opsL op = true)) (q5 : col.toList.isEmpty = true) (q1 : (op.toList == [99, 111, 117, 110, 116]) = true) :
  Calls Tryz.prog 131 #[.agg #[.string op, .string col, .string nm], .slice SA n c] w fun e w' => e = .returned (.tuple #[.int .i64 1, .int .i64 0]) ∧ Touch [] w w' := by
 have Hc := Lib.hid fun w' (t : Touch [] w w') A (h : RdK btE w' A opsL) => containsS_any A 4 4 opsL rfl op w' h (by omega)
 have t0 := (Touch.refl [] w).alloc (.cells #[.string op, .string col, .string nm] 79)
 have hb0 := heap_alloc_new w (.cells #[.string op, .string col, .string nm] 79)
 have tb := t0.alloc (.cells #[.string ⟨#[99, 111, 117, 110, 116]⟩, .string ⟨#[115, 117, 109]⟩, .string ⟨#[109, 105, 110]⟩, .string ⟨#[109, 97, 120]⟩] 9)
 have hb1 := ((Touch.refl [] (w.alloc (.cells #[.string op, .string col, .string nm] 79))).alloc (.cells #[.string ⟨#[99, 111, 117, 110, 116]⟩, .string ⟨#[115, 117, 109]⟩, .string ⟨#[109, 105, 110]⟩, .string ⟨#[109, 97, 120]⟩] 9)).blk hb0 (by simp)
 have hrd := RdK.row (enc := btE) (w.alloc (.cells #[.string op, .string col, .string nm] 79)) 9 opsL #[.string ⟨#[99, 111, 117, 110, 116]⟩, .string ⟨#[115, 117, 109]⟩, .string ⟨#[109, 105, 110]⟩, .string ⟨#[109, 97, 120]⟩] rfl
 rw [World.size_alloc] at hrd
 have HB := Lib.hid (And.intro tb (And.intro hb1 hrd))
 have hfd := fun w' (t : Touch [] w w') => findC_any SA c n cs hn col w' (h.touch0 t) (by omega)
 have Hf := Lib.hid hfd
 clear t0 hb0 tb hb1 hrd hfd hn h
 go_enter Tryz.func131, Tryz.ntmps131
 go_wp2_with fail
 refine (Hc.out _ HB.out.1 _ HB.out.2.2).mono ?_
 rintro e w1 ⟨rfl, t1⟩
 rw [HM.out]
 obtain ⟨d0, d1, d2, _, _, _⟩ := blk3 (t1.blk HB.out.2.1 (by simp))
 have HT := Lib.hid (And.intro (HB.out.1.trans0 t1) (t1.blk HB.out.2.1 (by simp)))
 clear t1
 go_wp2_with fail
 refine (Hf.out _ HT.out.1).mono ?_
 rintro e w2 ⟨rfl, t2⟩
 obtain ⟨f0, f1, f2, _, _, _⟩ := blk3 (t2.blk HT.out.2 (by simp))
 have HT2 := Lib.hid (HT.out.1.trans0 t2)
 clear t2
 go_wp2
 go_ret2
 exact ⟨rfl, HT2.out⟩

set_option maxRecDepth 20000 in
set_option maxHeartbeats 3200000 in
theorem aggT_name (op col nm : ByteArray) (SA : Option Addr) (c n : Nat) (cs : List CD) (hn : cs.length = n) (hl : n ≤ 1000000) (w : World) (h : ColsAt w SA cs) (HM : Hid (memS opsL op = true)) (q5 : col.toList.isEmpty = false) (hp : placeV cs col = none) :
  Calls Tryz.prog 131 #[.agg #[.string op, .string col, .string nm], .slice SA n c] w fun e w' => e = .returned (.tuple #[.int .i64 0, .int .i64 13]) ∧ Touch [] w w' := by
 have Hc := Lib.hid fun w' (t : Touch [] w w') A (h : RdK btE w' A opsL) => containsS_any A 4 4 opsL rfl op w' h (by omega)
 have t0 := (Touch.refl [] w).alloc (.cells #[.string op, .string col, .string nm] 79)
 have hb0 := heap_alloc_new w (.cells #[.string op, .string col, .string nm] 79)
 have tb := t0.alloc (.cells #[.string ⟨#[99, 111, 117, 110, 116]⟩, .string ⟨#[115, 117, 109]⟩, .string ⟨#[109, 105, 110]⟩, .string ⟨#[109, 97, 120]⟩] 9)
 have hb1 := ((Touch.refl [] (w.alloc (.cells #[.string op, .string col, .string nm] 79))).alloc (.cells #[.string ⟨#[99, 111, 117, 110, 116]⟩, .string ⟨#[115, 117, 109]⟩, .string ⟨#[109, 105, 110]⟩, .string ⟨#[109, 97, 120]⟩] 9)).blk hb0 (by simp)
 have hrd := RdK.row (enc := btE) (w.alloc (.cells #[.string op, .string col, .string nm] 79)) 9 opsL #[.string ⟨#[99, 111, 117, 110, 116]⟩, .string ⟨#[115, 117, 109]⟩, .string ⟨#[109, 105, 110]⟩, .string ⟨#[109, 97, 120]⟩] rfl
 rw [World.size_alloc] at hrd
 have HB := Lib.hid (And.intro tb (And.intro hb1 hrd))
 have hfd := fun w' (t : Touch [] w w') => findC_any SA c n cs hn col w' (h.touch0 t) (by omega)
 rw [hp] at hfd
 have Hf := Lib.hid hfd
 clear hp
 clear t0 hb0 tb hb1 hrd hfd hn h
 go_enter Tryz.func131, Tryz.ntmps131
 go_wp2_with fail
 refine (Hc.out _ HB.out.1 _ HB.out.2.2).mono ?_
 rintro e w1 ⟨rfl, t1⟩
 rw [HM.out]
 obtain ⟨d0, d1, d2, _, _, _⟩ := blk3 (t1.blk HB.out.2.1 (by simp))
 have HT := Lib.hid (And.intro (HB.out.1.trans0 t1) (t1.blk HB.out.2.1 (by simp)))
 clear t1
 go_wp2_with fail
 refine (Hf.out _ HT.out.1).mono ?_
 rintro e w2 ⟨rfl, t2⟩
 obtain ⟨f0, f1, f2, _, _, _⟩ := blk3 (t2.blk HT.out.2 (by simp))
 have HT2 := Lib.hid (HT.out.1.trans0 t2)
 clear t2
 go_wp2
 go_ret2
 exact ⟨rfl, HT2.out⟩

set_option maxRecDepth 20000 in
set_option maxHeartbeats 3200000 in
theorem aggT_text (op col nm : ByteArray) (SA : Option Addr) (c n : Nat) (cs : List CD) (hn : cs.length = n) (hl : n ≤ 1000000) (w : World) (h : ColsAt w SA cs) (HM : Hid (memS opsL op = true)) (q5 : col.toList.isEmpty = false) (i : Nat) (hp : placeV cs col = some i) (t : Int) (ht : typO cs col = some t) (q2 : (op.toList == [115, 117, 109]) = true) (h2 : t = 2) :
  Calls Tryz.prog 131 #[.agg #[.string op, .string col, .string nm], .slice SA n c] w fun e w' => e = .returned (.tuple #[.int .i64 0, .int .i64 12]) ∧ Touch [] w w' := by
 have Hc := Lib.hid fun w' (t : Touch [] w w') A (h : RdK btE w' A opsL) => containsS_any A 4 4 opsL rfl op w' h (by omega)
 have t0 := (Touch.refl [] w).alloc (.cells #[.string op, .string col, .string nm] 79)
 have hb0 := heap_alloc_new w (.cells #[.string op, .string col, .string nm] 79)
 have tb := t0.alloc (.cells #[.string ⟨#[99, 111, 117, 110, 116]⟩, .string ⟨#[115, 117, 109]⟩, .string ⟨#[109, 105, 110]⟩, .string ⟨#[109, 97, 120]⟩] 9)
 have hb1 := ((Touch.refl [] (w.alloc (.cells #[.string op, .string col, .string nm] 79))).alloc (.cells #[.string ⟨#[99, 111, 117, 110, 116]⟩, .string ⟨#[115, 117, 109]⟩, .string ⟨#[109, 105, 110]⟩, .string ⟨#[109, 97, 120]⟩] 9)).blk hb0 (by simp)
 have hrd := RdK.row (enc := btE) (w.alloc (.cells #[.string op, .string col, .string nm] 79)) 9 opsL #[.string ⟨#[99, 111, 117, 110, 116]⟩, .string ⟨#[115, 117, 109]⟩, .string ⟨#[109, 105, 110]⟩, .string ⟨#[109, 97, 120]⟩] rfl
 rw [World.size_alloc] at hrd
 have HB := Lib.hid (And.intro tb (And.intro hb1 hrd))
 have hfd := fun w' (t : Touch [] w w') => findC_any SA c n cs hn col w' (h.touch0 t) (by omega)
 rw [hp] at hfd
 have Hf := Lib.hid hfd
 have hil := placeV_lt hp
 obtain ⟨ad2, b2, o2, rfl, hadd2, _, e3⟩ := h.at_ i hil
 have hts : cs[i].typ = t := by
  unfold typO at ht; rw [hp] at ht; simpa [hil] using ht
 rw [hts] at e3
 have hi0 : (0 : Int) ≤ (i : Int) := by omega
 have hin : (i : Int) < (n : Int) := by omega
 have E3 := Lib.hid e3
 clear hts ht e3
 subst h2
 clear hp
 clear t0 hb0 tb hb1 hrd hfd hn h
 go_enter Tryz.func131, Tryz.ntmps131
 go_wp2_with fail
 refine (Hc.out _ HB.out.1 _ HB.out.2.2).mono ?_
 rintro e w1 ⟨rfl, t1⟩
 rw [HM.out]
 obtain ⟨d0, d1, d2, _, _, _⟩ := blk3 (t1.blk HB.out.2.1 (by simp))
 have HT := Lib.hid (And.intro (HB.out.1.trans0 t1) (t1.blk HB.out.2.1 (by simp)))
 clear t1
 go_wp2_with fail
 refine (Hf.out _ HT.out.1).mono ?_
 rintro e w2 ⟨rfl, t2⟩
 obtain ⟨f0, f1, f2, _, _, _⟩ := blk3 (t2.blk HT.out.2 (by simp))
 have e3' := (HT.out.1.trans0 t2).cell E3.out (by simp)
 have HT2 := Lib.hid (HT.out.1.trans0 t2)
 clear t2
 go_wp2
 go_ret2
 exact ⟨rfl, HT2.out⟩

set_option maxRecDepth 20000 in
set_option maxHeartbeats 3200000 in
theorem aggT_sum (op col nm : ByteArray) (SA : Option Addr) (c n : Nat) (cs : List CD) (hn : cs.length = n) (hl : n ≤ 1000000) (w : World) (h : ColsAt w SA cs) (HM : Hid (memS opsL op = true)) (q5 : col.toList.isEmpty = false) (i : Nat) (hp : placeV cs col = some i) (t : Int) (ht : typO cs col = some t) (q2 : (op.toList == [115, 117, 109]) = true) (q3 : (op.toList == [109, 105, 110]) = false) (q4 : (op.toList == [109, 97, 120]) = false) (h2 : t ≠ 2) :
  Calls Tryz.prog 131 #[.agg #[.string op, .string col, .string nm], .slice SA n c] w fun e w' => e = .returned (.tuple #[.int .i64 1, .int .i64 0]) ∧ Touch [] w w' := by
 have Hc := Lib.hid fun w' (t : Touch [] w w') A (h : RdK btE w' A opsL) => containsS_any A 4 4 opsL rfl op w' h (by omega)
 have t0 := (Touch.refl [] w).alloc (.cells #[.string op, .string col, .string nm] 79)
 have hb0 := heap_alloc_new w (.cells #[.string op, .string col, .string nm] 79)
 have tb := t0.alloc (.cells #[.string ⟨#[99, 111, 117, 110, 116]⟩, .string ⟨#[115, 117, 109]⟩, .string ⟨#[109, 105, 110]⟩, .string ⟨#[109, 97, 120]⟩] 9)
 have hb1 := ((Touch.refl [] (w.alloc (.cells #[.string op, .string col, .string nm] 79))).alloc (.cells #[.string ⟨#[99, 111, 117, 110, 116]⟩, .string ⟨#[115, 117, 109]⟩, .string ⟨#[109, 105, 110]⟩, .string ⟨#[109, 97, 120]⟩] 9)).blk hb0 (by simp)
 have hrd := RdK.row (enc := btE) (w.alloc (.cells #[.string op, .string col, .string nm] 79)) 9 opsL #[.string ⟨#[99, 111, 117, 110, 116]⟩, .string ⟨#[115, 117, 109]⟩, .string ⟨#[109, 105, 110]⟩, .string ⟨#[109, 97, 120]⟩] rfl
 rw [World.size_alloc] at hrd
 have HB := Lib.hid (And.intro tb (And.intro hb1 hrd))
 have hfd := fun w' (t : Touch [] w w') => findC_any SA c n cs hn col w' (h.touch0 t) (by omega)
 rw [hp] at hfd
 have Hf := Lib.hid hfd
 have hil := placeV_lt hp
 obtain ⟨ad2, b2, o2, rfl, hadd2, _, e3⟩ := h.at_ i hil
 have hts : cs[i].typ = t := by
  unfold typO at ht; rw [hp] at ht; simpa [hil] using ht
 rw [hts] at e3
 have hi0 : (0 : Int) ≤ (i : Int) := by omega
 have hin : (i : Int) < (n : Int) := by omega
 have E3 := Lib.hid e3
 clear hts ht e3
 have h2q : (t == 2) = false := by rw [beq_eq_false_iff_ne]; exact h2
 clear hp
 clear t0 hb0 tb hb1 hrd hfd hn h
 go_enter Tryz.func131, Tryz.ntmps131
 go_wp2_with fail
 refine (Hc.out _ HB.out.1 _ HB.out.2.2).mono ?_
 rintro e w1 ⟨rfl, t1⟩
 rw [HM.out]
 obtain ⟨d0, d1, d2, _, _, _⟩ := blk3 (t1.blk HB.out.2.1 (by simp))
 have HT := Lib.hid (And.intro (HB.out.1.trans0 t1) (t1.blk HB.out.2.1 (by simp)))
 clear t1
 go_wp2_with fail
 refine (Hf.out _ HT.out.1).mono ?_
 rintro e w2 ⟨rfl, t2⟩
 obtain ⟨f0, f1, f2, _, _, _⟩ := blk3 (t2.blk HT.out.2 (by simp))
 have e3' := (HT.out.1.trans0 t2).cell E3.out (by simp)
 have HT2 := Lib.hid (HT.out.1.trans0 t2)
 clear t2
 go_wp2
 go_ret2
 exact ⟨rfl, HT2.out⟩

set_option maxRecDepth 20000 in
set_option maxHeartbeats 3200000 in
theorem aggT_min (op col nm : ByteArray) (SA : Option Addr) (c n : Nat) (cs : List CD) (hn : cs.length = n) (hl : n ≤ 1000000) (w : World) (h : ColsAt w SA cs) (HM : Hid (memS opsL op = true)) (q5 : col.toList.isEmpty = false) (i : Nat) (hp : placeV cs col = some i) (t : Int) (ht : typO cs col = some t) (q2 : (op.toList == [115, 117, 109]) = false) (q3 : (op.toList == [109, 105, 110]) = true) :
  Calls Tryz.prog 131 #[.agg #[.string op, .string col, .string nm], .slice SA n c] w fun e w' => e = .returned (.tuple #[.int .i64 t, .int .i64 0]) ∧ Touch [] w w' := by
 have Hc := Lib.hid fun w' (t : Touch [] w w') A (h : RdK btE w' A opsL) => containsS_any A 4 4 opsL rfl op w' h (by omega)
 have t0 := (Touch.refl [] w).alloc (.cells #[.string op, .string col, .string nm] 79)
 have hb0 := heap_alloc_new w (.cells #[.string op, .string col, .string nm] 79)
 have tb := t0.alloc (.cells #[.string ⟨#[99, 111, 117, 110, 116]⟩, .string ⟨#[115, 117, 109]⟩, .string ⟨#[109, 105, 110]⟩, .string ⟨#[109, 97, 120]⟩] 9)
 have hb1 := ((Touch.refl [] (w.alloc (.cells #[.string op, .string col, .string nm] 79))).alloc (.cells #[.string ⟨#[99, 111, 117, 110, 116]⟩, .string ⟨#[115, 117, 109]⟩, .string ⟨#[109, 105, 110]⟩, .string ⟨#[109, 97, 120]⟩] 9)).blk hb0 (by simp)
 have hrd := RdK.row (enc := btE) (w.alloc (.cells #[.string op, .string col, .string nm] 79)) 9 opsL #[.string ⟨#[99, 111, 117, 110, 116]⟩, .string ⟨#[115, 117, 109]⟩, .string ⟨#[109, 105, 110]⟩, .string ⟨#[109, 97, 120]⟩] rfl
 rw [World.size_alloc] at hrd
 have HB := Lib.hid (And.intro tb (And.intro hb1 hrd))
 have hfd := fun w' (t : Touch [] w w') => findC_any SA c n cs hn col w' (h.touch0 t) (by omega)
 rw [hp] at hfd
 have Hf := Lib.hid hfd
 have hil := placeV_lt hp
 obtain ⟨ad2, b2, o2, rfl, hadd2, _, e3⟩ := h.at_ i hil
 have hts : cs[i].typ = t := by
  unfold typO at ht; rw [hp] at ht; simpa [hil] using ht
 rw [hts] at e3
 have hi0 : (0 : Int) ≤ (i : Int) := by omega
 have hin : (i : Int) < (n : Int) := by omega
 have E3 := Lib.hid e3
 clear hts ht e3
 clear hp
 clear t0 hb0 tb hb1 hrd hfd hn h
 go_enter Tryz.func131, Tryz.ntmps131
 go_wp2_with fail
 refine (Hc.out _ HB.out.1 _ HB.out.2.2).mono ?_
 rintro e w1 ⟨rfl, t1⟩
 rw [HM.out]
 obtain ⟨d0, d1, d2, _, _, _⟩ := blk3 (t1.blk HB.out.2.1 (by simp))
 have HT := Lib.hid (And.intro (HB.out.1.trans0 t1) (t1.blk HB.out.2.1 (by simp)))
 clear t1
 go_wp2_with fail
 refine (Hf.out _ HT.out.1).mono ?_
 rintro e w2 ⟨rfl, t2⟩
 obtain ⟨f0, f1, f2, _, _, _⟩ := blk3 (t2.blk HT.out.2 (by simp))
 have e3' := (HT.out.1.trans0 t2).cell E3.out (by simp)
 have HT2 := Lib.hid (HT.out.1.trans0 t2)
 clear t2
 go_wp2
 go_ret2
 exact ⟨rfl, HT2.out⟩

set_option maxRecDepth 20000 in
set_option maxHeartbeats 3200000 in
theorem aggT_max (op col nm : ByteArray) (SA : Option Addr) (c n : Nat) (cs : List CD) (hn : cs.length = n) (hl : n ≤ 1000000) (w : World) (h : ColsAt w SA cs) (HM : Hid (memS opsL op = true)) (q5 : col.toList.isEmpty = false) (i : Nat) (hp : placeV cs col = some i) (t : Int) (ht : typO cs col = some t) (q2 : (op.toList == [115, 117, 109]) = false) (q3 : (op.toList == [109, 105, 110]) = false) (q4 : (op.toList == [109, 97, 120]) = true) :
  Calls Tryz.prog 131 #[.agg #[.string op, .string col, .string nm], .slice SA n c] w fun e w' => e = .returned (.tuple #[.int .i64 t, .int .i64 0]) ∧ Touch [] w w' := by
 have Hc := Lib.hid fun w' (t : Touch [] w w') A (h : RdK btE w' A opsL) => containsS_any A 4 4 opsL rfl op w' h (by omega)
 have t0 := (Touch.refl [] w).alloc (.cells #[.string op, .string col, .string nm] 79)
 have hb0 := heap_alloc_new w (.cells #[.string op, .string col, .string nm] 79)
 have tb := t0.alloc (.cells #[.string ⟨#[99, 111, 117, 110, 116]⟩, .string ⟨#[115, 117, 109]⟩, .string ⟨#[109, 105, 110]⟩, .string ⟨#[109, 97, 120]⟩] 9)
 have hb1 := ((Touch.refl [] (w.alloc (.cells #[.string op, .string col, .string nm] 79))).alloc (.cells #[.string ⟨#[99, 111, 117, 110, 116]⟩, .string ⟨#[115, 117, 109]⟩, .string ⟨#[109, 105, 110]⟩, .string ⟨#[109, 97, 120]⟩] 9)).blk hb0 (by simp)
 have hrd := RdK.row (enc := btE) (w.alloc (.cells #[.string op, .string col, .string nm] 79)) 9 opsL #[.string ⟨#[99, 111, 117, 110, 116]⟩, .string ⟨#[115, 117, 109]⟩, .string ⟨#[109, 105, 110]⟩, .string ⟨#[109, 97, 120]⟩] rfl
 rw [World.size_alloc] at hrd
 have HB := Lib.hid (And.intro tb (And.intro hb1 hrd))
 have hfd := fun w' (t : Touch [] w w') => findC_any SA c n cs hn col w' (h.touch0 t) (by omega)
 rw [hp] at hfd
 have Hf := Lib.hid hfd
 have hil := placeV_lt hp
 obtain ⟨ad2, b2, o2, rfl, hadd2, _, e3⟩ := h.at_ i hil
 have hts : cs[i].typ = t := by
  unfold typO at ht; rw [hp] at ht; simpa [hil] using ht
 rw [hts] at e3
 have hi0 : (0 : Int) ≤ (i : Int) := by omega
 have hin : (i : Int) < (n : Int) := by omega
 have E3 := Lib.hid e3
 clear hts ht e3
 clear hp
 clear t0 hb0 tb hb1 hrd hfd hn h
 go_enter Tryz.func131, Tryz.ntmps131
 go_wp2_with fail
 refine (Hc.out _ HB.out.1 _ HB.out.2.2).mono ?_
 rintro e w1 ⟨rfl, t1⟩
 rw [HM.out]
 obtain ⟨d0, d1, d2, _, _, _⟩ := blk3 (t1.blk HB.out.2.1 (by simp))
 have HT := Lib.hid (And.intro (HB.out.1.trans0 t1) (t1.blk HB.out.2.1 (by simp)))
 clear t1
 go_wp2_with fail
 refine (Hf.out _ HT.out.1).mono ?_
 rintro e w2 ⟨rfl, t2⟩
 obtain ⟨f0, f1, f2, _, _, _⟩ := blk3 (t2.blk HT.out.2 (by simp))
 have e3' := (HT.out.1.trans0 t2).cell E3.out (by simp)
 have HT2 := Lib.hid (HT.out.1.trans0 t2)
 clear t2
 go_wp2
 go_ret2
 exact ⟨rfl, HT2.out⟩

set_option maxRecDepth 20000 in
set_option maxHeartbeats 3200000 in
theorem aggT_count (op col nm : ByteArray) (SA : Option Addr) (c n : Nat) (cs : List CD) (hn : cs.length = n) (hl : n ≤ 1000000) (w : World) (h : ColsAt w SA cs) (HM : Hid (memS opsL op = true)) (q5 : col.toList.isEmpty = false) (i : Nat) (hp : placeV cs col = some i) (t : Int) (ht : typO cs col = some t) (q2 : (op.toList == [115, 117, 109]) = false) (q3 : (op.toList == [109, 105, 110]) = false) (q4 : (op.toList == [109, 97, 120]) = false) :
  Calls Tryz.prog 131 #[.agg #[.string op, .string col, .string nm], .slice SA n c] w fun e w' => e = .returned (.tuple #[.int .i64 1, .int .i64 0]) ∧ Touch [] w w' := by
 have Hc := Lib.hid fun w' (t : Touch [] w w') A (h : RdK btE w' A opsL) => containsS_any A 4 4 opsL rfl op w' h (by omega)
 have t0 := (Touch.refl [] w).alloc (.cells #[.string op, .string col, .string nm] 79)
 have hb0 := heap_alloc_new w (.cells #[.string op, .string col, .string nm] 79)
 have tb := t0.alloc (.cells #[.string ⟨#[99, 111, 117, 110, 116]⟩, .string ⟨#[115, 117, 109]⟩, .string ⟨#[109, 105, 110]⟩, .string ⟨#[109, 97, 120]⟩] 9)
 have hb1 := ((Touch.refl [] (w.alloc (.cells #[.string op, .string col, .string nm] 79))).alloc (.cells #[.string ⟨#[99, 111, 117, 110, 116]⟩, .string ⟨#[115, 117, 109]⟩, .string ⟨#[109, 105, 110]⟩, .string ⟨#[109, 97, 120]⟩] 9)).blk hb0 (by simp)
 have hrd := RdK.row (enc := btE) (w.alloc (.cells #[.string op, .string col, .string nm] 79)) 9 opsL #[.string ⟨#[99, 111, 117, 110, 116]⟩, .string ⟨#[115, 117, 109]⟩, .string ⟨#[109, 105, 110]⟩, .string ⟨#[109, 97, 120]⟩] rfl
 rw [World.size_alloc] at hrd
 have HB := Lib.hid (And.intro tb (And.intro hb1 hrd))
 have hfd := fun w' (t : Touch [] w w') => findC_any SA c n cs hn col w' (h.touch0 t) (by omega)
 rw [hp] at hfd
 have Hf := Lib.hid hfd
 have hil := placeV_lt hp
 obtain ⟨ad2, b2, o2, rfl, hadd2, _, e3⟩ := h.at_ i hil
 have hts : cs[i].typ = t := by
  unfold typO at ht; rw [hp] at ht; simpa [hil] using ht
 rw [hts] at e3
 have hi0 : (0 : Int) ≤ (i : Int) := by omega
 have hin : (i : Int) < (n : Int) := by omega
 have E3 := Lib.hid e3
 clear hts ht e3
 clear hp
 clear t0 hb0 tb hb1 hrd hfd hn h
 go_enter Tryz.func131, Tryz.ntmps131
 go_wp2_with fail
 refine (Hc.out _ HB.out.1 _ HB.out.2.2).mono ?_
 rintro e w1 ⟨rfl, t1⟩
 rw [HM.out]
 obtain ⟨d0, d1, d2, _, _, _⟩ := blk3 (t1.blk HB.out.2.1 (by simp))
 have HT := Lib.hid (And.intro (HB.out.1.trans0 t1) (t1.blk HB.out.2.1 (by simp)))
 clear t1
 go_wp2_with fail
 refine (Hf.out _ HT.out.1).mono ?_
 rintro e w2 ⟨rfl, t2⟩
 obtain ⟨f0, f1, f2, _, _, _⟩ := blk3 (t2.blk HT.out.2 (by simp))
 have e3' := (HT.out.1.trans0 t2).cell E3.out (by simp)
 have HT2 := Lib.hid (HT.out.1.trans0 t2)
 clear t2
 go_wp2
 go_ret2
 exact ⟨rfl, HT2.out⟩


/-- the type and the error -/
def aggV (cs : List CD) (a : AG) : Int × Int :=
 if memS opsL a.op = false then (0, 20)
 else if a.col = ⟨#[]⟩ then (if a.op = opC then (1, 0) else (0, 20))
 else match typO cs a.col with
  | none => (0, 13)
  | some t => if a.op = opS ∧ t = 2 then (0, 12) else if a.op = opMi ∨ a.op = opMa then (t, 0) else (1, 0)
theorem lit_beq (x : ByteArray) (l : List UInt8) (b : ByteArray) (hb : b.data.toList = l) : (x.toList == l) = decide (x = b) := by
 rw [← hb, ← toList_B, bs_beq]
theorem isEmpty_bs (s : ByteArray) : s.toList.isEmpty = decide (s = ⟨#[]⟩) := by
 rw [toList_B]
 obtain ⟨⟨l⟩⟩ := s
 rcases l with _ | ⟨x, l⟩
 ·simp
 ·simp
theorem agg_any (a : AG) (SA : Option Addr) (c n : Nat) (cs : List CD) (hn : cs.length = n) (hl : n ≤ 1000000) (w : World) (h : ColsAt w SA cs) :
  Calls Tryz.prog 131 #[.agg #[.string a.op, .string a.col, .string a.name], .slice SA n c] w fun e w' => e = .returned (.tuple #[.int .i64 (aggV cs a).1, .int .i64 (aggV cs a).2]) ∧ Touch [] w w' := by
 obtain ⟨op, col, nm⟩ := a
 dsimp only
 rcases hm : memS opsL op with _ | _
 ·have e : aggV cs ⟨op, col, nm⟩ = (0, 20) := by unfold aggV; rw [if_pos hm]
  rw [e]
  exact aggT_form op col nm SA c n cs hn hl w h (Lib.hid hm)
 have hm' : ¬ memS opsL op = false := by rw [hm]; simp
 have e0 : aggV cs ⟨op, col, nm⟩ = (if col = ⟨#[]⟩ then (if op = opC then ((1, 0) : Int × Int) else (0, 20)) else match typO cs col with
  | none => (0, 13)
  | some t => if op = opS ∧ t = 2 then (0, 12) else if op = opMi ∨ op = opMa then (t, 0) else (1, 0)) := by unfold aggV; rw [if_neg hm']
 rw [e0]
 by_cases h5 : col = ⟨#[]⟩
 ·rw [if_pos h5]
  have q5 : col.toList.isEmpty = true := by rw [isEmpty_bs]; exact decide_eq_true h5
  by_cases h1 : op = opC
  ·rw [if_pos h1]
   exact aggT_rows op col nm SA c n cs hn hl w h (Lib.hid hm) q5 ((lit_beq op _ opC rfl).trans (decide_eq_true h1))
  ·rw [if_neg h1]
   exact aggT_form2 op col nm SA c n cs hn hl w h (Lib.hid hm) q5 ((lit_beq op _ opC rfl).trans (decide_eq_false h1))
 ·rw [if_neg h5]
  have q5 : col.toList.isEmpty = false := by rw [isEmpty_bs]; exact decide_eq_false h5
  rcases hp : placeV cs col with _ | i
  ·have ht : typO cs col = none := by unfold typO; rw [hp]; rfl
   rw [ht]
   exact aggT_name op col nm SA c n cs hn hl w h (Lib.hid hm) q5 hp
  ·obtain ⟨t, ht⟩ : ∃ t, typO cs col = some t := ⟨_, by unfold typO; rw [hp]; rfl⟩
   rw [ht]
   dsimp only
   by_cases h2 : op = opS
   ·have n3 : ¬ op = opMi := by rw [h2]; decide
    have n4 : ¬ op = opMa := by rw [h2]; decide
    by_cases h22 : t = 2
    ·rw [if_pos ⟨h2, h22⟩]
     exact aggT_text op col nm SA c n cs hn hl w h (Lib.hid hm) q5 i hp t ht ((lit_beq op _ opS rfl).trans (decide_eq_true h2)) h22
    ·rw [if_neg (fun q => h22 q.2), if_neg (fun q => q.elim n3 n4)]
     exact aggT_sum op col nm SA c n cs hn hl w h (Lib.hid hm) q5 i hp t ht ((lit_beq op _ opS rfl).trans (decide_eq_true h2)) ((lit_beq op _ opMi rfl).trans (decide_eq_false n3)) ((lit_beq op _ opMa rfl).trans (decide_eq_false n4)) h22
   ·rw [if_neg (fun q => h2 q.1)]
    have q2 : (op.toList == [115, 117, 109]) = false := (lit_beq op _ opS rfl).trans (decide_eq_false h2)
    by_cases h3 : op = opMi
    ·rw [if_pos (.inl h3)]
     exact aggT_min op col nm SA c n cs hn hl w h (Lib.hid hm) q5 i hp t ht q2 ((lit_beq op _ opMi rfl).trans (decide_eq_true h3))
    ·have q3 : (op.toList == [109, 105, 110]) = false := (lit_beq op _ opMi rfl).trans (decide_eq_false h3)
     by_cases h4 : op = opMa
     ·rw [if_pos (.inr h4)]
      exact aggT_max op col nm SA c n cs hn hl w h (Lib.hid hm) q5 i hp t ht q2 q3 ((lit_beq op _ opMa rfl).trans (decide_eq_true h4))
     ·rw [if_neg (fun q => q.elim h3 h4)]
      exact aggT_count op col nm SA c n cs hn hl w h (Lib.hid hm) q5 i hp t ht q2 q3 ((lit_beq op _ opMa rfl).trans (decide_eq_false h4))
end Go.Proofs.YtafoklilkdnepaaGreatDoor
