/- Part 19 of the texts of this proof, one behind the other; each begins with its own sentence. No condition beyond those that its theorems state. -/
import Derived.Test.YtafoklilkdnepaaGreatDoorRt18
/- bywashlaw05.smallPlan. For every plan. -/
namespace Go.Proofs.YtafoklilkdnepaaGreatDoor
open Go.RowKit

def smE (m : Nat) (e : TX m) : Bool := decide (sizeX m e ≤ 60)
def smallPl {m : Nat} (d : PD m) : Bool := d.exprs.all (smE m) && (decide (d.names.length ≤ 20) && (decide (d.exprs.length ≤ 20) && (decide (d.on.length ≤ 20) && (decide (d.aggs.length ≤ 20) && (decide (d.by_.length ≤ 20) && decide (sizeX m d.cond ≤ 60))))))
structure PD.Small {m : Nat} (d : PD m) : Prop where
  x : ∀ e ∈ d.exprs, sizeX m e ≤ 60
  n : d.names.length ≤ 20
  e : d.exprs.length ≤ 20
  o : d.on.length ≤ 20
  a : d.aggs.length ≤ 20
  b : d.by_.length ≤ 20
  c : sizeX m d.cond ≤ 60
theorem smallPl_true {m : Nat} {d : PD m} (h : smallPl d = true) : d.Small := by
  unfold smallPl at h
  simp only [Bool.and_eq_true, List.all_eq_true, decide_eq_true_eq] at h
  obtain ⟨h1, h2, h3, h4, h5, h6, h7⟩ := h
  exact ⟨fun e he => by simpa [smE] using h1 e he, h2, h3, h4, h5, h6, h7⟩
/-- numbers and lengths of a plan within bounds -/
structure PD.Ok {m : Nat} (d : PD m) : Prop where
  x : ∀ e ∈ d.exprs, sizeX m e ≤ 2000000
  n : d.names.length ≤ 2000000
  e : d.exprs.length ≤ 2000000
  o : d.on.length ≤ 2000000
  a : d.aggs.length ≤ 2000000
  b : d.by_.length ≤ 2000000
  c : sizeX m d.cond ≤ 2000000

set_option maxRecDepth 40000 in
set_option maxHeartbeats 6400000 in
theorem smallPlan_any (m : Nat) (x : PC) (d : PD m) (hd : d.Ok) (w : World) (h : PlanAt w x d) :
    Calls Tryz.prog 14 #[x.val] w fun e w' => e = .returned (.bool (smallPl d)) ∧ Touch [] w w' := by
  obtain ⟨-, -, hcd, hnn, -, hen, hex, hon, -, han, -, hbn, -, -⟩ := h
  obtain ⟨o1, o2, o3, o4, o5, o6, o7⟩ := hd
  have Ho1 := Lib.hid o1
  have HX := Lib.hid hex
  have Hcs := Lib.hid fun w' (t : Touch [] w w') => sizeX_any m d.cond x.cond w' (hcd.touch0 t) o7
  obtain ⟨V, hV⟩ : ∃ V, V = smallPl d := ⟨_, rfl⟩
  have HV := Lib.hid hV
  rw [← hV]
  obtain ⟨k0, k1, ⟨A2, n2, c2'⟩, ⟨⟨ck, cn, ⟨cvk, cvn, cvt⟩, cop⟩, CA, cnn, cc⟩, ⟨NA, nn, nc⟩, ⟨EA, en, ec⟩, ⟨OA, ol, oc⟩, ⟨GA, gn, gc⟩, ⟨BA, bn, bc⟩, count⟩ := x
  dsimp only at hnn hen hon han hbn HX
  subst hnn hen hon han hbn
  simp only [PC.val, XC.val] at Hcs ⊢
  obtain ⟨sz, hsz⟩ : ∃ sz, sz = sizeX m d.cond := ⟨_, rfl⟩
  rw [← hsz] at Hcs o7
  have Hsz := Lib.hid hsz
  clear hsz o1 hcd hex hV
  have hb0 := heap_alloc_new w (.cells #[.int .i64 k0, .string k1, .slice A2 n2 c2', .int .i64 ck, .string cn, .int .i64 cvk, .int .i64 cvn, .string cvt, .string cop, .slice CA cnn cc, .slice NA d.names.length nc, .slice EA d.exprs.length ec, .slice OA d.on.length oc, .slice GA d.aggs.length gc, .slice BA d.by_.length bc, .int .i64 count] 49)
  have t0 := (Touch.refl [] w).alloc (.cells #[.int .i64 k0, .string k1, .slice A2 n2 c2', .int .i64 ck, .string cn, .int .i64 cvk, .int .i64 cvn, .string cvt, .string cop, .slice CA cnn cc, .slice NA d.names.length nc, .slice EA d.exprs.length ec, .slice OA d.on.length oc, .slice GA d.aggs.length gc, .slice BA d.by_.length bc, .int .i64 count] 49)
  obtain ⟨W, hW⟩ : ∃ W, W = w.alloc (.cells #[.int .i64 k0, .string k1, .slice A2 n2 c2', .int .i64 ck, .string cn, .int .i64 cvk, .int .i64 cvn, .string cvt, .string cop, .slice CA cnn cc, .slice NA d.names.length nc, .slice EA d.exprs.length ec, .slice OA d.on.length oc, .slice GA d.aggs.length gc, .slice BA d.by_.length bc, .int .i64 count] 49) := ⟨_, rfl⟩
  rw [← hW] at hb0 t0
  have HW := Lib.hid hW
  have HB := Lib.hid hb0
  have HT0 := Lib.hid t0
  clear hb0 t0 hW
  go_enter Tryz.func14, Tryz.ntmps14
  go_wp2_with fail
  rw [← HW.out]
  go_loopw [8] (fun i wr => ∃ k : Nat, k ≤ d.exprs.length ∧ i = .int .i64 k ∧ Hid ((d.exprs.take k).all (smE m) = true) ∧ Hid (Touch [] W wr)) (fun i _ => d.exprs.length - (intOf i).toNat)
  case atStart => exact ⟨0, by omega, rfl, Lib.hid rfl, Lib.hid (Touch.refl _ _)⟩
  case round =>
    obtain ⟨k, hk, rfl, Hall, HT⟩ := hrel
    by_cases hlt : k < d.exprs.length
    · obtain ⟨ad, b, off, y, rfl, hadd, hy, hcell⟩ := (HX.out.touch0 (HT0.out.trans0 HT.out)).at_ xcE_length k hlt
      have hsy := Ho1.out _ (List.getElem_mem hlt)
      have hno := all_no (p := smE m) hlt
      have hyes := all_snoc (p := smE m) hlt Hall.out
      obtain ⟨e, he⟩ : ∃ e, e = d.exprs[k] := ⟨_, rfl⟩
      rw [← he] at hy hsy hno hyes
      have c0 := hcell 0 _ rfl; have c1 := hcell 1 _ rfl; have c2 := hcell 2 _ rfl; have c3 := hcell 3 _ rfl; have c4 := hcell 4 _ rfl; have c5 := hcell 5 _ rfl; have c6 := hcell 6 _ rfl
      rw [Nat.add_zero] at c0
      have ta := (Touch.refl [] wr).alloc (.cells #[.int .i64 y.nd.kind, .string y.nd.name, .int .i64 y.nd.v.kind, .int .i64 y.nd.v.num, .string y.nd.v.text, .string y.nd.op, .slice y.A y.n y.c] 44)
      have hc := Lib.hid (sizeX_any m e y _ (hy.touch0 ta) hsy)
      obtain ⟨q, hq⟩ : ∃ q, q = sizeX m e := ⟨_, rfl⟩
      rw [← hq] at hc hsy
      have Hno := Lib.hid fun h0 : 60 < q => hno (by unfold smE; rw [← hq]; simp; omega)
      have Hyes := Lib.hid fun h0 : q ≤ 60 => hyes (by unfold smE; rw [← hq]; simp; omega)
      have HTa := Lib.hid ta
      clear hno hyes he hcell hq ta hy Hall
      obtain ⟨⟨k2, nm2, ⟨vk2, vn2, vt2⟩, op2⟩, A3, m2, c3'⟩ := y
      simp only [XC.val] at hc c0 c1 c2 c3 c4 c5 c6
      have hkn : (k : Int) < (d.exprs.length : Int) := by omega
      by_cases h60 : 60 < q
      · have Hs := Lib.hid (show V = false by rw [HV.out]; unfold smallPl; rw [Hno.out h60]; rfl)
        have hq6 : (60 < (q : Int)) = True := eq_true (by omega)
        go_wp2_with fail
        refine hc.out.mono ?_
        rintro e w1 ⟨rfl, t1⟩
        go_wp2
        go_ret
        exact ⟨ret_bool (by rw [Hs.out]), (HT0.out.trans0 HT.out).trans0 (HTa.out.trans0 t1)⟩
      · have hq6 : (60 < (q : Int)) = False := eq_false (by omega)
        go_wp2_with fail
        refine hc.out.mono ?_
        rintro e w1 ⟨rfl, t1⟩
        have HT1 := Lib.hid (HT.out.trans0 (HTa.out.trans0 t1))
        clear t1
        go_wp2_with fail
        go_roundw
        case rel => exact ⟨k + 1, by omega, by go_num, Lib.hid (Hyes.out (by omega)), HT1⟩
        case measure => simp [intOf]; omega
    · obtain rfl : k = d.exprs.length := by omega
      have hall := Hall.out
      rw [List.take_length] at hall
      have HA := Lib.hid (show V = (decide (d.names.length ≤ 20) && (decide (d.exprs.length ≤ 20) && (decide (d.on.length ≤ 20) && (decide (d.aggs.length ≤ 20) && (decide (d.by_.length ≤ 20) && decide (sz ≤ 60)))))) by rw [HV.out, Hsz.out]; unfold smallPl; rw [hall, Bool.true_and])
      obtain ⟨p0, p1, p2, p3, p4, p5, p6, p7, p8, p9, p10, p11, p12, p13, p14, p15⟩ := blk16 (HT.out.blk HB.out (by simp))
      have Hc := Lib.hid (Hcs.out _ (HT0.out.trans0 HT.out))
      clear hall Hall Hcs HV
      by_cases g0 : d.names.length ≤ 20
      rotate_left
      · have Hs := Lib.hid (show V = false by rw [HA.out, decide_eq_false g0]; simp)
        have q0 : ((d.names.length : Int) ≤ 20) = False := eq_false (by omega)
        go_wp2
        go_ret
        exact ⟨ret_bool (by rw [Hs.out]), HT0.out.trans0 HT.out⟩
      by_cases g1 : d.exprs.length ≤ 20
      rotate_left
      · have Hs := Lib.hid (show V = false by rw [HA.out, decide_eq_true g0, decide_eq_false g1]; simp)
        have q1 : ((d.exprs.length : Int) ≤ 20) = False := eq_false (by omega)
        have q0 : ((d.names.length : Int) ≤ 20) = True := eq_true (by omega)
        go_wp2
        go_ret
        exact ⟨ret_bool (by rw [Hs.out]), HT0.out.trans0 HT.out⟩
      by_cases g2 : d.on.length ≤ 20
      rotate_left
      · have Hs := Lib.hid (show V = false by rw [HA.out, decide_eq_true g0, decide_eq_true g1, decide_eq_false g2]; simp)
        have q2 : ((d.on.length : Int) ≤ 20) = False := eq_false (by omega)
        have q0 : ((d.names.length : Int) ≤ 20) = True := eq_true (by omega)
        have q1 : ((d.exprs.length : Int) ≤ 20) = True := eq_true (by omega)
        go_wp2
        go_ret
        exact ⟨ret_bool (by rw [Hs.out]), HT0.out.trans0 HT.out⟩
      by_cases g3 : d.aggs.length ≤ 20
      rotate_left
      · have Hs := Lib.hid (show V = false by rw [HA.out, decide_eq_true g0, decide_eq_true g1, decide_eq_true g2, decide_eq_false g3]; simp)
        have q3 : ((d.aggs.length : Int) ≤ 20) = False := eq_false (by omega)
        have q0 : ((d.names.length : Int) ≤ 20) = True := eq_true (by omega)
        have q1 : ((d.exprs.length : Int) ≤ 20) = True := eq_true (by omega)
        have q2 : ((d.on.length : Int) ≤ 20) = True := eq_true (by omega)
        go_wp2
        go_ret
        exact ⟨ret_bool (by rw [Hs.out]), HT0.out.trans0 HT.out⟩
      by_cases g4 : d.by_.length ≤ 20
      rotate_left
      · have Hs := Lib.hid (show V = false by rw [HA.out, decide_eq_true g0, decide_eq_true g1, decide_eq_true g2, decide_eq_true g3, decide_eq_false g4]; simp)
        have q4 : ((d.by_.length : Int) ≤ 20) = False := eq_false (by omega)
        have q0 : ((d.names.length : Int) ≤ 20) = True := eq_true (by omega)
        have q1 : ((d.exprs.length : Int) ≤ 20) = True := eq_true (by omega)
        have q2 : ((d.on.length : Int) ≤ 20) = True := eq_true (by omega)
        have q3 : ((d.aggs.length : Int) ≤ 20) = True := eq_true (by omega)
        go_wp2
        go_ret
        exact ⟨ret_bool (by rw [Hs.out]), HT0.out.trans0 HT.out⟩
      have Hs := Lib.hid (show V = decide (sz ≤ 60) by rw [HA.out, decide_eq_true g0, decide_eq_true g1, decide_eq_true g2, decide_eq_true g3, decide_eq_true g4]; simp)
      have q0 : ((d.names.length : Int) ≤ 20) = True := eq_true (by omega)
      have q1 : ((d.exprs.length : Int) ≤ 20) = True := eq_true (by omega)
      have q2 : ((d.on.length : Int) ≤ 20) = True := eq_true (by omega)
      have q3 : ((d.aggs.length : Int) ≤ 20) = True := eq_true (by omega)
      have q4 : ((d.by_.length : Int) ≤ 20) = True := eq_true (by omega)
      go_wp2_with fail
      refine Hc.out.mono ?_
      rintro e w1 ⟨rfl, t1⟩
      go_wp2
      go_ret
      exact ⟨ret_bool (by rw [Hs.out, Bool.eq_iff_iff, decide_eq_true_eq, decide_eq_true_eq]; omega), (HT0.out.trans0 HT.out).trans0 t1⟩
end Go.Proofs.YtafoklilkdnepaaGreatDoor

/- bywashlaw05.refSchema: columns turned to the reference's type. For every slice of columns. -/
namespace Go.Proofs.YtafoklilkdnepaaGreatDoor
open Go.RowKit

theorem info_rcol5 : (Tryz.prog.info? 146).map (fun i => (i.zero, i.size, i.bytes)) = some (some (.agg #[.string ⟨#[]⟩, .int .i64 0]), 2, 24) := by kernel_rfl
set_option maxHeartbeats 1600000 in
theorem refSch_any (A : Option Addr) (cap n : Nat) (cs : List CD) (hn : cs.length = n) (w : World) (h : ColsAt w A cs) (hl : n ≤ 100000000) :
    Calls Tryz.prog 56 #[.slice A n cap] w fun e w' => ∃ A' c', e = .returned (.slice A' n c') ∧ Made 146 2 cdE cs A' c' w w' := by
  subst hn
  go_enter Tryz.func56, Tryz.ntmps56
  go_wp2
  go_loopw [3, 8] (fun v i wr => ∃ (k : Nat) (A' : Option Addr) (c' : Nat), k ≤ cs.length ∧ i = .int .i64 k ∧ v = .slice A' k c' ∧ Made 146 2 cdE (cs.take k) A' c' w wr) (fun _ i _ => cs.length - (intOf i).toNat)
  case atStart => exact ⟨0, none, 0, by omega, rfl, rfl, Made.nil _ _ _ _⟩
  case round =>
    obtain ⟨k, A', c', hk, rfl, rfl, hmd⟩ := hrel
    have ht := hmd.t
    by_cases hlt : k < cs.length
    · obtain ⟨ad, b, off, rfl, hadd, c0, c1⟩ := (h.touch0 ht).at_ k hlt
      have hsn := List.take_succ_eq_append_getElem hlt
      obtain ⟨c, hce⟩ : ∃ c, c = cs[k] := ⟨_, rfl⟩
      rw [← hce] at c0 c1 hsn
      have Hsn := Lib.hid hsn; have Hlen := Lib.hid (show (cs.take k).length = k by rw [List.length_take]; omega)
      clear hce hsn
      go_wp2_with (at_builtin; refine stop ?_)
      refine go ?_
      have tb := ((Touch.refl [] wr).alloc (.cells #[.string c.name, .int .i64 c.typ] 29)).alloc (.cells #[.string c.name, .int .i64 c.typ] 146)
      refine wpList_appK rfl (.tmp 12) (.tmp 18) 109 rfl 146 _ 2 24 info_rcol5 Tryz.underlying109 rfl (by omega) cdE_length cdE_one A' k c' (cs.take k) Hlen.out rfl (hmd.own.touch0 tb)
        (some ⟨wr.heap.size + 1, 0, none⟩) 1 1 [c] rfl rfl (by have := RdK.one (enc := cdE) (wr.alloc (.cells #[.string c.name, .int .i64 c.typ] 29)) 146 c #[.string c.name, .int .i64 c.typ] rfl; rwa [World.size_alloc] at this) (by omega) (by omega) ?_
      intro A3 c3 w3 hown3 ht3 hf3
      go_wp2
      go_roundw
      case rel => exact ⟨k + 1, A3, c3, by omega, by go_num, rfl, by rw [Hsn.out]; exact (hmd.touch0 tb).step hown3 ht3 hf3⟩
      case measure => simp [intOf]; omega
    · obtain rfl : k = cs.length := by omega
      rw [List.take_length] at hmd
      go_wp2
      go_ret
      exact ⟨A', c', rfl, hmd⟩
end Go.Proofs.YtafoklilkdnepaaGreatDoor

/- bywashlaw05.refRows: rows turned to the reference's type. For all rows. -/
namespace Go.Proofs.YtafoklilkdnepaaGreatDoor
open Go.RowKit

theorem info_rval5 : (Tryz.prog.info? 130).map (fun i => (i.zero, i.size, i.bytes)) = some (some (.agg #[.int .i64 0, .int .i64 0, .string ⟨#[]⟩]), 3, 32) := by kernel_rfl
theorem info_rrow5 : (Tryz.prog.info? 105).map (fun i => (i.zero, i.size, i.bytes)) = some (some (.slice none 0 0), 1, 24) := by kernel_rfl

set_option maxRecDepth 20000 in
set_option maxHeartbeats 6400000 in
theorem refRows_any (A : Option Addr) (c n : Nat) (rows : List (List VD)) (hn : rows.length = n) (hl : n ≤ 1000000) (hr : RowsLe rows) (w : World) (h : RowsAt w A rows) :
    Calls Tryz.prog 42 #[.slice A n c] w fun e w' => ∃ B c', e = .returned (.slice B n c') ∧ OwnR 105 w.heap.size w' B c' rows ∧ Touch [] w w' ∧ ∀ b ∈ fpo B, w.heap.size ≤ b := by
  subst hn
  have HR := Lib.hid h
  clear h
  go_enter Tryz.func42, Tryz.ntmps42
  go_wp2_with fail
  go_loopw [3, 11] (fun o i wr => ∃ (k : Nat) (B : Option Addr) (c2 : Nat), k ≤ rows.length ∧ i = .int .i64 k ∧ o = .slice B k c2 ∧ Hid (OwnR 105 w.heap.size wr B c2 (rows.take k)) ∧ Hid (Touch [] w wr) ∧ Hid (∀ b ∈ fpo B, w.heap.size ≤ b)) (fun _ i _ => rows.length - (intOf i).toNat)
  case atStart => exact ⟨0, none, 0, by omega, rfl, rfl, Lib.hid (OwnR.nil _ _ _), Lib.hid (Touch.refl _ _), Lib.hid (by simp [fpo])⟩
  case round =>
    obtain ⟨k, B, c2, hk, rfl, rfl, HO, HT, HF⟩ := hrel
    by_cases hlt : k < rows.length
    · obtain ⟨bd, A1, c1, rfl, e0, hr1⟩ := (HR.out.touch0 HT.out).at_ k hlt
      have hl1 := hr _ (List.getElem_mem hlt)
      have htk := List.take_succ_eq_append_getElem hlt
      obtain ⟨r, hre⟩ : ∃ r, r = rows[k] := ⟨_, rfl⟩
      rw [← hre] at e0 hr1 hl1 htk
      have Htk := Lib.hid htk
      have HR1 := Lib.hid hr1
      have hkn : (k : Int) < (rows.length : Int) := by omega
      clear hre htk hr1
      go_wp2_with fail
      go_loopw [6, 17] (fun v i wx => ∃ (j : Nat) (A' : Option Addr) (c' : Nat), j ≤ r.length ∧ i = .int .i64 j ∧ v = .slice A' j c' ∧ Hid (Made 130 3 vdE (r.take j) A' c' wr wx)) (fun _ i _ => r.length - (intOf i).toNat)
      case atStart => exact ⟨0, none, 0, by omega, rfl, rfl, Lib.hid (Made.nil _ _ _ _)⟩
      case round =>
        obtain ⟨j, A', c', hj, rfl, rfl, HM⟩ := hrel
        by_cases hltj : j < r.length
        · obtain ⟨ad, b, off, rfl, hadd, d0, d1, d2⟩ := (HR1.out.touch0 HM.out.t).at_ j hltj
          have hsn := List.take_succ_eq_append_getElem hltj
          obtain ⟨v, hve⟩ : ∃ v, v = r[j] := ⟨_, rfl⟩
          rw [← hve] at d0 d1 d2 hsn
          have Hsn := Lib.hid hsn; have Hlen := Lib.hid (show (r.take j).length = j by rw [List.length_take]; omega)
          clear hve hsn
          go_wp2_with (at_builtin; refine stop ?_)
          refine go ?_
          have tb := ((Touch.refl [] wr).alloc (.cells #[.int .i64 v.kind, .int .i64 v.num, .string v.text] 31)).alloc (.cells #[.int .i64 v.kind, .int .i64 v.num, .string v.text] 130)
          refine wpList_appK rfl (.tmp 21) (.tmp 29) 105 rfl 130 _ 3 32 info_rval5 Tryz.underlying105 rfl (by omega) vdE_length vdE_one A' j c' (r.take j) Hlen.out rfl (HM.out.own.touch0 tb)
            (some ⟨wr.heap.size + 1, 0, none⟩) 1 1 [v] rfl rfl (by have := RdK.one (enc := vdE) (wr.alloc (.cells #[.int .i64 v.kind, .int .i64 v.num, .string v.text] 31)) 130 v #[.int .i64 v.kind, .int .i64 v.num, .string v.text] rfl; rwa [World.size_alloc] at this) (by omega) (by omega) ?_
          intro A3 c3 w3 hown3 ht3 hf3
          have HX := Lib.hid ((HM.out.touch0 tb).step hown3 ht3 hf3)
          clear hown3 ht3 hf3 tb
          go_wp2_with fail
          go_roundw
          case rel => exact ⟨j + 1, A3, c3, by omega, by go_num, rfl, Lib.hid (by rw [Hsn.out]; exact HX.out)⟩
          case measure => simp [intOf]; omega
        · obtain rfl : j = r.length := by omega
          have HM2 : Hid (Made 130 3 vdE r A' c' _ wr) := Lib.hid (by have := HM.out; rwa [List.take_length] at this)
          clear HM
          go_wp2_with (at_builtin; refine stop ?_)
          refine go ?_
          have hB := HO.out.lt
          have hsz := HM2.out.t.size
          refine wpList_appR rfl (.tmp 32) (.tmp 34) 66 rfl 105 info_rrow5 Tryz.underlying66 w.heap.size B k c2 (rows.take k) (by rw [List.length_take]; omega) rfl (HO.out.touch0 HM2.out.t) A' c' r HM2.out.own.rd
            (fun b hb => ⟨fun q => by have := hB b q; have := HM2.out.f b hb; omega, HM2.out.own.lt b hb, by have := HM2.out.f b hb; have := HT.out.size; omega⟩) 1 rfl (by omega) rfl ?_
          intro B' c3 w' hown ht hf
          have HX := Lib.hid (And.intro hown (And.intro ht hf))
          clear hown ht hf
          go_wp2_with fail
          go_roundw
          case rel =>
            obtain ⟨hown, ht, hf⟩ := HX.out
            refine ⟨k + 1, B', c3, by omega, by go_num, rfl, Lib.hid (by rw [Htk.out]; exact hown), Lib.hid (((HT.out.trans0 HM2.out.t).alloc _).trans ht (fun b hb => .inr (HF.out b hb))), Lib.hid (fun b hb => ?_)⟩
            rcases hf b hb with q | q
            · exact HF.out b q
            · have := HT.out.size; omega
          case measure => simp [intOf]; omega
    · obtain rfl : k = rows.length := by omega
      have HO2 : Hid (OwnR 105 w.heap.size wr B c2 rows) := Lib.hid (by have := HO.out; rwa [List.take_length] at this)
      clear HO
      go_wp2
      go_ret
      exact ⟨B, c2, rfl, HO2.out, HT.out, HF.out⟩
end Go.Proofs.YtafoklilkdnepaaGreatDoor

/- bywashref02.Name: is it a right name? For every text. -/
namespace Go.Proofs.YtafoklilkdnepaaGreatDoor
open Go.RowKit

set_option maxRecDepth 20000 in
set_option maxHeartbeats 1600000 in
theorem refName_any (t : List UInt8) (hs : t.length ≤ 140737000000000) (w : World) :
    Calls Tryz.prog 113 #[.string (S t)] w fun e w' => e = .returned (.bool (nameV t)) ∧ w = w' := by
  have hsz := S_size t
  go_enter Tryz.func113, Tryz.ntmps113
  go_wp2
  go_loop [3] (fun i => ∃ k : Nat, k ≤ t.length ∧ i = .int .i64 k ∧ Hid ((t.take k).all innB = true ∧ (0 < k → ∃ x, t[0]? = some x ∧ letB x = true))) (fun i => t.length - (intOf i).toNat)
  case atStart => exact ⟨0, by omega, rfl, Lib.hid ⟨rfl, fun h => by omega⟩⟩
  case round =>
    obtain ⟨k, hk, rfl, hall⟩ := hrel
    by_cases hlt : k < t.length
    · obtain ⟨x, hx⟩ : ∃ x, x = t[k] := ⟨_, rfl⟩
      have hg := S_get t k (by rw [hsz]; exact hlt)
      rw [← hx] at hg
      have hxl := x.toNat_lt
      have hgood : innB x = true → (k = 0 → letB x = true) → (t.take (k + 1)).all innB = true ∧ (0 < k + 1 → ∃ x, t[0]? = some x ∧ letB x = true) := fun h1 h2 => by
        refine ⟨by rw [List.take_succ_eq_append_getElem hlt, List.all_append, hall.out.1, ← hx]; simp [h1], fun _ => ?_⟩
        rcases Nat.eq_zero_or_pos k with e | e
        · subst e; exact ⟨x, by rw [hx]; exact List.getElem?_eq_getElem hlt, h2 rfl⟩
        · exact hall.out.2 e
      have hbad : innB x = false → nameV t = false := fun h => nameV_bad hlt (by rw [← hx]; exact h)
      have hbad0 : k = 0 → letB x = false → nameV t = false := fun e h => by
        subst e
        cases t with
        | nil => rfl
        | cons c r =>
          have e : x = c := hx
          rw [nameV_cons, ← e, h, Bool.false_and, Bool.and_false]
      have Hg := Lib.hid hgood; have Hb := Lib.hid hbad; have Hb0 := Lib.hid hbad0
      clear hgood hbad hbad0 hx
      have hkk : (k : Int) < t.length := by omega
      have Hlv := Lib.hid (letB_int x); have Hiv := Lib.hid (innB_int x)
      by_cases hsm : 97 ≤ x.toNat ∧ x.toNat ≤ 122
      · obtain ⟨hs1, hs2⟩ := hsm
        have Hl : Hid (letB x = true) := Lib.hid (by simp [letB, hs1, hs2])
        go_wp2
        go_round
        case rel => exact ⟨k + 1, by omega, by go_num, Lib.hid (Hg.out (by simp [innB, Hl.out]) (fun _ => Hl.out))⟩
        case measure => simp [intOf]; omega
      have Hl : Hid (letB x = false) := Lib.hid (by simp [letB]; omega)
      have hdd : 122 < x.toNat → decide ((x.toNat : Int) ≤ 122) = false := fun h => decide_eq_false (by omega)
      have Hdd := Lib.hid hdd; clear hdd
      by_cases hk0 : k = 0
      · subst hk0
        have Hn := Lib.hid (Hb0.out rfl Hl.out)
        rcases (show x.toNat < 97 ∨ (97 ≤ x.toNat ∧ 122 < x.toNat) by omega) with hs1 | ⟨hs1, hs2⟩
        · go_wp2
          go_ret
          exact ⟨ret_bool Hn.out.symm, rfl⟩
        · have hd2 := Hdd.out hs2
          go_wp2
          go_ret
          exact ⟨ret_bool Hn.out.symm, rfl⟩
      · have hkz : ((k : Int) == 0) = false := by rw [beq_eq_false_iff_ne]; omega
        by_cases hi : innB x = true
        · have Hi := Lib.hid hi; clear hi
          have hcase : x.toNat = 95 ∨ (x.toNat ≠ 95 ∧ 48 ≤ x.toNat ∧ x.toNat ≤ 57) := by
            have h1 := Hi.out
            rw [Hiv.out, Hl.out] at h1
            simp at h1
            omega
          rcases hcase with h95 | ⟨h95, h48, h57⟩
          · have hq : ((x.toNat : Int) == 95) = true := by rw [h95]; rfl
            have hq' : ((x.toNat : Int) != 95) = false := by rw [h95]; rfl
            clear h95
            rcases (show x.toNat < 97 ∨ (97 ≤ x.toNat ∧ 122 < x.toNat) by omega) with hs1 | ⟨hs1, hs2⟩
            · go_wp2
              go_round
              case rel => exact ⟨k + 1, by omega, by go_num, Lib.hid (Hg.out Hi.out (fun e => absurd e hk0))⟩
              case measure => simp [intOf]; omega
            · have hd2 := Hdd.out hs2
              go_wp2
              go_round
              case rel => exact ⟨k + 1, by omega, by go_num, Lib.hid (Hg.out Hi.out (fun e => absurd e hk0))⟩
              case measure => simp [intOf]; omega
          · have hq : ((x.toNat : Int) == 95) = false := by rw [beq_eq_false_iff_ne]; omega
            have hq' : ((x.toNat : Int) != 95) = true := by rw [bne, hq]; rfl
            rcases (show x.toNat < 97 ∨ (97 ≤ x.toNat ∧ 122 < x.toNat) by omega) with hs1 | ⟨hs1, hs2⟩
            · go_wp2
              go_round
              case rel => exact ⟨k + 1, by omega, by go_num, Lib.hid (Hg.out Hi.out (fun e => absurd e hk0))⟩
              case measure => simp [intOf]; omega
            · omega
        · have Hn := Lib.hid (Hb.out (by simpa using hi))
          have Hi := Lib.hid hi; clear hi
          have h95 : x.toNat ≠ 95 ∧ (x.toNat < 48 ∨ 57 < x.toNat) := by
            have h1 := Hi.out
            rw [Hiv.out, Hl.out] at h1
            simp at h1; omega
          have hq : ((x.toNat : Int) == 95) = false := by rw [beq_eq_false_iff_ne]; omega
          have hq' : ((x.toNat : Int) != 95) = true := by rw [bne, hq]; rfl
          rcases h95 with ⟨_, h48 | h57⟩
          · go_wp2
            all_goals
              go_ret
              exact ⟨ret_bool Hn.out.symm, rfl⟩
          · rcases (show x.toNat < 97 ∨ (97 ≤ x.toNat ∧ 122 < x.toNat) by omega) with hs1 | ⟨hs1, hs2⟩
            · go_wp2
              go_ret
              exact ⟨ret_bool Hn.out.symm, rfl⟩
            · have hd2 := Hdd.out hs2
              go_wp2
              go_ret
              exact ⟨ret_bool Hn.out.symm, rfl⟩
    · obtain rfl : k = t.length := by omega
      have hall2 := hall.out
      rw [List.take_length] at hall2
      have hn : nameV t = (decide (1 ≤ (t.length : Int)) && decide ((t.length : Int) ≤ 16)) := by
        cases t with
        | nil => rfl
        | cons c r =>
          obtain ⟨x, hx, hl⟩ := hall2.2 (by simp)
          obtain rfl : c = x := by simpa using hx
          rw [nameV_cons, hall2.1, hl, Bool.eq_iff_iff]; simp; omega
      have Hn := Lib.hid hn; clear hn hall2 hall
      go_wp2
      all_goals
        go_ret
        exact ⟨ret_bool (by rw [Hn.out, Bool.eq_iff_iff]; simp; omega), rfl⟩
end Go.Proofs.YtafoklilkdnepaaGreatDoor

/- bywashref02.Check: is a schema right, as the document says? For every schema. -/
namespace Go.Proofs.YtafoklilkdnepaaGreatDoor
open Go.RowKit

theorem refName_anyB (s : ByteArray) (hs : s.size ≤ 140737000000000) (w : World) :
    Calls Tryz.prog 113 #[.string s] w fun e w' => e = .returned (.bool (nameV s.data.toList)) ∧ w = w' := by
  have := refName_any s.data.toList (by rw [size_toList]; exact hs) w
  rwa [S_of] at this

set_option maxRecDepth 20000 in
set_option maxHeartbeats 1600000 in
theorem refCheck_any (A : Option Addr) (cap n : Nat) (cs : List CD) (hn : cs.length = n) (hok : ∀ c ∈ cs, c.Ok) (w : World) (h : ColsAt w A cs) (hl : n ≤ 140737000000000) :
    Calls Tryz.prog 82 #[.slice A n cap] w fun e w' => e = .returned (.int .i64 (checkV cs)) ∧ Touch [] w w' := by
  subst hn
  by_cases h0 : cs.length < 1 ∨ 16 < cs.length
  · have hc : checkV cs = 31 := by unfold checkV; rw [if_pos h0]
    have Hc := Lib.hid hc; clear hc
    rcases h0 with h0 | h0
    · go_enter Tryz.func82, Tryz.ntmps82
      go_wp2
      go_ret
      exact ⟨ret_int Hc.out.symm, Touch.refl _ _⟩
    · go_enter Tryz.func82, Tryz.ntmps82
      go_wp2
      go_ret
      exact ⟨ret_int Hc.out.symm, Touch.refl _ _⟩
  · have h1 : 1 ≤ cs.length := by omega
    have h16 : cs.length ≤ 16 := by omega
    have hc : checkV cs = chkL (cs.take 0) (cs.drop 0) := by unfold checkV; rw [if_neg h0]; rfl
    have Hc := Lib.hid hc; clear hc h0
    go_enter Tryz.func82, Tryz.ntmps82
    go_wp2
    go_loopw [3] (fun i wr => ∃ k : Nat, k ≤ cs.length ∧ i = .int .i64 k ∧ Hid (checkV cs = chkL (cs.take k) (cs.drop k)) ∧ Touch [] w wr) (fun i _ => cs.length - (intOf i).toNat)
    case atStart => exact ⟨0, by omega, rfl, Hc, Touch.refl _ _⟩
    case round =>
      clear Hc
      obtain ⟨k, hk, rfl, Hc, ht⟩ := hrel
      by_cases hlt : k < cs.length
      · obtain ⟨ad, b, off, rfl, hadd, c0, c1⟩ := (h.touch0 ht).at_ k hlt
        have hcok := hok _ (List.getElem_mem hlt)
        have hst := chk_step hlt
        obtain ⟨c, hce⟩ : ∃ c, c = cs[k] := ⟨_, rfl⟩
        rw [← hce] at c0 c1 hst hcok
        have Hst := Lib.hid (Hc.out.trans hst)
        have Hce := Lib.hid hce
        clear hst Hc hce
        obtain ⟨hcn, hct1, hct2⟩ := hcok
        have hname := refName_anyB c.name hcn wr
        rcases hnv : nameV c.name.data.toList with _ | _
        · rw [hnv] at hname
          have Hname := Lib.hid hname; clear hname
          have he : errC (cs.take k) c = 13 := by unfold errC; rw [if_pos hnv]
          have He := Lib.hid (show checkV cs = 13 by rw [Hst.out, he]; rfl); clear he hnv
          go_wp2_with (go_at_call 113; refine Hname.out.mono ?_; rintro e w1 ⟨rfl, rfl⟩)
          go_ret
          exact ⟨ret_int He.out.symm, ht⟩
        · rw [hnv] at hname
          have Hname := Lib.hid hname; clear hname
          by_cases hty : c.typ ≠ 1 ∧ c.typ ≠ 2
          · have he : errC (cs.take k) c = 12 := by unfold errC; rw [if_neg (by rw [hnv]; simp), if_pos hty]
            have He := Lib.hid (show checkV cs = 12 by rw [Hst.out, he]; rfl); clear he hnv
            obtain ⟨q1, q2⟩ := hty
            have q1b : (c.typ == 1) = false := by rw [beq_eq_false_iff_ne]; exact q1
            have q2b : (c.typ == 2) = false := by rw [beq_eq_false_iff_ne]; exact q2
            have q1n : (c.typ != 1) = true := by rw [bne, q1b]; rfl
            have q2n : (c.typ != 2) = true := by rw [bne, q2b]; rfl
            go_wp2_with (go_at_call 113; refine Hname.out.mono ?_; rintro e w1 ⟨rfl, rfl⟩)
            go_ret
            exact ⟨ret_int He.out.symm, ht⟩
          · have hty2 : c.typ = 1 ∨ c.typ = 2 := by omega
            have Htyn := Lib.hid hty
            have Hnv := Lib.hid hnv
            clear hty hnv
            have c1' := c1
            rcases hty2 with q | q
            all_goals
              rw [q] at c1
              clear q c1'
              go_wp2_with (go_at_call 113; refine Hname.out.mono ?_; rintro e w1 ⟨rfl, rfl⟩)
              obtain ⟨wo, hwo⟩ : ∃ wo : World, wo = wr := ⟨_, rfl⟩
              clear Hname
              go_loopw [4] (fun i wr2 => ∃ j : Nat, j ≤ k ∧ i = .int .i64 j ∧ (∀ m (hm : m < j), cs[m]?.map (·.name) ≠ some c.name) ∧ Touch [] w wr2) (fun i _ => k - (intOf i).toNat)
              case atStart => exact ⟨0, by omega, rfl, fun m hm => absurd hm (by omega), ht⟩
              case round =>
                obtain ⟨j, hj, rfl, hno, ht2⟩ := hrel
                by_cases hjk : j < k
                · obtain ⟨ad2, b2, off2, e2, hadd2, e0, _⟩ := (h.touch0 ht2).at_ j (by omega)
                  obtain rfl : ad = ad2 := by injection e2
                  obtain ⟨ad3, b3, off3, e3, hadd3, f0, _⟩ := (h.touch0 ht2).at_ k hlt
                  obtain rfl : ad = ad3 := by injection e3
                  rw [hadd] at hadd3
                  cases hadd3
                  rw [← Hce.out] at f0
                  obtain ⟨d, hde⟩ : ∃ d, d = cs[j] := ⟨_, rfl⟩
                  rw [← hde] at e0
                  have Hde := Lib.hid hde
                  have hjkI : (j : Int) < (k : Int) := by omega
                  have hj0I : (0 : Int) ≤ (j : Int) := by omega
                  have hk0I : (0 : Int) ≤ (k : Int) := by omega
                  have hjlI : (j : Int) < (cs.length : Int) := by omega
                  have hklI : (k : Int) < (cs.length : Int) := by omega
                  have hno' := Lib.hid hno
                  clear hde e2 e3 hno c0 c1
                  have hbq := bs_beq d.name c.name
                  by_cases hdc : d.name = c.name
                  · have hany : ((cs.take k).any fun d => decide (d.name = c.name)) = true := List.any_eq_true.2 ⟨d, by
                      rw [List.mem_iff_getElem?]; exact ⟨j, by rw [List.getElem?_take, if_pos hjk, Hde.out]; exact List.getElem?_eq_getElem _⟩, by simpa using hdc⟩
                    have he : errC (cs.take k) c = 14 := by unfold errC; rw [if_neg (by rw [Hnv.out]; simp), if_neg Htyn.out, if_pos hany]
                    have He := Lib.hid (show checkV cs = 14 by rw [Hst.out, he]; rfl)
                    rw [decide_eq_true hdc] at hbq
                    clear he hany hdc
                    go_wp2
                    go_quiet (fail)
                    go_wp2
                    go_ret
                    exact ⟨ret_int He.out.symm, ht2.drewN _⟩
                  · rw [decide_eq_false hdc] at hbq
                    have Hdc := Lib.hid hdc
                    clear hdc
                    go_wp2
                    go_quiet (fail)
                    go_wp2
                    go_roundw
                    case rel => exact ⟨j + 1, by omega, by go_num, fun m hm => by
                      by_cases hmj : m < j
                      · exact hno'.out m hmj
                      · obtain rfl : m = j := by omega
                        rw [List.getElem?_eq_getElem (by omega), ← Hde.out]
                        simpa using Hdc.out, ht2.drewN _⟩
                    case measure => simp [intOf]; omega
                · obtain rfl : j = k := by omega
                  have hany : ¬ ((cs.take j).any fun d => decide (d.name = c.name)) = true := fun ha => by
                    obtain ⟨d, hd, hde⟩ := List.any_eq_true.1 ha
                    obtain ⟨m, hm⟩ := List.mem_iff_getElem?.1 hd
                    rw [List.getElem?_take] at hm
                    split at hm
                    · rename_i hmj
                      exact hno m hmj (by rw [hm]; simpa using hde)
                    · cases hm
                  have he : errC (cs.take j) c = 0 := by unfold errC; rw [if_neg (by rw [Hnv.out]; simp), if_neg Htyn.out, if_neg hany]
                  have He := Lib.hid (show checkV cs = chkL (cs.take (j + 1)) (cs.drop (j + 1)) by rw [Hst.out, he]; rfl)
                  clear he hany hno hwo
                  go_wp2
                  go_roundw
                  case rel => exact ⟨j + 1, by omega, by go_num, He, ht2⟩
                  case measure => simp [intOf]; omega
      · obtain rfl : k = cs.length := by omega
        have He := Lib.hid (show checkV cs = 0 by rw [Hc.out, List.drop_length]; rfl)
        go_wp2
        go_ret
        exact ⟨ret_int He.out.symm, ht⟩
end Go.Proofs.YtafoklilkdnepaaGreatDoor

/- bywashref01.Right; rows turned to the reference's type. For every row. -/
namespace Go.Proofs.YtafoklilkdnepaaGreatDoor
open Go.RowKit

theorem empty_size (s : ByteArray) : s.toList.isEmpty = decide (s.size = 0) := by
  rw [toList_B, Bool.eq_iff_iff, List.isEmpty_iff, decide_eq_true_eq, ← size_toList, List.length_eq_zero_iff]

set_option maxRecDepth 20000 in
set_option maxHeartbeats 1600000 in
theorem refRight_any (v : VD) (hs : v.text.size ≤ 140737000000000) (w : World) :
    Calls Tryz.prog 114 #[v.val] w fun e w' => e = .returned (.bool v.right) ∧ Touch [] w w' := by
  obtain ⟨kd, num, text⟩ := v
  obtain ⟨t, rfl⟩ : ∃ t, text = S t := ⟨_, (S_of _).symm⟩
  have hsz := S_size t
  simp only at hs
  rw [hsz] at hs
  have t0 := (Touch.refl [] w).alloc (.cells #[.int .i64 kd, .int .i64 num, .string (S t)] 130)
  have he := empty_size (S t)
  rw [hsz] at he
  have hr : VD.right ⟨kd, num, S t⟩ = (if kd = 0 then decide (num = 0) && decide (t.length = 0) else if kd = 1 then decide (t.length = 0) else if kd = 2 then decide (num = 0) && plainV t else false) := by
    unfold VD.right
    simp only [he]
    rw [S_toList]
  have Hr := Lib.hid hr
  clear hr he
  have hbad : ∀ (b : Bool), VD.right ⟨kd, num, S t⟩ = b → ∀ w', Touch [] w w' → (Ending.returned (.bool b) = Ending.returned (.bool (VD.right ⟨kd, num, S t⟩)) ∧ Touch [] w w') := fun b hb w' ht => ⟨by rw [hb], ht⟩
  have Hb := Lib.hid hbad; clear hbad
  dsimp only [VD.val] at *
  by_cases hk : kd < 0 ∨ 2 < kd
  · have Hf := Lib.hid (Hb.out false (by rw [Hr.out, if_neg (by omega), if_neg (by omega), if_neg (by omega)]) _ t0)
    rcases hk with hk | hk
    · go_enter Tryz.func114, Tryz.ntmps114
      go_wp2
      go_ret
      exact Hf.out
    · go_enter Tryz.func114, Tryz.ntmps114
      go_wp2
      go_ret
      exact Hf.out
  by_cases hk1 : kd ≠ 1 ∧ num ≠ 0
  · have Hf := Lib.hid (Hb.out false (by
      rw [Hr.out]
      have := hk1.2
      split
      · simp [this]
      · rw [if_neg hk1.1]; split <;> simp [this]) _ t0)
    have q1 : (kd == 1) = false := by rw [beq_eq_false_iff_ne]; exact hk1.1
    have q1' : (kd != 1) = true := by rw [bne, q1]; rfl
    have q2 : (num == 0) = false := by rw [beq_eq_false_iff_ne]; exact hk1.2
    have q2' : (num != 0) = true := by rw [bne, q2]; rfl
    clear hk1
    go_enter Tryz.func114, Tryz.ntmps114
    go_wp2
    go_ret
    exact Hf.out
  by_cases hk2 : kd ≠ 2 ∧ 0 < t.length
  · have Hf := Lib.hid (Hb.out false (by
      rw [Hr.out]
      have h0 : decide (t.length = 0) = false := decide_eq_false (by omega)
      rw [h0, if_neg hk2.1]
      split
      · simp
      · split <;> rfl) _ t0)
    have q1 : (kd == 2) = false := by rw [beq_eq_false_iff_ne]; exact hk2.1
    have q1' : (kd != 2) = true := by rw [bne, q1]; rfl
    obtain ⟨_, q3⟩ := hk2
    rcases (show kd = 1 ∨ (kd ≠ 1 ∧ num = 0) by omega) with h1 | ⟨h1, h2⟩
    · subst h1
      clear hk1
      go_enter Tryz.func114, Tryz.ntmps114
      go_wp2
      go_ret
      exact Hf.out
    · subst h2
      have q4 : (kd == 1) = false := by rw [beq_eq_false_iff_ne]; exact h1
      have q4' : (kd != 1) = true := by rw [bne, q4]; rfl
      clear hk1 h1
      go_enter Tryz.func114, Tryz.ntmps114
      go_wp2
      go_ret
      exact Hf.out
  have hmain : (kd = 2 ∧ num = 0) ∨ (kd = 1 ∧ t = []) ∨ (kd = 0 ∧ num = 0 ∧ t = []) := by
    have hz : 0 < t.length ∨ t = [] := by cases t; exact .inr rfl; exact .inl (by simp)
    rcases hz with hz | hz
    · left; constructor <;> omega
    · rcases (show kd = 0 ∨ kd = 1 ∨ kd = 2 by omega) with e | e | e
      · exact .inr (.inr ⟨e, by omega, hz⟩)
      · exact .inr (.inl ⟨e, hz⟩)
      · left; constructor <;> omega
  clear hk hk1 hk2
  rcases hmain with ⟨rfl, rfl⟩ | ⟨rfl, rfl⟩ | ⟨rfl, rfl, rfl⟩
  · by_cases h64 : 64 < t.length
    · have Hf := Lib.hid (Hb.out false (by rw [Hr.out]; simp [plainV]; omega) _ t0)
      go_enter Tryz.func114, Tryz.ntmps114
      go_wp2
      go_ret
      exact Hf.out
    go_enter Tryz.func114, Tryz.ntmps114
    go_wp2
    go_loop [3] (fun i => ∃ k : Nat, k ≤ t.length ∧ i = .int .i64 k ∧ Hid ((t.take k).all okB = true)) (fun i => t.length - (intOf i).toNat)
    case atStart => exact ⟨0, by omega, rfl, Lib.hid rfl⟩
    case round =>
      obtain ⟨k, hk, rfl, hall⟩ := hrel
      by_cases hlt : k < t.length
      · have hno := all_no (p := okB) hlt
        have hyes := all_snoc (p := okB) hlt hall.out
        have hg := S_get t k (by rw [hsz]; exact hlt)
        obtain ⟨x, hx⟩ : ∃ x, x = t[k] := ⟨_, rfl⟩
        rw [← hx] at hno hyes hg
        have Hno := Lib.hid hno; have Hyes := Lib.hid hyes
        have hxl := x.toNat_lt
        have hkI : (k : Int) < t.length := by omega
        clear hno hyes hx hall
        by_cases h1 : x.toNat < 32
        · have Hf := Lib.hid (Hb.out false (by rw [Hr.out]; simp only [if_neg (show ¬ (2 : Int) = 0 by omega), if_neg (show ¬ (2 : Int) = 1 by omega), if_true, plainV]; rw [Hno.out (by simp [okB]; omega)]; rfl) _ t0)
          go_wp2
          go_ret
          exact Hf.out
        by_cases h2 : 126 < x.toNat
        · have Hf := Lib.hid (Hb.out false (by rw [Hr.out]; simp only [if_neg (show ¬ (2 : Int) = 0 by omega), if_neg (show ¬ (2 : Int) = 1 by omega), if_true, plainV]; rw [Hno.out (by simp [okB]; omega)]; rfl) _ t0)
          go_wp2
          go_ret
          exact Hf.out
        · have Ha := Lib.hid (Hyes.out (by simp [okB]; omega))
          go_wp2
          go_round
          case rel => exact ⟨k + 1, by omega, by go_num, Ha⟩
          case measure => simp [intOf]; omega
      · obtain rfl : k = t.length := by omega
        have h := hall.out
        rw [List.take_length] at h
        have Hf := Lib.hid (Hb.out true (by rw [Hr.out]; simp only [if_neg (show ¬ (2 : Int) = 0 by omega), if_neg (show ¬ (2 : Int) = 1 by omega), if_true, plainV]; rw [h]; simp; omega) _ t0)
        clear hall h
        go_wp2
        go_ret
        exact Hf.out
  · have Hf := Lib.hid (Hb.out true (by rw [Hr.out]; rfl) _ t0)
    go_enter Tryz.func114, Tryz.ntmps114
    go_wp2
    refine wp_loop_rounds 1 ?_
    rw [rounds_succ]
    go_wp2
    go_ret
    exact Hf.out
  · have Hf := Lib.hid (Hb.out true (by rw [Hr.out]; rfl) _ t0)
    go_enter Tryz.func114, Tryz.ntmps114
    go_wp2
    refine wp_loop_rounds 1 ?_
    rw [rounds_succ]
    go_wp2
    go_ret
    exact Hf.out

end Go.Proofs.YtafoklilkdnepaaGreatDoor
