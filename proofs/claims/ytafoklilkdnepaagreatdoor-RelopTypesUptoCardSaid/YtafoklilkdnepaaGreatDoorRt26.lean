/- Part 26 of the texts of this proof, one behind the other; each begins with its own sentence. No condition beyond those that its theorems state. -/
import Derived.Test.YtafoklilkdnepaaGreatDoorRt25
/- bywashlaw05: group; own at group. (gen_rllaw2.py) -/
namespace Go.Proofs.YtafoklilkdnepaaGreatDoor
open Go.RowKit

theorem memS_ops (op : ByteArray) : memS opsL op = (decide (op = opC) || (decide (op = opS) || (decide (op = opMi) || decide (op = opMa)))) := by
  unfold memS opsL
  simp only [List.any_cons, List.any_nil, Bool.or_false]
  rfl
theorem aggV_other {cs : List CD} {op col nm : ByteArray} (h1 : op ≠ opC) (h2 : op ≠ opS) (h3 : op ≠ opMi) (h4 : op ≠ opMa) : aggV cs ⟨op, col, nm⟩ = (0, 20) := by
  unfold aggV
  rw [if_pos (by rw [memS_ops, decide_eq_false h1, decide_eq_false h2, decide_eq_false h3, decide_eq_false h4]; rfl)]
theorem aggV_in {cs : List CD} {op col nm : ByteArray} (h : memS opsL op = true) : aggV cs ⟨op, col, nm⟩ = (if col = ⟨#[]⟩ then (if op = opC then ((1, 0) : Int × Int) else (0, 20)) else match typO cs col with
    | none => (0, 13)
    | some t => if op = opS ∧ t = 2 then (0, 12) else if op = opMi ∨ op = opMa then (t, 0) else (1, 0)) := by
  unfold aggV; rw [if_neg (by rw [h]; simp)]; rfl

set_option maxRecDepth 40000 in
set_option maxHeartbeats 25600000 in
theorem group5_any (x : PC) (names : List ByteArray) (aggs : List AG) (hnn : x.names.n = names.length) (han : x.aggs.n = aggs.length) (SA : Option Addr) (c1 n1 : Nat) (a : List CD) (h1 : a.length = n1) (hl1 : n1 ≤ 1000000) (hln : names.length ≤ 100000) (hla : aggs.length ≤ 100000) (w : World)
    (hr : RdK btE w x.names.A names) (hg : RdK agE w x.aggs.A aggs) (ha : ColsAt w SA a) :
    Calls Tryz.prog 70 #[x.val, .slice SA n1 c1] w (SchPost (groupV a names aggs) w) := by
  subst h1
  have Hv := Lib.hid (show groupV a names aggs = match gnL a [] names with | none => (13, []) | some l => gaL a l aggs from rfl)
  obtain ⟨V, hV⟩ : ∃ V, V = groupV a names aggs := ⟨_, rfl⟩
  rw [← hV] at Hv ⊢
  clear hV
  obtain ⟨k0, k1, ⟨A2, n2, c2'⟩, ⟨⟨ck, cn, ⟨cvk, cvn, cvt⟩, cop⟩, CA, cnn, cc⟩, ⟨NA, nn, nc⟩, ⟨EA, en, ec⟩, ⟨OA, ol, oc⟩, ⟨GA, gn, gc⟩, ⟨BA, bn, bc⟩, count⟩ := x
  simp only [PC.val] at *
  subst hnn han
  obtain ⟨W, hW⟩ : ∃ W, W = w.alloc (.cells #[.int .i64 k0, .string k1, .slice A2 n2 c2', .int .i64 ck, .string cn, .int .i64 cvk, .int .i64 cvn, .string cvt, .string cop, .slice CA cnn cc, .slice NA names.length nc, .slice EA en ec, .slice OA ol oc, .slice GA aggs.length gc, .slice BA bn bc, .int .i64 count] 49) := ⟨_, rfl⟩
  have t0 : Touch [] w W := hW ▸ (Touch.refl [] w).alloc _
  have hb0 := hW ▸ heap_alloc_new w (.cells #[.int .i64 k0, .string k1, .slice A2 n2 c2', .int .i64 ck, .string cn, .int .i64 cvk, .int .i64 cvn, .string cvt, .string cop, .slice CA cnn cc, .slice NA names.length nc, .slice EA en ec, .slice OA ol oc, .slice GA aggs.length gc, .slice BA bn bc, .int .i64 count] 49)
  have c13 : W.cell? ⟨w.heap.size, 13, none⟩ = some (.slice GA aggs.length gc) := cell_blk hb0 rfl
  have HW := Lib.hid hW
  have HT0 := Lib.hid (And.intro t0 c13)
  have HRW := Lib.hid (And.intro (hr.touch0 t0) (And.intro (hg.touch0 t0) (ha.touch0 t0)))
  clear t0 hb0 hW c13 hr hg ha
  go_enter Tryz.func70, Tryz.ntmps70
  go_wp2_with fail
  rw [← HW.out]
  go_loopw [6, 17] (fun o i wr => ∃ (k : Nat) (A : Option Addr) (c : Nat) (acc : List CD), k ≤ names.length ∧ i = .int .i64 k ∧ o = .slice A k c ∧ Hid (acc.length = k) ∧ Hid (gnL a [] names = gnL a acc (names.drop k)) ∧ Hid (Made 29 2 cdE acc A c W wr)) (fun _ i _ => names.length - (intOf i).toNat)
  case atStart => exact ⟨0, none, 0, [], by omega, rfl, rfl, Lib.hid rfl, Lib.hid (by rw [List.drop_zero]), Lib.hid (Made.nil _ _ _ _)⟩
  case round =>
    obtain ⟨k, A, c, acc, hk, rfl, rfl, HL, Hd, HM⟩ := hrel
    by_cases hlt : k < names.length
    · obtain ⟨ad, b1, o1, rfl, hadd, hc⟩ := RdK.cells (HRW.out.1.touch0 HM.out.t) 1 btE_length (by omega) k hlt
      rw [Nat.mul_one] at hadd
      have e0 := hc 0 _ rfl
      rw [Nat.add_zero] at e0
      have hst := gnL_step a acc names k hlt
      obtain ⟨p, hp⟩ : ∃ p, p = names[k] := ⟨_, rfl⟩
      rw [← hp] at hst e0
      have hfa := fun w' (t : Touch [] W w') => find5_any SA c1 a.length a rfl p w' (HRW.out.2.2.touch0 t) (by omega)
      have hkn : (k : Int) < (names.length : Int) := by omega
      rcases hpa : placeV a p with _ | i
      · rw [show placeI a p = -1 by unfold placeI; rw [hpa]] at hfa
        have Hq2 := Lib.hid (show V = (13, []) by rw [Hv.out, Hd.out, hst, hpa])
        have Hfa := Lib.hid (hfa _ HM.out.t)
        clear hfa hpa hst hc hp
        go_wp2_with fail
        refine Hfa.out.mono ?_
        rintro e w1 ⟨rfl, t1⟩
        go_wp2
        go_ret2
        rw [Hq2.out]
        exact SchPost.err 13 ((HT0.out.1.trans0 HM.out.t).trans0 t1)
      · rw [show placeI a p = (i : Int) by unfold placeI; rw [hpa]] at hfa
        have hil := placeV_lt hpa
        obtain ⟨ad2, b2, o2, rfl, hadd2, e2, e3⟩ := (HRW.out.2.2.touch0 HM.out.t).at_ i hil
        have hts : gnL a acc (names.drop k) = gnL a (acc ++ [a[i]]) (names.drop (k + 1)) := by
          rw [hst, hpa]; simp [hil]
        obtain ⟨cd, hcd⟩ : ∃ cd, cd = a[i] := ⟨_, rfl⟩
        rw [← hcd] at e2 e3 hts
        obtain ⟨cnm, cty⟩ := cd
        have hi0 : (0 : Int) ≤ (i : Int) := by omega
        have hi1 : ((i : Int) < 0) = False := eq_false (by omega)
        have hin : (i : Int) < (a.length : Int) := by omega
        have Hn := Lib.hid (show gnL a [] names = gnL a (acc ++ [⟨cnm, cty⟩]) (names.drop (k + 1)) by rw [Hd.out, hts])
        have Hfa := Lib.hid (hfa _ HM.out.t)
        clear hfa hpa hst hc hp hts hcd
        go_wp2_with fail
        refine Hfa.out.mono ?_
        rintro e w1 ⟨rfl, t1⟩
        have e2' := t1.cell e2 (by simp)
        have e3' := t1.cell e3 (by simp)
        have HM1 := Lib.hid (HM.out.touch0 t1)
        clear t1 HM
        go_wp2_with (at_builtin; refine stop ?_)
        refine go ?_
        have ta := (Touch.refl [] w1).alloc (.cells #[.string cnm, .int .i64 cty] 29)
        refine wpList_appK (enc := cdE) rfl (.tmp 26) (.tmp 31) 24 rfl 29 _ 2 24 info_c5 Tryz.underlying24 rfl (by omega) cdE_length cdE_one A k c acc HL.out rfl (HM1.out.touch0 ta).own
          (some ⟨w1.heap.size, 0, none⟩) 1 1 [⟨cnm, cty⟩] rfl rfl (RdK.one (enc := cdE) w1 29 ⟨cnm, cty⟩ _ rfl) (by omega) (by omega) ?_
        intro A' c' w' hown ht hf
        have HX := Lib.hid ((HM1.out.touch0 ta).step hown ht hf)
        clear hown ht hf ta
        go_wp2_with fail
        go_roundw
        case rel => exact ⟨k + 1, A', c', acc ++ [⟨cnm, cty⟩], by omega, by go_num, rfl, Lib.hid (by rw [List.length_append, HL.out]; rfl), Hn, HX⟩
        case measure => simp [intOf]; omega
    · obtain rfl : k = names.length := by omega
      have Hl := Lib.hid (show V = gaL a acc (aggs.drop 0) by rw [Hv.out, Hd.out, List.drop_length, List.drop_zero]; rfl)
      have d13 := HM.out.t.cell HT0.out.2 (by simp)
      clear Hd Hv
      go_wp2_with fail
      go_loopw [6, 37] (fun o i w1 => ∃ (j m : Nat) (A : Option Addr) (c : Nat) (acc : List CD), j ≤ aggs.length ∧ m ≤ 200000 ∧ i = .int .i64 j ∧ o = .slice A m c ∧ Hid (acc.length = m ∧ m = names.length + j) ∧ Hid (V = gaL a acc (aggs.drop j)) ∧ Hid (Made 29 2 cdE acc A c W w1)) (fun _ i _ => aggs.length - (intOf i).toNat)
      case atStart => exact ⟨0, names.length, A, c, acc, by omega, by omega, rfl, rfl, Lib.hid ⟨HL.out, rfl⟩, Hl, HM⟩
      case round =>
        clear Hl HM HL hlt d13
        obtain ⟨j, m, A, c, acc, hj, hmb, rfl, rfl, HL, Hd, HM⟩ := hrel
        by_cases hlt : j < aggs.length
        rotate_left
        · obtain rfl : j = aggs.length := by omega
          have Hn := Lib.hid (show V = (0, acc) by rw [Hd.out, List.drop_length]; rfl)
          clear Hd
          go_wp2
          go_ret2
          rw [Hn.out]
          obtain ⟨hm1, _⟩ := HL.out
          subst hm1
          exact ⟨A, c, rfl, HM.out.own, HT0.out.1.trans0 HM.out.t, fun b hb => Nat.le_trans HT0.out.1.size (HM.out.f b hb)⟩
        obtain ⟨ad, b1, o1, rfl, hadd, hc⟩ := RdK.cells (HRW.out.2.1.touch0 HM.out.t) 3 agE_length (by omega) j hlt
        have hst := gaL_step a acc aggs j hlt
        obtain ⟨p, hp⟩ : ∃ p, p = aggs[j] := ⟨_, rfl⟩
        rw [← hp] at hst hc
        have e0 := hc 0 _ rfl
        have e1 := hc 1 _ rfl
        have e2 := hc 2 _ rfl
        rw [Nat.add_zero] at e0
        obtain ⟨op, col, nm⟩ := p
        dsimp only at e0 e1 e2 hst
        have ta := (Touch.refl [] wr).alloc (.cells #[.string op, .string col, .string nm] 79)
        have hbl := heap_alloc_new wr (.cells #[.string op, .string col, .string nm] 79)
        have hfa := find5_any SA c1 a.length a rfl col _ (HRW.out.2.2.touch0 (HM.out.t.trans0 ta)) (by omega)
        have Hst := Lib.hid (show V = if (aggV a ⟨op, col, nm⟩).2 = 0 then gaL a (acc ++ [⟨nm, (aggV a ⟨op, col, nm⟩).1⟩]) (aggs.drop (j + 1)) else ((aggV a ⟨op, col, nm⟩).2, []) by rw [Hd.out, hst])
        have hkn : (j : Int) < (aggs.length : Int) := by omega
        have HTa := Lib.hid (And.intro ta hbl)
        obtain ⟨z, hz⟩ : ∃ z, z = placeI a col := ⟨_, rfl⟩
        rw [← hz] at hfa
        have Hfa := Lib.hid hfa
        have Hz := Lib.hid hz
        clear hst hc hp ta hbl hfa hz
        by_cases hC : op = opC
        · have nS : op ≠ opS := by rw [hC]; decide
          have nMi : op ≠ opMi := by rw [hC]; decide
          have nMa : op ≠ opMa := by rw [hC]; decide
          have qC : (op.toList == [99, 111, 117, 110, 116]) = true := (lit_beq op _ opC rfl).trans (decide_eq_true hC)
          have qC' : (op.toList != [99, 111, 117, 110, 116]) = false := by rw [bne, qC]; rfl
          have qS : (op.toList == [115, 117, 109]) = false := (lit_beq op _ opS rfl).trans (decide_eq_false nS)
          have qS' : (op.toList != [115, 117, 109]) = true := by rw [bne, qS]; rfl
          have qMi : (op.toList == [109, 105, 110]) = false := (lit_beq op _ opMi rfl).trans (decide_eq_false nMi)
          have qMi' : (op.toList != [109, 105, 110]) = true := by rw [bne, qMi]; rfl
          have qMa : (op.toList == [109, 97, 120]) = false := (lit_beq op _ opMa rfl).trans (decide_eq_false nMa)
          have qMa' : (op.toList != [109, 97, 120]) = true := by rw [bne, qMa]; rfl
          have hmem : memS opsL op = true := by rw [memS_ops, decide_eq_true hC]; simp
          by_cases h5 : col = ⟨#[]⟩
          · have Hn := Lib.hid (show V = gaL a (acc ++ [⟨nm, 1⟩]) (aggs.drop (j + 1)) by rw [Hst.out, aggV_in hmem, if_pos h5, if_pos hC]; rfl)
            have q5 : col.toList.isEmpty = true := by rw [isEmpty_bs]; exact decide_eq_true h5
            clear h5 hmem hC nS nMi nMa
            clear Hst
            go_wp2_with fail
            refine Hfa.out.mono ?_
            rintro e w1 ⟨rfl, t1⟩
            obtain ⟨g0, g1, g2, _, _, _⟩ := blk3 (t1.blk HTa.out.2 (by simp))
            have HM1 := Lib.hid ((HM.out.touch0 HTa.out.1).touch0 t1)
            clear t1 HM
            go_wp2_with (at_builtin; refine stop ?_)
            refine go ?_
            have ta := (Touch.refl [] w1).alloc (.cells #[.string nm, .int .i64 1] 29)
            refine wpList_appK (enc := cdE) rfl (.tmp 105) (.tmp 110) 24 rfl 29 _ 2 24 info_c5 Tryz.underlying24 rfl (by omega) cdE_length cdE_one A m c acc HL.out.1 rfl (HM1.out.touch0 ta).own
              (some ⟨w1.heap.size, 0, none⟩) 1 1 [⟨nm, 1⟩] rfl rfl (RdK.one (enc := cdE) w1 29 ⟨nm, 1⟩ _ rfl) (by omega) (by omega) ?_
            intro A' c' w' hown ht hf
            have HX := Lib.hid ((HM1.out.touch0 ta).step hown ht hf)
            clear hown ht hf ta
            go_wp2_with fail
            go_roundw
            case rel => exact ⟨j + 1, m + 1, A', c', acc ++ [⟨nm, 1⟩], by omega, by have := HL.out.2; omega, by go_num, rfl, Lib.hid ⟨by rw [List.length_append, HL.out.1]; rfl, by rw [HL.out.2]; omega⟩, Hn, HX⟩
            case measure => simp [intOf]; omega
          · rcases hpa : placeV a col with _ | i
            · have hto : typO a col = none := by unfold typO; rw [hpa]; rfl
              obtain rfl : z = -1 := by rw [Hz.out]; unfold placeI; rw [hpa]
              have Hn := Lib.hid (show V = (13, []) by rw [Hst.out, aggV_in hmem, if_neg h5, hto]; rfl)
              have q5 : col.toList.isEmpty = false := by rw [isEmpty_bs]; exact decide_eq_false h5
              clear h5 hmem hpa hto
              clear hC nS nMi nMa
              clear Hst
              go_wp2_with fail
              refine Hfa.out.mono ?_
              rintro e w1 ⟨rfl, t1⟩
              obtain ⟨g0, g1, g2, _, _, _⟩ := blk3 (t1.blk HTa.out.2 (by simp))
              have HM1 := Lib.hid (((HT0.out.1.trans0 HM.out.t).trans0 HTa.out.1).trans0 t1)
              clear t1 HM
              go_wp2
              go_ret2
              rw [Hn.out]
              exact SchPost.err 13 HM1.out
            · have hil := placeV_lt hpa
              obtain ⟨ad2, b2, o2, rfl, hadd2, -, e3⟩ := (HRW.out.2.2.touch0 HM.out.t).at_ i hil
              have hto : typO a col = some a[i].typ := by unfold typO; rw [hpa]; simp [hil]
              obtain ⟨ty, hty⟩ : ∃ ty, ty = a[i].typ := ⟨_, rfl⟩
              rw [← hty] at e3 hto
              obtain rfl : z = (i : Int) := by rw [Hz.out]; unfold placeI; rw [hpa]
              have hi0 : (0 : Int) ≤ (i : Int) := by omega
              have hi1 : ((i : Int) < 0) = False := eq_false (by omega)
              have hin : (i : Int) < (a.length : Int) := by omega
              have Hn := Lib.hid (show V = gaL a (acc ++ [⟨nm, 1⟩]) (aggs.drop (j + 1)) by rw [Hst.out, aggV_in hmem, if_neg h5, hto, show (match some ty with | none => ((0, 13) : Int × Int) | some t => if op = opS ∧ t = 2 then (0, 12) else if op = opMi ∨ op = opMa then (t, 0) else (1, 0)) = (1, 0) from (by dsimp only; rw [if_neg (fun q => nS q.1), if_neg (fun q => q.elim nMi nMa)])]; rfl)
              have q5 : col.toList.isEmpty = false := by rw [isEmpty_bs]; exact decide_eq_false h5
              clear h5 hmem hpa hto hty hil
              clear hC nS nMi nMa
              clear Hst
              go_wp2_with fail
              refine Hfa.out.mono ?_
              rintro e w1 ⟨rfl, t1⟩
              obtain ⟨g0, g1, g2, _, _, _⟩ := blk3 (t1.blk HTa.out.2 (by simp))
              have HM1 := Lib.hid ((HM.out.touch0 HTa.out.1).touch0 t1)
              clear t1 HM
              go_wp2_with (at_builtin; refine stop ?_)
              refine go ?_
              have ta := (Touch.refl [] w1).alloc (.cells #[.string nm, .int .i64 1] 29)
              refine wpList_appK (enc := cdE) rfl (.tmp 105) (.tmp 110) 24 rfl 29 _ 2 24 info_c5 Tryz.underlying24 rfl (by omega) cdE_length cdE_one A m c acc HL.out.1 rfl (HM1.out.touch0 ta).own
                (some ⟨w1.heap.size, 0, none⟩) 1 1 [⟨nm, 1⟩] rfl rfl (RdK.one (enc := cdE) w1 29 ⟨nm, 1⟩ _ rfl) (by omega) (by omega) ?_
              intro A' c' w' hown ht hf
              have HX := Lib.hid ((HM1.out.touch0 ta).step hown ht hf)
              clear hown ht hf ta
              go_wp2_with fail
              go_roundw
              case rel => exact ⟨j + 1, m + 1, A', c', acc ++ [⟨nm, 1⟩], by omega, by have := HL.out.2; omega, by go_num, rfl, Lib.hid ⟨by rw [List.length_append, HL.out.1]; rfl, by rw [HL.out.2]; omega⟩, Hn, HX⟩
              case measure => simp [intOf]; omega
        by_cases hS : op = opS
        · have nC : op ≠ opC := by rw [hS]; decide
          have nMi : op ≠ opMi := by rw [hS]; decide
          have nMa : op ≠ opMa := by rw [hS]; decide
          have qC : (op.toList == [99, 111, 117, 110, 116]) = false := (lit_beq op _ opC rfl).trans (decide_eq_false nC)
          have qC' : (op.toList != [99, 111, 117, 110, 116]) = true := by rw [bne, qC]; rfl
          have qS : (op.toList == [115, 117, 109]) = true := (lit_beq op _ opS rfl).trans (decide_eq_true hS)
          have qS' : (op.toList != [115, 117, 109]) = false := by rw [bne, qS]; rfl
          have qMi : (op.toList == [109, 105, 110]) = false := (lit_beq op _ opMi rfl).trans (decide_eq_false nMi)
          have qMi' : (op.toList != [109, 105, 110]) = true := by rw [bne, qMi]; rfl
          have qMa : (op.toList == [109, 97, 120]) = false := (lit_beq op _ opMa rfl).trans (decide_eq_false nMa)
          have qMa' : (op.toList != [109, 97, 120]) = true := by rw [bne, qMa]; rfl
          have hmem : memS opsL op = true := by rw [memS_ops, decide_eq_true hS]; simp
          by_cases h5 : col = ⟨#[]⟩
          · have Hn := Lib.hid (show V = (20, []) by rw [Hst.out, aggV_in hmem, if_pos h5, if_neg nC]; rfl)
            have q5 : col.toList.isEmpty = true := by rw [isEmpty_bs]; exact decide_eq_true h5
            clear h5 hmem
            clear hS nC nMi nMa
            clear Hst
            go_wp2_with fail
            refine Hfa.out.mono ?_
            rintro e w1 ⟨rfl, t1⟩
            obtain ⟨g0, g1, g2, _, _, _⟩ := blk3 (t1.blk HTa.out.2 (by simp))
            have HM1 := Lib.hid (((HT0.out.1.trans0 HM.out.t).trans0 HTa.out.1).trans0 t1)
            clear t1 HM
            go_wp2
            go_ret2
            rw [Hn.out]
            exact SchPost.err 20 HM1.out
          · rcases hpa : placeV a col with _ | i
            · have hto : typO a col = none := by unfold typO; rw [hpa]; rfl
              obtain rfl : z = -1 := by rw [Hz.out]; unfold placeI; rw [hpa]
              have Hn := Lib.hid (show V = (13, []) by rw [Hst.out, aggV_in hmem, if_neg h5, hto]; rfl)
              have q5 : col.toList.isEmpty = false := by rw [isEmpty_bs]; exact decide_eq_false h5
              clear h5 hmem hpa hto
              clear hS nC nMi nMa
              clear Hst
              go_wp2_with fail
              refine Hfa.out.mono ?_
              rintro e w1 ⟨rfl, t1⟩
              obtain ⟨g0, g1, g2, _, _, _⟩ := blk3 (t1.blk HTa.out.2 (by simp))
              have HM1 := Lib.hid (((HT0.out.1.trans0 HM.out.t).trans0 HTa.out.1).trans0 t1)
              clear t1 HM
              go_wp2
              go_ret2
              rw [Hn.out]
              exact SchPost.err 13 HM1.out
            · have hil := placeV_lt hpa
              obtain ⟨ad2, b2, o2, rfl, hadd2, -, e3⟩ := (HRW.out.2.2.touch0 HM.out.t).at_ i hil
              have hto : typO a col = some a[i].typ := by unfold typO; rw [hpa]; simp [hil]
              obtain ⟨ty, hty⟩ : ∃ ty, ty = a[i].typ := ⟨_, rfl⟩
              rw [← hty] at e3 hto
              obtain rfl : z = (i : Int) := by rw [Hz.out]; unfold placeI; rw [hpa]
              have hi0 : (0 : Int) ≤ (i : Int) := by omega
              have hi1 : ((i : Int) < 0) = False := eq_false (by omega)
              have hin : (i : Int) < (a.length : Int) := by omega
              by_cases h2 : ty = 2
              · have hE : aggV a ⟨op, col, nm⟩ = (0, 12) := by rw [aggV_in hmem, if_neg h5, hto]; dsimp only; rw [if_pos ⟨hS, h2⟩]
                subst h2
                have Hn := Lib.hid (show V = (12, []) by rw [Hst.out, hE]; rfl)
                clear hE
                have q5 : col.toList.isEmpty = false := by rw [isEmpty_bs]; exact decide_eq_false h5
                clear h5 hmem hpa hto hty hil
                clear hS nC nMi nMa
                clear Hst
                go_wp2_with fail
                refine Hfa.out.mono ?_
                rintro e w1 ⟨rfl, t1⟩
                have e3' := (HTa.out.1.trans0 t1).cell e3 (by simp)
                obtain ⟨g0, g1, g2, _, _, _⟩ := blk3 (t1.blk HTa.out.2 (by simp))
                have HM1 := Lib.hid (((HT0.out.1.trans0 HM.out.t).trans0 HTa.out.1).trans0 t1)
                clear t1 HM
                go_wp2
                go_ret2
                rw [Hn.out]
                exact SchPost.err 12 HM1.out
              · have hE : aggV a ⟨op, col, nm⟩ = (1, 0) := by rw [aggV_in hmem, if_neg h5, hto]; dsimp only; rw [if_neg (fun q => h2 q.2), if_neg (fun q => q.elim nMi nMa)]
                have hq2 : (ty == 2) = false := by rw [beq_eq_false_iff_ne]; exact h2
                have Hn := Lib.hid (show V = gaL a (acc ++ [⟨nm, 1⟩]) (aggs.drop (j + 1)) by rw [Hst.out, hE]; rfl)
                clear hE h2
                have q5 : col.toList.isEmpty = false := by rw [isEmpty_bs]; exact decide_eq_false h5
                clear h5 hmem hpa hto hty hil
                clear hS nC nMi nMa
                clear Hst
                go_wp2_with fail
                refine Hfa.out.mono ?_
                rintro e w1 ⟨rfl, t1⟩
                obtain ⟨g0, g1, g2, _, _, _⟩ := blk3 (t1.blk HTa.out.2 (by simp))
                have e3' := (HTa.out.1.trans0 t1).cell e3 (by simp)
                have HM1 := Lib.hid ((HM.out.touch0 HTa.out.1).touch0 t1)
                clear t1 HM
                go_wp2_with (at_builtin; refine stop ?_)
                refine go ?_
                have ta := (Touch.refl [] w1).alloc (.cells #[.string nm, .int .i64 1] 29)
                refine wpList_appK (enc := cdE) rfl (.tmp 105) (.tmp 110) 24 rfl 29 _ 2 24 info_c5 Tryz.underlying24 rfl (by omega) cdE_length cdE_one A m c acc HL.out.1 rfl (HM1.out.touch0 ta).own
                  (some ⟨w1.heap.size, 0, none⟩) 1 1 [⟨nm, 1⟩] rfl rfl (RdK.one (enc := cdE) w1 29 ⟨nm, 1⟩ _ rfl) (by omega) (by omega) ?_
                intro A' c' w' hown ht hf
                have HX := Lib.hid ((HM1.out.touch0 ta).step hown ht hf)
                clear hown ht hf ta
                go_wp2_with fail
                go_roundw
                case rel => exact ⟨j + 1, m + 1, A', c', acc ++ [⟨nm, 1⟩], by omega, by have := HL.out.2; omega, by go_num, rfl, Lib.hid ⟨by rw [List.length_append, HL.out.1]; rfl, by rw [HL.out.2]; omega⟩, Hn, HX⟩
                case measure => simp [intOf]; omega
        by_cases hMi : op = opMi
        · have nC : op ≠ opC := by rw [hMi]; decide
          have nS : op ≠ opS := by rw [hMi]; decide
          have nMa : op ≠ opMa := by rw [hMi]; decide
          have qC : (op.toList == [99, 111, 117, 110, 116]) = false := (lit_beq op _ opC rfl).trans (decide_eq_false nC)
          have qC' : (op.toList != [99, 111, 117, 110, 116]) = true := by rw [bne, qC]; rfl
          have qS : (op.toList == [115, 117, 109]) = false := (lit_beq op _ opS rfl).trans (decide_eq_false nS)
          have qS' : (op.toList != [115, 117, 109]) = true := by rw [bne, qS]; rfl
          have qMi : (op.toList == [109, 105, 110]) = true := (lit_beq op _ opMi rfl).trans (decide_eq_true hMi)
          have qMi' : (op.toList != [109, 105, 110]) = false := by rw [bne, qMi]; rfl
          have qMa : (op.toList == [109, 97, 120]) = false := (lit_beq op _ opMa rfl).trans (decide_eq_false nMa)
          have qMa' : (op.toList != [109, 97, 120]) = true := by rw [bne, qMa]; rfl
          have hmem : memS opsL op = true := by rw [memS_ops, decide_eq_true hMi]; simp
          by_cases h5 : col = ⟨#[]⟩
          · have Hn := Lib.hid (show V = (20, []) by rw [Hst.out, aggV_in hmem, if_pos h5, if_neg nC]; rfl)
            have q5 : col.toList.isEmpty = true := by rw [isEmpty_bs]; exact decide_eq_true h5
            clear h5 hmem
            clear hMi nC nS nMa
            clear Hst
            go_wp2_with fail
            refine Hfa.out.mono ?_
            rintro e w1 ⟨rfl, t1⟩
            obtain ⟨g0, g1, g2, _, _, _⟩ := blk3 (t1.blk HTa.out.2 (by simp))
            have HM1 := Lib.hid (((HT0.out.1.trans0 HM.out.t).trans0 HTa.out.1).trans0 t1)
            clear t1 HM
            go_wp2
            go_ret2
            rw [Hn.out]
            exact SchPost.err 20 HM1.out
          · rcases hpa : placeV a col with _ | i
            · have hto : typO a col = none := by unfold typO; rw [hpa]; rfl
              obtain rfl : z = -1 := by rw [Hz.out]; unfold placeI; rw [hpa]
              have Hn := Lib.hid (show V = (13, []) by rw [Hst.out, aggV_in hmem, if_neg h5, hto]; rfl)
              have q5 : col.toList.isEmpty = false := by rw [isEmpty_bs]; exact decide_eq_false h5
              clear h5 hmem hpa hto
              clear hMi nC nS nMa
              clear Hst
              go_wp2_with fail
              refine Hfa.out.mono ?_
              rintro e w1 ⟨rfl, t1⟩
              obtain ⟨g0, g1, g2, _, _, _⟩ := blk3 (t1.blk HTa.out.2 (by simp))
              have HM1 := Lib.hid (((HT0.out.1.trans0 HM.out.t).trans0 HTa.out.1).trans0 t1)
              clear t1 HM
              go_wp2
              go_ret2
              rw [Hn.out]
              exact SchPost.err 13 HM1.out
            · have hil := placeV_lt hpa
              obtain ⟨ad2, b2, o2, rfl, hadd2, -, e3⟩ := (HRW.out.2.2.touch0 HM.out.t).at_ i hil
              have hto : typO a col = some a[i].typ := by unfold typO; rw [hpa]; simp [hil]
              obtain ⟨ty, hty⟩ : ∃ ty, ty = a[i].typ := ⟨_, rfl⟩
              rw [← hty] at e3 hto
              obtain rfl : z = (i : Int) := by rw [Hz.out]; unfold placeI; rw [hpa]
              have hi0 : (0 : Int) ≤ (i : Int) := by omega
              have hi1 : ((i : Int) < 0) = False := eq_false (by omega)
              have hin : (i : Int) < (a.length : Int) := by omega
              have hE : aggV a ⟨op, col, nm⟩ = (ty, 0) := by rw [aggV_in hmem, if_neg h5, hto]; dsimp only; rw [if_neg (fun q => nS q.1), if_pos (Or.inl hMi)]
              have Hn := Lib.hid (show V = gaL a (acc ++ [⟨nm, ty⟩]) (aggs.drop (j + 1)) by rw [Hst.out, hE]; rfl)
              clear hE
              have q5 : col.toList.isEmpty = false := by rw [isEmpty_bs]; exact decide_eq_false h5
              clear h5 hmem hpa hto hty hil
              clear hMi nC nS nMa
              clear Hst
              go_wp2_with fail
              refine Hfa.out.mono ?_
              rintro e w1 ⟨rfl, t1⟩
              obtain ⟨g0, g1, g2, _, _, _⟩ := blk3 (t1.blk HTa.out.2 (by simp))
              have e3' := (HTa.out.1.trans0 t1).cell e3 (by simp)
              have HM1 := Lib.hid ((HM.out.touch0 HTa.out.1).touch0 t1)
              clear t1 HM
              go_wp2_with (at_builtin; refine stop ?_)
              refine go ?_
              have ta := (Touch.refl [] w1).alloc (.cells #[.string nm, .int .i64 ty] 29)
              refine wpList_appK (enc := cdE) rfl (.tmp 105) (.tmp 110) 24 rfl 29 _ 2 24 info_c5 Tryz.underlying24 rfl (by omega) cdE_length cdE_one A m c acc HL.out.1 rfl (HM1.out.touch0 ta).own
                (some ⟨w1.heap.size, 0, none⟩) 1 1 [⟨nm, ty⟩] rfl rfl (RdK.one (enc := cdE) w1 29 ⟨nm, ty⟩ _ rfl) (by omega) (by omega) ?_
              intro A' c' w' hown ht hf
              have HX := Lib.hid ((HM1.out.touch0 ta).step hown ht hf)
              clear hown ht hf ta
              go_wp2_with fail
              go_roundw
              case rel => exact ⟨j + 1, m + 1, A', c', acc ++ [⟨nm, ty⟩], by omega, by have := HL.out.2; omega, by go_num, rfl, Lib.hid ⟨by rw [List.length_append, HL.out.1]; rfl, by rw [HL.out.2]; omega⟩, Hn, HX⟩
              case measure => simp [intOf]; omega
        by_cases hMa : op = opMa
        · have nC : op ≠ opC := by rw [hMa]; decide
          have nS : op ≠ opS := by rw [hMa]; decide
          have nMi : op ≠ opMi := by rw [hMa]; decide
          have qC : (op.toList == [99, 111, 117, 110, 116]) = false := (lit_beq op _ opC rfl).trans (decide_eq_false nC)
          have qC' : (op.toList != [99, 111, 117, 110, 116]) = true := by rw [bne, qC]; rfl
          have qS : (op.toList == [115, 117, 109]) = false := (lit_beq op _ opS rfl).trans (decide_eq_false nS)
          have qS' : (op.toList != [115, 117, 109]) = true := by rw [bne, qS]; rfl
          have qMi : (op.toList == [109, 105, 110]) = false := (lit_beq op _ opMi rfl).trans (decide_eq_false nMi)
          have qMi' : (op.toList != [109, 105, 110]) = true := by rw [bne, qMi]; rfl
          have qMa : (op.toList == [109, 97, 120]) = true := (lit_beq op _ opMa rfl).trans (decide_eq_true hMa)
          have qMa' : (op.toList != [109, 97, 120]) = false := by rw [bne, qMa]; rfl
          have hmem : memS opsL op = true := by rw [memS_ops, decide_eq_true hMa]; simp
          by_cases h5 : col = ⟨#[]⟩
          · have Hn := Lib.hid (show V = (20, []) by rw [Hst.out, aggV_in hmem, if_pos h5, if_neg nC]; rfl)
            have q5 : col.toList.isEmpty = true := by rw [isEmpty_bs]; exact decide_eq_true h5
            clear h5 hmem
            clear hMa nC nS nMi
            clear Hst
            go_wp2_with fail
            refine Hfa.out.mono ?_
            rintro e w1 ⟨rfl, t1⟩
            obtain ⟨g0, g1, g2, _, _, _⟩ := blk3 (t1.blk HTa.out.2 (by simp))
            have HM1 := Lib.hid (((HT0.out.1.trans0 HM.out.t).trans0 HTa.out.1).trans0 t1)
            clear t1 HM
            go_wp2
            go_ret2
            rw [Hn.out]
            exact SchPost.err 20 HM1.out
          · rcases hpa : placeV a col with _ | i
            · have hto : typO a col = none := by unfold typO; rw [hpa]; rfl
              obtain rfl : z = -1 := by rw [Hz.out]; unfold placeI; rw [hpa]
              have Hn := Lib.hid (show V = (13, []) by rw [Hst.out, aggV_in hmem, if_neg h5, hto]; rfl)
              have q5 : col.toList.isEmpty = false := by rw [isEmpty_bs]; exact decide_eq_false h5
              clear h5 hmem hpa hto
              clear hMa nC nS nMi
              clear Hst
              go_wp2_with fail
              refine Hfa.out.mono ?_
              rintro e w1 ⟨rfl, t1⟩
              obtain ⟨g0, g1, g2, _, _, _⟩ := blk3 (t1.blk HTa.out.2 (by simp))
              have HM1 := Lib.hid (((HT0.out.1.trans0 HM.out.t).trans0 HTa.out.1).trans0 t1)
              clear t1 HM
              go_wp2
              go_ret2
              rw [Hn.out]
              exact SchPost.err 13 HM1.out
            · have hil := placeV_lt hpa
              obtain ⟨ad2, b2, o2, rfl, hadd2, -, e3⟩ := (HRW.out.2.2.touch0 HM.out.t).at_ i hil
              have hto : typO a col = some a[i].typ := by unfold typO; rw [hpa]; simp [hil]
              obtain ⟨ty, hty⟩ : ∃ ty, ty = a[i].typ := ⟨_, rfl⟩
              rw [← hty] at e3 hto
              obtain rfl : z = (i : Int) := by rw [Hz.out]; unfold placeI; rw [hpa]
              have hi0 : (0 : Int) ≤ (i : Int) := by omega
              have hi1 : ((i : Int) < 0) = False := eq_false (by omega)
              have hin : (i : Int) < (a.length : Int) := by omega
              have hE : aggV a ⟨op, col, nm⟩ = (ty, 0) := by rw [aggV_in hmem, if_neg h5, hto]; dsimp only; rw [if_neg (fun q => nS q.1), if_pos (Or.inr hMa)]
              have Hn := Lib.hid (show V = gaL a (acc ++ [⟨nm, ty⟩]) (aggs.drop (j + 1)) by rw [Hst.out, hE]; rfl)
              clear hE
              have q5 : col.toList.isEmpty = false := by rw [isEmpty_bs]; exact decide_eq_false h5
              clear h5 hmem hpa hto hty hil
              clear hMa nC nS nMi
              clear Hst
              go_wp2_with fail
              refine Hfa.out.mono ?_
              rintro e w1 ⟨rfl, t1⟩
              obtain ⟨g0, g1, g2, _, _, _⟩ := blk3 (t1.blk HTa.out.2 (by simp))
              have e3' := (HTa.out.1.trans0 t1).cell e3 (by simp)
              have HM1 := Lib.hid ((HM.out.touch0 HTa.out.1).touch0 t1)
              clear t1 HM
              go_wp2_with (at_builtin; refine stop ?_)
              refine go ?_
              have ta := (Touch.refl [] w1).alloc (.cells #[.string nm, .int .i64 ty] 29)
              refine wpList_appK (enc := cdE) rfl (.tmp 105) (.tmp 110) 24 rfl 29 _ 2 24 info_c5 Tryz.underlying24 rfl (by omega) cdE_length cdE_one A m c acc HL.out.1 rfl (HM1.out.touch0 ta).own
                (some ⟨w1.heap.size, 0, none⟩) 1 1 [⟨nm, ty⟩] rfl rfl (RdK.one (enc := cdE) w1 29 ⟨nm, ty⟩ _ rfl) (by omega) (by omega) ?_
              intro A' c' w' hown ht hf
              have HX := Lib.hid ((HM1.out.touch0 ta).step hown ht hf)
              clear hown ht hf ta
              go_wp2_with fail
              go_roundw
              case rel => exact ⟨j + 1, m + 1, A', c', acc ++ [⟨nm, ty⟩], by omega, by have := HL.out.2; omega, by go_num, rfl, Lib.hid ⟨by rw [List.length_append, HL.out.1]; rfl, by rw [HL.out.2]; omega⟩, Hn, HX⟩
              case measure => simp [intOf]; omega
        have nC : op ≠ opC := hC
        have nS : op ≠ opS := hS
        have nMi : op ≠ opMi := hMi
        have nMa : op ≠ opMa := hMa
        have qC : (op.toList == [99, 111, 117, 110, 116]) = false := (lit_beq op _ opC rfl).trans (decide_eq_false nC)
        have qC' : (op.toList != [99, 111, 117, 110, 116]) = true := by rw [bne, qC]; rfl
        have qS : (op.toList == [115, 117, 109]) = false := (lit_beq op _ opS rfl).trans (decide_eq_false nS)
        have qS' : (op.toList != [115, 117, 109]) = true := by rw [bne, qS]; rfl
        have qMi : (op.toList == [109, 105, 110]) = false := (lit_beq op _ opMi rfl).trans (decide_eq_false nMi)
        have qMi' : (op.toList != [109, 105, 110]) = true := by rw [bne, qMi]; rfl
        have qMa : (op.toList == [109, 97, 120]) = false := (lit_beq op _ opMa rfl).trans (decide_eq_false nMa)
        have qMa' : (op.toList != [109, 97, 120]) = true := by rw [bne, qMa]; rfl
        have Hn := Lib.hid (show V = (20, []) by rw [Hst.out, aggV_other nC nS nMi nMa]; rfl)
        clear hC hS hMi hMa nC nS nMi nMa
        clear Hst
        go_wp2_with fail
        refine Hfa.out.mono ?_
        rintro e w1 ⟨rfl, t1⟩
        obtain ⟨g0, g1, g2, _, _, _⟩ := blk3 (t1.blk HTa.out.2 (by simp))
        have HM1 := Lib.hid (((HT0.out.1.trans0 HM.out.t).trans0 HTa.out.1).trans0 t1)
        clear t1 HM
        go_wp2
        go_ret2
        rw [Hn.out]
        exact SchPost.err 20 HM1.out

set_option maxRecDepth 40000 in
set_option maxHeartbeats 25600000 in
theorem own_group (x : PC) (hk0 : x.kind = 6) (SA SB : Option Addr) (c1 c2 n2 : Nat) (a : List CD) (hla : a.length ≤ 1000000) (w : World) (ha : ColsAt w SA a) (names : List ByteArray) (aggs : List AG) (hnn : x.names.n = names.length) (han : x.aggs.n = aggs.length) (hln : names.length ≤ 100000) (hlg : aggs.length ≤ 100000) (hr : RdK btE w x.names.A names) (hg : RdK agE w x.aggs.A aggs) :
    Calls Tryz.prog 32 #[x.val, .slice SA a.length c1, .slice SB n2 c2] w (LawPost (groupV a names aggs) w) := by
  obtain ⟨k0, k1, ⟨A2, n2, c2'⟩, ⟨⟨ck, cn, ⟨cvk, cvn, cvt⟩, cop⟩, CA, cnn, cc⟩, ⟨NA, nn, nc⟩, ⟨EA, en, ec⟩, ⟨OA, ol, oc⟩, ⟨GA, gn, gc⟩, ⟨BA, bn, bc⟩, count⟩ := x
  dsimp only at hk0 hnn han hr hg
  subst hk0
  have Hk := Lib.hid fun w' (t : Touch [] w w') => group5_any ⟨6, k1, ⟨A2, n2, c2'⟩, ⟨⟨ck, cn, ⟨cvk, cvn, cvt⟩, cop⟩, CA, cnn, cc⟩, ⟨NA, nn, nc⟩, ⟨EA, en, ec⟩, ⟨OA, ol, oc⟩, ⟨GA, gn, gc⟩, ⟨BA, bn, bc⟩, count⟩ names aggs hnn han SA c1 a.length a rfl hla hln hlg w' (RdK.touch0 hr t) (RdK.touch0 hg t) (ha.touch0 t)
  simp only [PC.val] at *
  obtain ⟨V, hV⟩ : ∃ V, V = groupV a names aggs := ⟨_, rfl⟩
  rw [← hV] at Hk ⊢
  clear hnn han hr hg hV
  have ta := (Touch.refl [] w).alloc (.cells #[.int .i64 6, .string k1, .slice A2 n2 c2', .int .i64 ck, .string cn, .int .i64 cvk, .int .i64 cvn, .string cvt, .string cop, .slice CA cnn cc, .slice NA nn nc, .slice EA en ec, .slice OA ol oc, .slice GA gn gc, .slice BA bn bc, .int .i64 count] 49)
  have HT := Lib.hid ta
  clear ta ha
  go_enter Tryz.func32, Tryz.ntmps32
  go_wp2_with fail
  refine (Hk.out _ HT.out).mono ?_
  rintro e w1 ⟨A1, cc1, rfl, m1⟩
  go_wp2
  go_ret2
  exact ⟨⟨A1, V.2.length, cc1⟩, rfl, rfl, m1.own.rd, HT.out.trans0 m1.t⟩
end Go.Proofs.YtafoklilkdnepaaGreatDoor
