/- Part 21 of the texts of this proof, one behind the other; each begins with its own sentence. No condition beyond those that its theorems state. -/
import Derived.Test.YtafoklilkdnepaaGreatDoorRt20
/- bywashlaw05: keep; own at where, keep, union, distinct, first. (gen_rllaw1.py) -/
namespace Go.Proofs.YtafoklilkdnepaaGreatDoor
open Go.RowKit

/-- a schema and an error, wherever the schema is -/
def LawPost (v : Int × List CD) (w : World) (e : Ending) (w' : World) : Prop := ∃ s : SL, e = .returned (.tuple #[.slice s.A s.n s.c, .int .i64 v.1]) ∧ s.n = v.2.length ∧ ColsAt w' s.A v.2 ∧ Touch [] w w'
theorem LawPost.of {v : Int × List CD} {w : World} {e : Ending} {w' : World} (h : SchPost v w e w') : LawPost v w e w' := by
  obtain ⟨A, c, rfl, hm⟩ := h
  exact ⟨⟨A, v.2.length, c⟩, rfl, rfl, hm.own.rd, hm.t⟩
theorem LawPost.err {w w' : World} (k : Int) (ht : Touch [] w w') : LawPost (k, []) w (.returned (.tuple #[.slice none 0 0, .int .i64 k])) w' := ⟨⟨none, 0, 0⟩, rfl, rfl, RdK.nil _ _ _, ht⟩
theorem LawPost.same {w w' : World} {A : Option Addr} {c : Nat} {a : List CD} {k : Int} (h : ColsAt w A a) (t : Touch [] w w') : LawPost (k, a) w (.returned (.tuple #[.slice A a.length c, .int .i64 k])) w' := ⟨⟨A, a.length, c⟩, rfl, rfl, h.touch0 t, t⟩
theorem LawPost.pre {v : Int × List CD} {w w0 : World} {e : Ending} {w' : World} (h : LawPost v w e w') (t : Touch [] w0 w) : LawPost v w0 e w' := by
  obtain ⟨s, h1, h2, h3, h4⟩ := h
  exact ⟨s, h1, h2, h3, t.trans0 h4⟩
theorem memI_snoc (l : List Int) (t : Int) : memI (l ++ [t]) 0 = (memI l 0 || decide ((0 : Int) = t)) := by unfold memI; simp

set_option maxRecDepth 40000 in
set_option maxHeartbeats 12800000 in
theorem keep5_any (x : PC) (names : List ByteArray) (xs : List XC) (ets : List (Int × Int)) (hnn : x.names.n = names.length) (hen : x.exprs.n = xs.length) (hle : ets.length = xs.length) (SA : Option Addr) (c1 n1 : Nat) (hln : names.length ≤ 100000) (hlx : xs.length ≤ 100000) (w : World)
    (hr : RdK btE w x.names.A names) (hx : RdK xcE w x.exprs.A xs) (hE : ∀ i (h1 : i < xs.length) (h2 : i < ets.length), ETypeC w SA c1 n1 xs[i] ets[i]) :
    Calls Tryz.prog 69 #[x.val, .slice SA n1 c1] w (SchPost (keepV names ets) w) := by
  have Hv := Lib.hid (show keepV names ets = if names.length = ets.length then (if errX ets = 0 then (if memI ((keepC names ets).map (·.typ)) 0 = true then (12, []) else (0, keepC names ets)) else (errX ets, [])) else (20, []) from rfl)
  obtain ⟨V, hV⟩ : ∃ V, V = keepV names ets := ⟨_, rfl⟩
  rw [← hV] at Hv ⊢
  clear hV
  obtain ⟨k0, k1, ⟨A2, n2, c2'⟩, ⟨⟨ck, cn, ⟨cvk, cvn, cvt⟩, cop⟩, CA, cnn, cc⟩, ⟨NA, nn, nc⟩, ⟨EA, en, ec⟩, ⟨OA, ol, oc⟩, ⟨GA, gn, gc⟩, ⟨BA, bn, bc⟩, count⟩ := x
  simp only [PC.val] at *
  subst hnn hen
  obtain ⟨W, hW⟩ : ∃ W, W = w.alloc (.cells #[.int .i64 k0, .string k1, .slice A2 n2 c2', .int .i64 ck, .string cn, .int .i64 cvk, .int .i64 cvn, .string cvt, .string cop, .slice CA cnn cc, .slice NA names.length nc, .slice EA xs.length ec, .slice OA ol oc, .slice GA gn gc, .slice BA bn bc, .int .i64 count] 49) := ⟨_, rfl⟩
  have t0 : Touch [] w W := hW ▸ (Touch.refl [] w).alloc _
  have hb0 := hW ▸ heap_alloc_new w (.cells #[.int .i64 k0, .string k1, .slice A2 n2 c2', .int .i64 ck, .string cn, .int .i64 cvk, .int .i64 cvn, .string cvt, .string cop, .slice CA cnn cc, .slice NA names.length nc, .slice EA xs.length ec, .slice OA ol oc, .slice GA gn gc, .slice BA bn bc, .int .i64 count] 49)
  have c10 : W.cell? ⟨w.heap.size, 10, none⟩ = some (.slice NA names.length nc) := cell_blk hb0 rfl
  have HW := Lib.hid hW
  have HT0 := Lib.hid (And.intro t0 c10)
  have HRW := Lib.hid (And.intro (hr.touch0 t0) (hx.touch0 t0))
  have HEt := Lib.hid hE
  have Hle := Lib.hid hle
  clear t0 hb0 hW c10 hr hx hE hle
  by_cases hl : names.length = xs.length
  rotate_left
  · have Hn := Lib.hid (show V = (20, []) by rw [Hv.out, Hle.out, if_neg hl])
    have hlb : ((names.length : Int) == (xs.length : Int)) = false := by rw [beq_eq_false_iff_ne]; omega
    have hlb' : ((names.length : Int) != (xs.length : Int)) = true := by rw [bne, hlb]; rfl
    clear Hv hl
    go_enter Tryz.func69, Tryz.ntmps69
    go_wp2
    go_ret2
    rw [Hn.out]
    rw [← HW.out]
    exact SchPost.err 20 HT0.out.1
  have Hv1 := Lib.hid (show V = if errX ets = 0 then (if memI ((keepC names ets).map (·.typ)) 0 = true then (12, []) else (0, keepC names ets)) else (errX ets, []) by rw [Hv.out, Hle.out, if_pos hl])
  have hlb : ((names.length : Int) == (xs.length : Int)) = true := by rw [beq_iff_eq]; omega
  have hlb' : ((names.length : Int) != (xs.length : Int)) = false := by rw [bne, hlb]; rfl
  have Hl := Lib.hid hl
  clear Hv hl
  go_enter Tryz.func69, Tryz.ntmps69
  go_wp2_with fail
  rw [← HW.out]
  clear hlb hlb'
  go_loopw [6, 7, 22] (fun o b i wr => ∃ (k : Nat) (A : Option Addr) (c : Nat) (acc : List CD) (B : Bool), k ≤ xs.length ∧ i = .int .i64 k ∧ o = .slice A k c ∧ b = .bool B ∧ Hid (B = memI (acc.map (·.typ)) 0) ∧ Hid (acc = (keepC names ets).take k) ∧ Hid (∀ i (hi : i < k) (h2 : i < ets.length), ets[i].2 = 0) ∧ Hid (Made 29 2 cdE acc A c W wr)) (fun _ _ i _ => xs.length - (intOf i).toNat)
  case atStart => exact ⟨0, none, 0, [], false, by omega, rfl, rfl, rfl, Lib.hid rfl, Lib.hid rfl, Lib.hid (fun i h => absurd h (by omega)), Lib.hid (Made.nil _ _ _ _)⟩
  case round =>
    obtain ⟨k, A, c, acc, B, hk, rfl, rfl, rfl, HB, HA, HZ, HM⟩ := hrel
    have HL : Hid (acc.length = k) := Lib.hid (by rw [HA.out, List.length_take]; unfold keepC; rw [List.length_zipWith, Hle.out, Hl.out]; omega)
    by_cases hlt : k < xs.length
    · have hke : k < ets.length := by rw [Hle.out]; exact hlt
      have hkn : k < names.length := by rw [Hl.out]; exact hlt
      have hkk : k < (keepC names ets).length := by unfold keepC; rw [List.length_zipWith]; omega
      obtain ⟨ad, b1, o1, rfl, hadd, hc⟩ := RdK.cells (HRW.out.2.touch0 HM.out.t) 7 xcE_length (by omega) k hlt
      obtain ⟨ad2, b2, o2, rfl, hadd2, hc2⟩ := RdK.cells (HRW.out.1.touch0 HM.out.t) 1 btE_length (by omega) k hkn
      rw [Nat.mul_one] at hadd2
      have f0 := hc2 0 _ rfl
      rw [Nat.add_zero] at f0
      have het := HEt.out k hlt hke
      have hst : (keepC names ets).take (k + 1) = acc ++ [⟨names[k], ets[k].1⟩] := by
        have hg : (keepC names ets)[k] = ⟨names[k], ets[k].1⟩ := by simp [keepC]
        rw [List.take_succ_eq_append_getElem hkk, hg, HA.out]
      have her := fun h0 => errX_at (l := ets) hke (fun i hi => HZ.out i hi (by omega)) h0
      obtain ⟨y, hy⟩ : ∃ y, y = xs[k] := ⟨_, rfl⟩
      obtain ⟨u, hu⟩ : ∃ u, u = ets[k] := ⟨_, rfl⟩
      obtain ⟨nm, hnm⟩ : ∃ nm, nm = names[k] := ⟨_, rfl⟩
      rw [← hy] at hc het
      rw [← hu] at het hst her
      rw [← hnm] at f0 hst
      have Hu := Lib.hid hu
      obtain ⟨uty, uer⟩ := u
      obtain ⟨⟨yk, yn, ⟨yvk, yvn, yvt⟩, yop⟩, YA, ynn, yc⟩ := y
      have e0 := hc 0 _ rfl; have e1 := hc 1 _ rfl; have e2 := hc 2 _ rfl; have e3 := hc 3 _ rfl; have e4 := hc 4 _ rfl; have e5 := hc 5 _ rfl; have e6 := hc 6 _ rfl
      rw [Nat.add_zero] at e0
      dsimp only at e0 e1 e2 e3 e4 e5 e6 hst her
      have ta := (Touch.refl [] wr).alloc (.cells #[.int .i64 yk, .string yn, .int .i64 yvk, .int .i64 yvn, .string yvt, .string yop, .slice YA ynn yc] 44)
      have het2 := het _ ((HT0.out.1.trans0 HM.out.t).trans0 ta)
      simp only [XC.val] at het2
      have Het := Lib.hid het2
      have Hst := Lib.hid hst
      have HTa := Lib.hid ta
      have hkn' : (k : Int) < (xs.length : Int) := by omega
      have hkn2 : (k : Int) < (names.length : Int) := by omega
      have hk0 : (0 : Int) ≤ (k : Int) := by omega
      have d10 := (HM.out.t.trans0 ta).cell HT0.out.2 (by simp)
      have f0' := ta.cell f0 (by simp)
      have Hms := Lib.hid (show memI ((acc ++ [(⟨nm, uty⟩ : CD)]).map (·.typ)) 0 = (B || decide ((0 : Int) = uty)) by rw [List.map_append, List.map_cons, List.map_nil, memI_snoc, HB.out])
      clear hc hc2 het het2 hst hy hu hnm ta hkk f0
      by_cases hz : uer = 0
      rotate_left
      · have Hn := Lib.hid (show V = (uer, []) by rw [Hv1.out, her hz, if_neg hz])
        have hq : (uer == 0) = false := by rw [beq_eq_false_iff_ne]; exact hz
        have hq' : (uer != 0) = true := by rw [bne, hq]; rfl
        clear her
        go_wp2_with fail
        refine Het.out.mono ?_
        rintro e w1 ⟨rfl, t1⟩
        go_wp2
        go_ret2
        rw [Hn.out]
        exact SchPost.err uer (((HT0.out.1.trans0 HM.out.t).trans0 HTa.out).trans0 t1)
      subst hz
      clear her
      cases B
      · by_cases hu0 : uty = 0
        · have Hnb := Lib.hid (show true = memI ((acc ++ [(⟨nm, uty⟩ : CD)]).map (·.typ)) 0 by rw [Hms.out]; rw [decide_eq_true hu0.symm]; rfl)
          have hub : (uty == 0) = true := by rw [beq_iff_eq]; exact hu0
          clear hu0
          go_wp2_with fail
          refine Het.out.mono ?_
          rintro e w1 ⟨rfl, t1⟩
          have g10 := t1.cell d10 (by simp)
          have h0 := t1.cell f0' (by simp)
          have HM1 := Lib.hid ((HM.out.touch0 HTa.out).touch0 t1)
          clear t1 HM d10 f0'
          go_wp2_with (at_builtin; refine stop ?_)
          refine go ?_
          have tb := (Touch.refl [] w1).alloc (.cells #[.string nm, .int .i64 uty] 29)
          refine wpList_appK (enc := cdE) rfl (.tmp 41) (.tmp 49) 24 rfl 29 _ 2 24 info_c5 Tryz.underlying24 rfl (by omega) cdE_length cdE_one A k c acc HL.out rfl (HM1.out.touch0 tb).own
            (some ⟨w1.heap.size, 0, none⟩) 1 1 [⟨nm, uty⟩] rfl rfl (RdK.one (enc := cdE) w1 29 ⟨nm, uty⟩ _ rfl) (by omega) (by omega) ?_
          intro A' c' w' hown ht hf
          have HX := Lib.hid ((HM1.out.touch0 tb).step hown ht hf)
          clear hown ht hf tb
          go_wp2_with fail
          go_roundw
          case rel => exact ⟨k + 1, A', c', acc ++ [⟨nm, uty⟩], true, by omega, by go_num, rfl, rfl, Hnb, Lib.hid Hst.out.symm, Lib.hid (fun i hi h2 => by
            by_cases hij : i = k
            · subst hij; rw [← Hu.out]
            · exact HZ.out i (by omega) h2), HX⟩
          case measure => simp [intOf]; omega
        · have Hnb := Lib.hid (show false = memI ((acc ++ [(⟨nm, uty⟩ : CD)]).map (·.typ)) 0 by rw [Hms.out]; rw [decide_eq_false (fun h => hu0 h.symm)]; rfl)
          have hub : (uty == 0) = false := by rw [beq_eq_false_iff_ne]; exact hu0
          clear hu0
          go_wp2_with fail
          refine Het.out.mono ?_
          rintro e w1 ⟨rfl, t1⟩
          have g10 := t1.cell d10 (by simp)
          have h0 := t1.cell f0' (by simp)
          have HM1 := Lib.hid ((HM.out.touch0 HTa.out).touch0 t1)
          clear t1 HM d10 f0'
          go_wp2_with (at_builtin; refine stop ?_)
          refine go ?_
          have tb := (Touch.refl [] w1).alloc (.cells #[.string nm, .int .i64 uty] 29)
          refine wpList_appK (enc := cdE) rfl (.tmp 41) (.tmp 49) 24 rfl 29 _ 2 24 info_c5 Tryz.underlying24 rfl (by omega) cdE_length cdE_one A k c acc HL.out rfl (HM1.out.touch0 tb).own
            (some ⟨w1.heap.size, 0, none⟩) 1 1 [⟨nm, uty⟩] rfl rfl (RdK.one (enc := cdE) w1 29 ⟨nm, uty⟩ _ rfl) (by omega) (by omega) ?_
          intro A' c' w' hown ht hf
          have HX := Lib.hid ((HM1.out.touch0 tb).step hown ht hf)
          clear hown ht hf tb
          go_wp2_with fail
          go_roundw
          case rel => exact ⟨k + 1, A', c', acc ++ [⟨nm, uty⟩], false, by omega, by go_num, rfl, rfl, Hnb, Lib.hid Hst.out.symm, Lib.hid (fun i hi h2 => by
            by_cases hij : i = k
            · subst hij; rw [← Hu.out]
            · exact HZ.out i (by omega) h2), HX⟩
          case measure => simp [intOf]; omega
      · have Hnb := Lib.hid (show true = memI ((acc ++ [(⟨nm, uty⟩ : CD)]).map (·.typ)) 0 by rw [Hms.out]; rfl)
        go_wp2_with fail
        refine Het.out.mono ?_
        rintro e w1 ⟨rfl, t1⟩
        have g10 := t1.cell d10 (by simp)
        have h0 := t1.cell f0' (by simp)
        have HM1 := Lib.hid ((HM.out.touch0 HTa.out).touch0 t1)
        clear t1 HM d10 f0'
        go_wp2_with (at_builtin; refine stop ?_)
        refine go ?_
        have tb := (Touch.refl [] w1).alloc (.cells #[.string nm, .int .i64 uty] 29)
        refine wpList_appK (enc := cdE) rfl (.tmp 41) (.tmp 49) 24 rfl 29 _ 2 24 info_c5 Tryz.underlying24 rfl (by omega) cdE_length cdE_one A k c acc HL.out rfl (HM1.out.touch0 tb).own
          (some ⟨w1.heap.size, 0, none⟩) 1 1 [⟨nm, uty⟩] rfl rfl (RdK.one (enc := cdE) w1 29 ⟨nm, uty⟩ _ rfl) (by omega) (by omega) ?_
        intro A' c' w' hown ht hf
        have HX := Lib.hid ((HM1.out.touch0 tb).step hown ht hf)
        clear hown ht hf tb
        go_wp2_with fail
        go_roundw
        case rel => exact ⟨k + 1, A', c', acc ++ [⟨nm, uty⟩], true, by omega, by go_num, rfl, rfl, Hnb, Lib.hid Hst.out.symm, Lib.hid (fun i hi h2 => by
          by_cases hij : i = k
          · subst hij; rw [← Hu.out]
          · exact HZ.out i (by omega) h2), HX⟩
        case measure => simp [intOf]; omega
    · obtain rfl : k = xs.length := by omega
      have hz : errX ets = 0 := errX_zero fun u hu => by
        obtain ⟨i, hi, rfl⟩ := List.mem_iff_getElem.1 hu
        exact HZ.out i (by rw [← Hle.out]; exact hi) hi
      have hacc : acc = keepC names ets := by
        rw [HA.out, List.take_of_length_le]
        unfold keepC; rw [List.length_zipWith, Hle.out]; omega
      have Hn := Lib.hid (show V = if B = true then (12, []) else (0, acc) by rw [Hv1.out, if_pos hz, hacc, HB.out, hacc])
      clear hz hacc HA HZ HB
      cases B
      · have Hn2 := Lib.hid (show V = (0, acc) by rw [Hn.out, if_neg (by simp)])
        clear Hn
        go_wp2
        go_ret2
        rw [Hn2.out]
        have hm := HM.out
        have hl := HL.out
        exact ⟨A, c, by rw [← hl]; rfl, hm.own, HT0.out.1.trans0 hm.t, fun b hb => Nat.le_trans HT0.out.1.size (hm.f b hb)⟩
      · have Hn2 := Lib.hid (show V = (12, []) by rw [Hn.out, if_pos rfl])
        clear Hn
        go_wp2
        go_ret2
        rw [Hn2.out]
        exact SchPost.err 12 (HT0.out.1.trans0 HM.out.t)

set_option maxRecDepth 40000 in
set_option maxHeartbeats 12800000 in
theorem own_where (x : PC) (hk0 : x.kind = 2) (SA SB : Option Addr) (c1 c2 n2 : Nat) (a : List CD) (hla : a.length ≤ 1000000) (w : World) (ha : ColsAt w SA a) (r : Int × Int) (hE : ETypeC w SA c1 a.length x.cond r) :
    Calls Tryz.prog 32 #[x.val, .slice SA a.length c1, .slice SB n2 c2] w (LawPost (r.2, a) w) := by
  obtain ⟨k0, k1, ⟨A2, n2, c2'⟩, ⟨⟨ck, cn, ⟨cvk, cvn, cvt⟩, cop⟩, CA, cnn, cc⟩, ⟨NA, nn, nc⟩, ⟨EA, en, ec⟩, ⟨OA, ol, oc⟩, ⟨GA, gn, gc⟩, ⟨BA, bn, bc⟩, count⟩ := x
  dsimp only at hk0 hE
  subst hk0
  have Het := Lib.hid hE
  simp only [XC.val, ETypeC] at Het
  simp only [PC.val] at *
  obtain ⟨r1, r2⟩ := r
  dsimp only at Het ⊢
  clear hE
  have ta := (Touch.refl [] w).alloc (.cells #[.int .i64 2, .string k1, .slice A2 n2 c2', .int .i64 ck, .string cn, .int .i64 cvk, .int .i64 cvn, .string cvt, .string cop, .slice CA cnn cc, .slice NA nn nc, .slice EA en ec, .slice OA ol oc, .slice GA gn gc, .slice BA bn bc, .int .i64 count] 49)
  have hbx := heap_alloc_new w (.cells #[.int .i64 2, .string k1, .slice A2 n2 c2', .int .i64 ck, .string cn, .int .i64 cvk, .int .i64 cvn, .string cvt, .string cop, .slice CA cnn cc, .slice NA nn nc, .slice EA en ec, .slice OA ol oc, .slice GA gn gc, .slice BA bn bc, .int .i64 count] 49)
  have HT := Lib.hid (And.intro ta hbx)
  have HA := Lib.hid ha
  clear ta hbx ha
  go_enter Tryz.func32, Tryz.ntmps32
  go_wp2_with fail
  refine (Het.out _ HT.out.1).mono ?_
  rintro e w1 ⟨rfl, t1⟩
  go_wp2
  go_ret2
  exact LawPost.same HA.out (HT.out.1.trans0 t1)

set_option maxRecDepth 40000 in
set_option maxHeartbeats 12800000 in
theorem own_keep (x : PC) (hk0 : x.kind = 3) (SA SB : Option Addr) (c1 c2 n2 : Nat) (a : List CD) (hla : a.length ≤ 1000000) (w : World) (ha : ColsAt w SA a) (names : List ByteArray) (xs : List XC) (ets : List (Int × Int)) (hnn : x.names.n = names.length) (hen : x.exprs.n = xs.length) (hle : ets.length = xs.length) (hln : names.length ≤ 100000) (hlx : xs.length ≤ 100000) (hr : RdK btE w x.names.A names) (hx : RdK xcE w x.exprs.A xs) (hE : ∀ i (h1 : i < xs.length) (h2 : i < ets.length), ETypeC w SA c1 a.length xs[i] ets[i]) :
    Calls Tryz.prog 32 #[x.val, .slice SA a.length c1, .slice SB n2 c2] w (LawPost (keepV names ets) w) := by
  obtain ⟨k0, k1, ⟨A2, n2, c2'⟩, ⟨⟨ck, cn, ⟨cvk, cvn, cvt⟩, cop⟩, CA, cnn, cc⟩, ⟨NA, nn, nc⟩, ⟨EA, en, ec⟩, ⟨OA, ol, oc⟩, ⟨GA, gn, gc⟩, ⟨BA, bn, bc⟩, count⟩ := x
  dsimp only at hk0 hnn hen hr hx
  subst hk0
  have Hk := Lib.hid fun w' (t : Touch [] w w') => keep5_any ⟨3, k1, ⟨A2, n2, c2'⟩, ⟨⟨ck, cn, ⟨cvk, cvn, cvt⟩, cop⟩, CA, cnn, cc⟩, ⟨NA, nn, nc⟩, ⟨EA, en, ec⟩, ⟨OA, ol, oc⟩, ⟨GA, gn, gc⟩, ⟨BA, bn, bc⟩, count⟩ names xs ets hnn hen hle SA c1 a.length hln hlx w' (RdK.touch0 hr t) (RdK.touch0 hx t) (fun i h1 h2 w'' t2 => hE i h1 h2 w'' (t.trans0 t2))
  simp only [PC.val] at *
  obtain ⟨V, hV⟩ : ∃ V, V = keepV names ets := ⟨_, rfl⟩
  rw [← hV] at Hk ⊢
  clear hnn hen hr hx hE hV
  have ta := (Touch.refl [] w).alloc (.cells #[.int .i64 3, .string k1, .slice A2 n2 c2', .int .i64 ck, .string cn, .int .i64 cvk, .int .i64 cvn, .string cvt, .string cop, .slice CA cnn cc, .slice NA nn nc, .slice EA en ec, .slice OA ol oc, .slice GA gn gc, .slice BA bn bc, .int .i64 count] 49)
  have hbx := heap_alloc_new w (.cells #[.int .i64 3, .string k1, .slice A2 n2 c2', .int .i64 ck, .string cn, .int .i64 cvk, .int .i64 cvn, .string cvt, .string cop, .slice CA cnn cc, .slice NA nn nc, .slice EA en ec, .slice OA ol oc, .slice GA gn gc, .slice BA bn bc, .int .i64 count] 49)
  have HT := Lib.hid (And.intro ta hbx)
  have HA := Lib.hid ha
  clear ta hbx ha
  go_enter Tryz.func32, Tryz.ntmps32
  go_wp2_with fail
  refine (Hk.out _ HT.out.1).mono ?_
  rintro e w1 ⟨A1, cc1, rfl, m1⟩
  go_wp2
  go_ret2
  exact ⟨⟨A1, V.2.length, cc1⟩, rfl, rfl, m1.own.rd, HT.out.1.trans0 m1.t⟩

set_option maxRecDepth 40000 in
set_option maxHeartbeats 12800000 in
theorem own_union (x : PC) (hk0 : x.kind = 7) (SA SB : Option Addr) (c1 c2 n2 : Nat) (a : List CD) (hla : a.length ≤ 1000000) (w : World) (ha : ColsAt w SA a) (b : List CD) (hb2 : b.length = n2) (hlb : b.length ≤ 1000000) (hb : ColsAt w SB b) :
    Calls Tryz.prog 32 #[x.val, .slice SA a.length c1, .slice SB n2 c2] w (LawPost (if eqCs a b = true then (0, a) else (12, [])) w) := by
  obtain ⟨k0, k1, ⟨A2, n2, c2'⟩, ⟨⟨ck, cn, ⟨cvk, cvn, cvt⟩, cop⟩, CA, cnn, cc⟩, ⟨NA, nn, nc⟩, ⟨EA, en, ec⟩, ⟨OA, ol, oc⟩, ⟨GA, gn, gc⟩, ⟨BA, bn, bc⟩, count⟩ := x
  dsimp only at hk0
  subst hk0
  subst hb2
  have Heq := Lib.hid fun w' (t : Touch [] w w') => schEqual_any SA SB c1 c2 a.length b.length a b rfl rfl w' (ha.touch0 t) (hb.touch0 t) (by omega) (by omega)
  simp only [PC.val] at *
  obtain ⟨K, hK⟩ : ∃ K, K = eqCs a b := ⟨_, rfl⟩
  rw [← hK] at Heq ⊢
  clear hb hK
  obtain ⟨G, hG⟩ : ∃ G, G = (if K = true then ((0 : Int), a) else (12, [])) := ⟨_, rfl⟩
  rw [← hG]
  have HG := Lib.hid hG
  clear hG
  have ta := (Touch.refl [] w).alloc (.cells #[.int .i64 7, .string k1, .slice A2 n2 c2', .int .i64 ck, .string cn, .int .i64 cvk, .int .i64 cvn, .string cvt, .string cop, .slice CA cnn cc, .slice NA nn nc, .slice EA en ec, .slice OA ol oc, .slice GA gn gc, .slice BA bn bc, .int .i64 count] 49)
  have hbx := heap_alloc_new w (.cells #[.int .i64 7, .string k1, .slice A2 n2 c2', .int .i64 ck, .string cn, .int .i64 cvk, .int .i64 cvn, .string cvt, .string cop, .slice CA cnn cc, .slice NA nn nc, .slice EA en ec, .slice OA ol oc, .slice GA gn gc, .slice BA bn bc, .int .i64 count] 49)
  have HT := Lib.hid (And.intro ta hbx)
  have HA := Lib.hid ha
  clear ta hbx ha
  go_enter Tryz.func32, Tryz.ntmps32
  go_wp2_with fail
  refine (Heq.out _ HT.out.1).mono ?_
  rintro e w1 ⟨rfl, t1⟩
  have z0 := t1.cell (cell_blk HT.out.2 (i := 0) (v := .int .i64 7) rfl) (by simp)
  cases K
  · go_wp2
    go_ret2
    rw [show G = (12, []) from HG.out]
    exact LawPost.err 12 (HT.out.1.trans0 t1)
  · go_wp2
    go_ret2
    rw [show G = (0, a) from HG.out]
    exact LawPost.same HA.out (HT.out.1.trans0 t1)

set_option maxRecDepth 40000 in
set_option maxHeartbeats 12800000 in
theorem own_distinct (x : PC) (hk0 : x.kind = 8) (SA SB : Option Addr) (c1 c2 n2 : Nat) (a : List CD) (hla : a.length ≤ 1000000) (w : World) (ha : ColsAt w SA a)  :
    Calls Tryz.prog 32 #[x.val, .slice SA a.length c1, .slice SB n2 c2] w (LawPost (0, a) w) := by
  obtain ⟨k0, k1, ⟨A2, n2, c2'⟩, ⟨⟨ck, cn, ⟨cvk, cvn, cvt⟩, cop⟩, CA, cnn, cc⟩, ⟨NA, nn, nc⟩, ⟨EA, en, ec⟩, ⟨OA, ol, oc⟩, ⟨GA, gn, gc⟩, ⟨BA, bn, bc⟩, count⟩ := x
  dsimp only at hk0
  subst hk0
  simp only [PC.val] at *
  have ta := (Touch.refl [] w).alloc (.cells #[.int .i64 8, .string k1, .slice A2 n2 c2', .int .i64 ck, .string cn, .int .i64 cvk, .int .i64 cvn, .string cvt, .string cop, .slice CA cnn cc, .slice NA nn nc, .slice EA en ec, .slice OA ol oc, .slice GA gn gc, .slice BA bn bc, .int .i64 count] 49)
  have hbx := heap_alloc_new w (.cells #[.int .i64 8, .string k1, .slice A2 n2 c2', .int .i64 ck, .string cn, .int .i64 cvk, .int .i64 cvn, .string cvt, .string cop, .slice CA cnn cc, .slice NA nn nc, .slice EA en ec, .slice OA ol oc, .slice GA gn gc, .slice BA bn bc, .int .i64 count] 49)
  have HT := Lib.hid (And.intro ta hbx)
  have HA := Lib.hid ha
  clear ta hbx ha
  go_enter Tryz.func32, Tryz.ntmps32
  go_wp2
  go_ret2
  exact LawPost.same HA.out HT.out.1

set_option maxRecDepth 40000 in
set_option maxHeartbeats 12800000 in
theorem own_first (x : PC) (hk0 : x.kind = 9) (SA SB : Option Addr) (c1 c2 n2 : Nat) (a : List CD) (hla : a.length ≤ 1000000) (w : World) (ha : ColsAt w SA a) (l : List (ByteArray × Bool)) (hlb : x.by_.n = l.length) (hll : l.length ≤ 1000000) (hr : RdK odE w x.by_.A l) :
    Calls Tryz.prog 32 #[x.val, .slice SA a.length c1, .slice SB n2 c2] w (LawPost (if byV a l x.count = 0 then (0, a) else (byV a l x.count, [])) w) := by
  have Hv := Lib.hid (show byV a l x.count = if x.count < 0 then 20 else if l.all (fun p => (placeV a p.1).isSome) = true then 0 else 13 from rfl)
  obtain ⟨V, hV⟩ : ∃ V, V = byV a l x.count := ⟨_, rfl⟩
  rw [← hV] at Hv ⊢
  clear hV
  obtain ⟨G, hG⟩ : ∃ G, G = (if V = 0 then ((0 : Int), a) else (V, [])) := ⟨_, rfl⟩
  rw [← hG]
  have HG := Lib.hid hG
  clear hG
  obtain ⟨k0, k1, ⟨A2, n2, c2'⟩, ⟨⟨ck, cn, ⟨cvk, cvn, cvt⟩, cop⟩, CA, cnn, cc⟩, ⟨NA, nn, nc⟩, ⟨EA, en, ec⟩, ⟨OA, ol, oc⟩, ⟨GA, gn, gc⟩, ⟨BA, bn, bc⟩, count⟩ := x
  dsimp only at hk0 hlb hr Hv
  subst hk0
  subst hlb
  simp only [PC.val] at *
  have HR := Lib.hid hr
  clear hr
  have ta := (Touch.refl [] w).alloc (.cells #[.int .i64 9, .string k1, .slice A2 n2 c2', .int .i64 ck, .string cn, .int .i64 cvk, .int .i64 cvn, .string cvt, .string cop, .slice CA cnn cc, .slice NA nn nc, .slice EA en ec, .slice OA ol oc, .slice GA gn gc, .slice BA l.length bc, .int .i64 count] 49)
  have hbx := heap_alloc_new w (.cells #[.int .i64 9, .string k1, .slice A2 n2 c2', .int .i64 ck, .string cn, .int .i64 cvk, .int .i64 cvn, .string cvt, .string cop, .slice CA cnn cc, .slice NA nn nc, .slice EA en ec, .slice OA ol oc, .slice GA gn gc, .slice BA l.length bc, .int .i64 count] 49)
  have HT := Lib.hid (And.intro ta hbx)
  have HA := Lib.hid ha
  clear ta hbx ha
  go_enter Tryz.func32, Tryz.ntmps32
  by_cases hc : count < 0
  · have Hq := Lib.hid (show V = 20 by rw [Hv.out, if_pos hc])
    clear Hv
    go_wp2
    go_ret2
    rw [show G = (20, []) by rw [HG.out, Hq.out]; rfl]
    exact LawPost.err 20 HT.out.1
  have Hq := Lib.hid (show V = if l.all (fun p => (placeV a p.1).isSome) = true then 0 else 13 by rw [Hv.out, if_neg hc])
  have hc' : (count < 0) = False := eq_false hc
  clear Hv
  go_wp2_with fail
  go_loopw [102] (fun i wr => ∃ k : Nat, k ≤ l.length ∧ i = .int .i64 k ∧ Hid ((l.take k).all (fun p => (placeV a p.1).isSome) = true) ∧ Hid (Touch [] w wr)) (fun i _ => l.length - (intOf i).toNat)
  case atStart => exact ⟨0, by omega, rfl, Lib.hid rfl, Lib.hid HT.out.1⟩
  case round =>
    obtain ⟨k, hk, rfl, Hall, HTk⟩ := hrel
    by_cases hlt : k < l.length
    · obtain ⟨ad, b1, o1, rfl, hadd, hcx⟩ := RdK.cells (HR.out.touch0 HTk.out) 2 odE_length (by omega) k hlt
      have hno := all_no (p := fun p : ByteArray × Bool => (placeV a p.1).isSome) hlt
      have hyes := all_snoc (p := fun p : ByteArray × Bool => (placeV a p.1).isSome) hlt Hall.out
      obtain ⟨p, hp⟩ : ∃ p, p = l[k] := ⟨_, rfl⟩
      rw [← hp] at hcx hno hyes
      obtain ⟨p1, p2⟩ := p
      have e0 := hcx 0 _ rfl
      have e1 := hcx 1 _ rfl
      rw [Nat.add_zero] at e0
      have ta := (Touch.refl [] wr).alloc (.cells #[.string p1, .bool p2] 94)
      have hfa := find5_any SA c1 a.length a rfl p1 _ (HA.out.touch0 (HTk.out.trans0 ta)) (by omega)
      have hkn : (k : Int) < (l.length : Int) := by omega
      dsimp only at hno hyes
      have HTa := Lib.hid ta
      rcases hpl : placeV a p1 with _ | i
      · have Hz := Lib.hid (show V = 13 by rw [Hq.out, if_neg (by rw [hno (by rw [hpl]; rfl)]; simp)])
        have hfa2 : placeI a p1 = -1 := by unfold placeI; rw [hpl]
        rw [hfa2] at hfa
        have Hfa := Lib.hid hfa
        clear hfa hno hyes hcx hp ta hpl hfa2 Hall
        go_wp2_with fail
        refine Hfa.out.mono ?_
        rintro e w1 ⟨rfl, t1⟩
        go_wp2
        go_ret2
        rw [show G = (13, []) by rw [HG.out, Hz.out]; rfl]
        exact LawPost.err 13 ((HTk.out.trans0 HTa.out).trans0 t1)
      · have hfa2 : placeI a p1 = (i : Int) := by unfold placeI; rw [hpl]
        rw [hfa2] at hfa
        have Hfa := Lib.hid hfa
        have Hyes := Lib.hid (hyes (by rw [hpl]; rfl))
        have hi0 : ((i : Int) < 0) = False := eq_false (by omega)
        clear hfa hno hyes hcx hp ta hpl hfa2 Hall
        go_wp2_with fail
        refine Hfa.out.mono ?_
        rintro e w1 ⟨rfl, t1⟩
        have HT1 := Lib.hid ((HTk.out.trans0 HTa.out).trans0 t1)
        clear t1
        go_wp2_with fail
        go_roundw
        case rel => exact ⟨k + 1, by omega, by go_num, Hyes, HT1⟩
        case measure => simp [intOf]; omega
    · obtain rfl : k = l.length := by omega
      have Hz := Lib.hid (show V = 0 by
        have := Hall.out
        rw [List.take_length] at this
        rw [Hq.out, if_pos this])
      go_wp2
      go_ret2
      rw [show G = (0, a) by rw [HG.out, Hz.out]; rfl]
      exact LawPost.same HA.out HTk.out

end Go.Proofs.YtafoklilkdnepaaGreatDoor
