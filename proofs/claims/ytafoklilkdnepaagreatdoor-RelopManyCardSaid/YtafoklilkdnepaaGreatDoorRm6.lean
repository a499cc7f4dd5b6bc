/- Part 6 of the texts of this proof, one behind the other; each begins with its own sentence. No condition beyond those that its theorems state. -/
import Derived.Test.YtafoklilkdnepaaGreatDoorRm5
import Derived.Shelf.Small.Bits
import Derived.Shelf.Small.Strs
import Derived.Shelf.Small.Wraps
import Derived.Shelf.Strconv.Itoa0
import Derived.Shelf.Strconv.Itoa1
import Derived.Shelf.LaysM
import Derived.Shelf.Strconv.Itoa2
import Derived.Shelf.Strconv.Itoa3
import Derived.Shelf.Strings.Search1
import Derived.Shelf.Sort.Plain
import Derived.Shelf.Slices.Turned
import Derived.Shelf.Slices.Equal
import Derived.Shelf.Slices.CompactS
import Derived.Ground.Names2Prog
import Derived.Shelf.Slices.SearchI
import Derived.Shelf.Slices.Cells
import Derived.Shelf.Slices.In.SortNone
import Derived.Shelf.Slices.Empties2
import Derived.Test.YtafoklilkdnepaaGreatDoorProg
import Derived.Deep.RegionHeld3
/- relop.Plan.join: for every plan, tables and pairs. (gen_rljoin.py) -/
namespace Go.Proofs.YtafoklilkdnepaaGreatDoor
open Go.RowKit Go.Maps Go.ChangeMaps

set_option maxRecDepth 100000 in
set_option maxHeartbeats 25600000 in
theorem join_no (x : PC) (left : Bool) (hlv : left = false) (hleft : x.kind = 4) (on : List (ByteArray × ByteArray)) (ho : x.on.n = on.length) (hlo : on.length ≤ 1000) (sa ra sb rb : SL) (csA csB : List CD) (rowsA rowsB : List (List VD)) (w : World)
    (hTA : TabAt w sa ra csA rowsA) (hTB : TabAt w sb rb csB rowsB) (hr : RdK prE w x.on.A on) (hgA : GoodR w rowsA csA.length) (hgB : GoodR w rowsB csB.length)
    (hA0 : 0 < csA.length) (hB0 : 0 < csB.length) (hA1 : csA.length ≤ 16) (hB1 : csB.length ≤ 16) (hA2 : rowsA.length ≤ 4096) (hB2 : rowsB.length ≤ 4096) :
    Calls Tryz.prog 96 #[x.val, .agg #[.slice sa.A sa.n sa.c, .slice ra.A ra.n ra.c], .agg #[.slice sb.A sb.n sb.c, .slice rb.A rb.n rb.c]] w
      (JoinP left csB.length rowsA rowsB (placesV csA (on.map (·.1))) (placesV csB (on.map (·.2))) w) := by
  obtain ⟨PO, hPO⟩ : ∃ PO, PO = JoinP left csB.length rowsA rowsB (placesV csA (on.map (·.1))) (placesV csB (on.map (·.2))) w := ⟨_, rfl⟩
  rw [← hPO]
  have HPO := Lib.hid hPO
  obtain ⟨SA, sn, sc⟩ := sa
  obtain ⟨RA, rn, rc⟩ := ra
  obtain ⟨SB, tn, tc⟩ := sb
  obtain ⟨RB, un, uc⟩ := rb
  obtain ⟨k0, k1, ⟨A2, n2, c2'⟩, ⟨⟨ck, cn, ⟨cvk, cvn, cvt⟩, cop⟩, CA, cnn, cc⟩, ⟨NA, nn, nc⟩, ⟨EA, en, ec⟩, ⟨OA, ol, oc⟩, ⟨GA, gn, gc⟩, ⟨BA, bn, bc⟩, count⟩ := x
  dsimp only at hleft ho hr ⊢
  simp only [PC.val]
  obtain ⟨hA3, hA4, hA5, hA6, slA, hA7, hA8⟩ := hTA
  obtain ⟨hB3, hB4, hB5, hB6, slB, hB7, hB8⟩ := hTB
  dsimp only at hA3 hA4 hA5 hA6 hA7 hA8 hB3 hB4 hB5 hB6 hB7 hB8
  subst ho
  obtain ⟨W, hW⟩ : ∃ W, W = ((w.alloc (.cells #[.int .i64 4, .string k1, .slice A2 n2 c2', .int .i64 ck, .string cn, .int .i64 cvk, .int .i64 cvn, .string cvt, .string cop, .slice CA cnn cc, .slice NA nn nc, .slice EA en ec, .slice OA on.length oc, .slice GA gn gc, .slice BA bn bc, .int .i64 count] 49)).alloc (.cells #[.slice SA sn sc, .slice RA rn rc] 27)).alloc (.cells #[.slice SB tn tc, .slice RB un uc] 27) := ⟨_, rfl⟩
  have t0 : Touch [] w W := hW ▸ (((Touch.refl [] w).alloc _).alloc _).alloc _
  have hbp : W.heap[w.heap.size]? = some (.cells #[.int .i64 4, .string k1, .slice A2 n2 c2', .int .i64 ck, .string cn, .int .i64 cvk, .int .i64 cvn, .string cvt, .string cop, .slice CA cnn cc, .slice NA nn nc, .slice EA en ec, .slice OA on.length oc, .slice GA gn gc, .slice BA bn bc, .int .i64 count] 49 (0, 0)) := hW ▸ (((Touch.refl [] (w.alloc (.cells #[.int .i64 4, .string k1, .slice A2 n2 c2', .int .i64 ck, .string cn, .int .i64 cvk, .int .i64 cvn, .string cvt, .string cop, .slice CA cnn cc, .slice NA nn nc, .slice EA en ec, .slice OA on.length oc, .slice GA gn gc, .slice BA bn bc, .int .i64 count] 49))).alloc (.cells #[.slice SA sn sc, .slice RA rn rc] 27)).alloc (.cells #[.slice SB tn tc, .slice RB un uc] 27)).blk (heap_alloc_new w _) (by simp)
  have hba : W.heap[w.heap.size + 1]? = some (.cells #[.slice SA sn sc, .slice RA rn rc] 27 (0, 0)) := by
    have h1 := heap_alloc_new (w.alloc (.cells #[.int .i64 4, .string k1, .slice A2 n2 c2', .int .i64 ck, .string cn, .int .i64 cvk, .int .i64 cvn, .string cvt, .string cop, .slice CA cnn cc, .slice NA nn nc, .slice EA en ec, .slice OA on.length oc, .slice GA gn gc, .slice BA bn bc, .int .i64 count] 49)) (.cells #[.slice SA sn sc, .slice RA rn rc] 27)
    rw [World.size_alloc] at h1
    exact hW ▸ ((Touch.refl [] ((w.alloc (.cells #[.int .i64 4, .string k1, .slice A2 n2 c2', .int .i64 ck, .string cn, .int .i64 cvk, .int .i64 cvn, .string cvt, .string cop, .slice CA cnn cc, .slice NA nn nc, .slice EA en ec, .slice OA on.length oc, .slice GA gn gc, .slice BA bn bc, .int .i64 count] 49)).alloc (.cells #[.slice SA sn sc, .slice RA rn rc] 27))).alloc (.cells #[.slice SB tn tc, .slice RB un uc] 27)).blk h1 (by simp)
  have hbb : W.heap[w.heap.size + 1 + 1]? = some (.cells #[.slice SB tn tc, .slice RB un uc] 27 (0, 0)) := by
    have h1 := heap_alloc_new ((w.alloc (.cells #[.int .i64 4, .string k1, .slice A2 n2 c2', .int .i64 ck, .string cn, .int .i64 cvk, .int .i64 cvn, .string cvt, .string cop, .slice CA cnn cc, .slice NA nn nc, .slice EA en ec, .slice OA on.length oc, .slice GA gn gc, .slice BA bn bc, .int .i64 count] 49)).alloc (.cells #[.slice SA sn sc, .slice RA rn rc] 27)) (.cells #[.slice SB tn tc, .slice RB un uc] 27)
    rw [World.size_alloc, World.size_alloc] at h1
    exact hW ▸ h1
  have HLF := Lib.hid hlv
  clear hlv
  subst hleft
  have HW := Lib.hid hW
  have HT0 := Lib.hid t0
  have HBP := Lib.hid (And.intro hbp (And.intro hba hbb))
  have HON := Lib.hid (RdK.touch0 hr t0)
  have HAS := Lib.hid (And.intro hA3 (And.intro (hA5.touch0 t0) (And.intro hA6 (And.intro (hA7.touch t0 (by simp)) (RdK.touch0 hA8 t0)))))
  have HBS := Lib.hid (And.intro hB3 (And.intro (hB5.touch0 t0) (And.intro hB6 (And.intro (hB7.touch t0 (by simp)) (RdK.touch0 hB8 t0)))))
  have HGA := Lib.hid (hgA.touch0 t0)
  have HGB := Lib.hid (hgB.touch0 t0)
  have HLN := Lib.hid (And.intro hA0 (And.intro hB0 (And.intro hA1 hB1)))
  clear hW t0 hbp hba hbb hr hA3 hA4 hA5 hA6 hA7 hA8 hB3 hB4 hB5 hB6 hB7 hB8 hgA hgB hPO hA0 hB0
  go_enter Tryz.func96, Tryz.ntmps96
  go_wp2_with fail
  rw [← HW.out]
  go_loopw [8, 9, 28] (fun o o2 i wr => ∃ (k : Nat) (A : Option Addr) (c : Nat) (B : Option Addr) (d : Nat), k ≤ on.length ∧ i = .int .i64 k ∧ o = .slice A k c ∧ o2 = .slice B k d ∧ Hid (OwnK 9 1 btE wr A c ((on.take k).map (·.1))) ∧ Hid (OwnK 9 1 btE wr B d ((on.take k).map (·.2))) ∧ Hid (∀ b ∈ fpo A, W.heap.size ≤ b ∧ b ∉ fpo B) ∧ Hid (∀ b ∈ fpo B, W.heap.size ≤ b) ∧ Hid (Touch [] W wr)) (fun _ _ i _ => on.length - (intOf i).toNat)
  case atStart => exact ⟨0, none, 0, none, 0, by omega, rfl, rfl, rfl, Lib.hid (OwnK.nil _ _ _ _), Lib.hid (OwnK.nil _ _ _ _), Lib.hid (by simp [fpo]), Lib.hid (by simp [fpo]), Lib.hid (Touch.refl _ _)⟩
  case round =>
    obtain ⟨k, A, c, B, d, hk, rfl, rfl, rfl, HO1, HO2, HF1, HF2, HT⟩ := hrel
    by_cases hlt : k < on.length
    · obtain ⟨ad, b1, o1, rfl, hadd, hc⟩ := RdK.cells (HON.out.touch0 HT.out) 2 prE_length (by omega) k hlt
      have htk := List.take_succ_eq_append_getElem hlt
      obtain ⟨p, hp⟩ : ∃ p, p = on[k] := ⟨_, rfl⟩
      rw [← hp] at hc htk
      obtain ⟨p1, p2⟩ := p
      have e0 := hc 0 _ rfl
      have e1 := hc 1 _ rfl
      rw [Nat.add_zero] at e0
      have ta := (Touch.refl [] wr).alloc (.cells #[.string p1, .string p2] 39)
      have hbl := heap_alloc_new wr (.cells #[.string p1, .string p2] 39)
      have hl1 : Hid (((on.take k).map (·.1)).length = k) := Lib.hid (by rw [List.length_map, List.length_take]; omega)
      have hl2 : Hid (((on.take k).map (·.2)).length = k) := Lib.hid (by rw [List.length_map, List.length_take]; omega)
      have hn1 : Hid ((on.take (k + 1)).map (·.1) = (on.take k).map (·.1) ++ [p1]) := Lib.hid (by rw [htk, List.map_append]; rfl)
      have hn2 : Hid ((on.take (k + 1)).map (·.2) = (on.take k).map (·.2) ++ [p2]) := Lib.hid (by rw [htk, List.map_append]; rfl)
      have hkn : (k : Int) < (on.length : Int) := by omega
      have HTa := Lib.hid (And.intro ta hbl)
      clear hc htk hp ta hbl
      go_wp2_with (at_builtin; refine stop ?_)
      refine go ?_
      have tb := HTa.out.1.alloc (.cells #[.string p1] 9)
      have hrd := RdK.one (enc := btE) (wr.alloc (.cells #[.string p1, .string p2] 39)) 9 p1 #[.string p1] rfl
      rw [World.size_alloc] at hrd
      refine wpList_appK (enc := btE) rfl (.tmp 32) (.tmp 35) 45 rfl 9 _ 1 16 info_str5 Tryz.underlying45 rfl (by omega) btE_length btE_one A k c _ hl1.out rfl (HO1.out.touch0 tb)
        (some ⟨wr.heap.size + 1, 0, none⟩) 1 1 [p1] rfl rfl hrd (by omega) (by omega) ?_
      intro A' c' w1 hown ht hf
      rw [World.size_alloc, World.size_alloc] at hf
      have hlA := HO1.out.lt
      have hlB := HO2.out.lt
      have hWr := HT.out.size
      have hbq := ht.blk (((Touch.refl [] (wr.alloc (.cells #[.string p1, .string p2] 39))).alloc (.cells #[.string p1] 9)).blk HTa.out.2 (by simp)) (fun q => by have := hlA _ q; omega)
      obtain ⟨g0, g1, _, _⟩ := blk2 hbq
      have hob : OwnK 9 1 btE w1 B d ((on.take k).map (·.2)) := (HO2.out.touch0 tb).touch ht (fun b hb hm => (HF1.out b hm).2 hb)
      have hsz := ht.size
      rw [World.size_alloc, World.size_alloc] at hsz
      have HX := Lib.hid (And.intro hown (And.intro hob (And.intro ((HT.out.trans0 tb).trans ht (fun b hb => .inr (HF1.out b hb).1)) (And.intro hf (And.intro hlB (And.intro hlA (And.intro hWr hsz)))))))
      clear hown ht hf hbq hob hlA hlB tb hrd hWr hsz
      go_wp2_with (at_builtin; refine stop ?_)
      refine go ?_
      have tc := (Touch.refl [] w1).alloc (.cells #[.string p2] 9)
      refine wpList_appK (enc := btE) rfl (.tmp 37) (.tmp 40) 45 rfl 9 _ 1 16 info_str5 Tryz.underlying45 rfl (by omega) btE_length btE_one B k d _ hl2.out rfl (HX.out.2.1.touch0 tc)
        (some ⟨w1.heap.size, 0, none⟩) 1 1 [p2] rfl rfl (RdK.one (enc := btE) w1 9 p2 _ rfl) (by omega) (by omega) ?_
      intro B' d' w2 hown2 ht2 hf2
      rw [World.size_alloc] at hf2
      have HY := Lib.hid (And.intro hown2 (And.intro ht2 hf2))
      clear hown2 ht2 hf2 tc
      go_wp2_with fail
      go_roundw
      case rel =>
        obtain ⟨hown2, ht2, hf2⟩ := HY.out
        obtain ⟨hown, hob, hT1, hf, hlB, hlA, hWr, hsz⟩ := HX.out
        have tc := (Touch.refl [] w1).alloc (.cells #[.string p2] 9)
        have hA'B : ∀ b ∈ fpo A', W.heap.size ≤ b ∧ b ∉ fpo B ∧ b < w1.heap.size := fun b hb => by
          refine ⟨?_, ?_, hown.lt b hb⟩
          · rcases hf b hb with q | q
            · exact (HF1.out b q).1
            · omega
          · rcases hf b hb with q | q
            · exact (HF1.out b q).2
            · intro q2; have := hlB b q2; omega
        refine ⟨k + 1, A', c', B', d', by omega, by go_num, rfl, rfl, Lib.hid ?_, Lib.hid (by rw [hn2.out]; exact hown2), Lib.hid (fun b hb => ⟨(hA'B b hb).1, fun q => ?_⟩), Lib.hid (fun b hb => ?_), Lib.hid ((hT1.trans0 tc).trans ht2 (fun b hb => .inr (HF2.out b hb)))⟩
        · rw [hn1.out]
          exact (hown.touch0 tc).touch ht2 (fun b hb hm => (hA'B b hb).2.1 hm)
        · rcases hf2 b q with z | z
          · exact (hA'B b hb).2.1 z
          · have := (hA'B b hb).2.2; omega
        · rcases hf2 b hb with z | z
          · exact HF2.out b z
          · have := hT1.size; omega
      case measure => simp [intOf]; omega
    · obtain rfl : k = on.length := by omega
      have hO1 := HO1.out
      have hO2 := HO2.out
      rw [List.take_length] at hO1 hO2
      obtain ⟨n1, hn1⟩ : ∃ n1, n1 = on.map (·.1) := ⟨_, rfl⟩
      obtain ⟨n2', hn2⟩ : ∃ n2, n2 = on.map (·.2) := ⟨_, rfl⟩
      rw [← hn1] at hO1
      rw [← hn2] at hO2
      have hn1l : n1.length = on.length := by rw [hn1, List.length_map]
      have hn2l : n2'.length = on.length := by rw [hn2, List.length_map]
      obtain ⟨p0, _⟩ := blk16 (HT.out.blk HBP.out.1 (by simp))
      obtain ⟨qa0, qa1, _, _⟩ := blk2 (HT.out.blk HBP.out.2.1 (by simp))
      obtain ⟨qb0, qb1, _, _⟩ := blk2 (HT.out.blk HBP.out.2.2 (by simp))
      have td := (Touch.refl [] wr).drew
      have qa0d := td.cell qa0 (by simp)
      have qb0d := td.cell qb0 (by simp)
      have Hpl1 := Lib.hid fun w' (t : Touch [] wr w') => places_any SA sc sn csA HAS.out.1.symm (by have := HAS.out.1; have := HLN.out.2.2.1; omega) A c on.length n1 hn1l (by omega) w' (HAS.out.2.1.touch0 (HT.out.trans0 t)) (RdK.touch0 hO1.rd t)
      have Hpl2 := Lib.hid fun w' (t : Touch [] wr w') => places_any SB tc tn csB HBS.out.1.symm (by have := HBS.out.1; have := HLN.out.2.2.2; omega) B d on.length n2' hn2l (by omega) w' (HBS.out.2.1.touch0 (HT.out.trans0 t)) (RdK.touch0 hO2.rd t)
      have HTD := Lib.hid td
      have HN := Lib.hid (And.intro hn1 (And.intro hn2 (And.intro hn1l hn2l)))
      obtain ⟨W1, hW1⟩ : ∃ W1, W1 = wr := ⟨_, rfl⟩
      subst hW1
      clear hO1 hO2 hn1 hn2 hn1l hn2l HO1 HO2 HF1 HF2 td hlt HON p0 qa0 qa1 qb0 qb1
      go_wp2_with fail
      go_region_held3 (fun w' => w'.cell? ⟨w.heap.size + 1, 0, none⟩ = some (.slice SA sn sc) ∧ w'.cell? ⟨w.heap.size + 1 + 1, 0, none⟩ = some (.slice SB tn tc)) (first | exact ⟨qa0d, qb0d⟩ | exact ⟨ra0, rb0⟩ | exact ⟨sa0, sb0⟩) (first
        | (go_at_call 133; refine (Hpl2.out _ (HTD.out.trans0 M1.out.t)).mono ?_; rintro e w2 ⟨B1, m2, rfl, M2'⟩; have M2 := Lib.hid M2'; clear M2'; have sa0 := M2.out.t.cell ra0 (by simp); have sb0 := M2.out.t.cell rb0 (by simp))
        | (go_at_call 133; refine (Hpl1.out _ HTD.out).mono ?_; rintro e w1 ⟨A1, m1, rfl, M1'⟩; have M1 := Lib.hid M1'; clear M1'; have ra0 := M1.out.t.cell qa0d (by simp); have rb0 := M1.out.t.cell qb0d (by simp)))
      obtain ⟨at_, hat⟩ : ∃ at_, at_ = placesV csA n1 := ⟨_, rfl⟩
      obtain ⟨bt, hbt⟩ : ∃ bt, bt = placesV csB n2' := ⟨_, rfl⟩
      rw [← hat] at M1
      rw [← hbt] at M2
      have HATL := Lib.hid (show at_.length = on.length ∧ ∀ i ∈ at_, i < csA.length from ⟨by rw [hat]; unfold placesV; rw [List.length_map]; exact HN.out.2.2.1, by rw [hat]; exact places_lt HLN.out.1⟩)
      have HBTL := Lib.hid (show bt.length = on.length ∧ ∀ i ∈ bt, i < csB.length from ⟨by rw [hbt]; unfold placesV; rw [List.length_map]; exact HN.out.2.2.2, by rw [hbt]; exact places_lt HLN.out.2.1⟩)
      have HPE := Lib.hid (show PO = JoinP left csB.length rowsA rowsB at_ bt w by rw [HPO.out, hat, hbt, HN.out.1, HN.out.2.1])
      clear hat hbt HPO
      have HT2 := Lib.hid ((HT.out.trans0 HTD.out).trans0 (M1.out.t.trans0 M2.out.t))
      have HRA := Lib.hid (RdK.touch0 M1.out.own.rd M2.out.t)
      have HRB := Lib.hid M2.out.own.rd
      have hmm := @run_makeMap Tryz.prog
      have qb1 := ((HT2.out.alloc (.map #[] 0)).cell (blk2 HBP.out.2.2).2.1 (by simp))
      clear qa0d qb0d ra0 rb0 sa0 sb0 M1 M2 Hpl1 Hpl2 HTD HN
      go_wp2_with fail
      clear hmm qb1
      go_loopw [55] (fun i wr => ∃ (k : Nat) (es : List EN), k ≤ un ∧ i = .int .i64 k ∧ Hid (IdxAt slB w2.heap.size wr w2.heap.size es) ∧ Hid (IdxIs (okI rowsB bt) (keyI rowsB bt) k es) ∧ Hid (Touch [] w2 wr)) (fun i _ => un - (intOf i).toNat)
      case atStart => exact ⟨0, [], by omega, rfl, Lib.hid (IdxAt.made slB w2), Lib.hid (IdxIs.zero _ _), Lib.hid ((Touch.refl _ _).alloc _)⟩
      case round =>
        obtain ⟨k, es, hk, rfl, HIX, HIS, HTw⟩ := hrel
        by_cases hlt : k < un
        · have hkB : k < rowsB.length := by rw [← HBS.out.2.2.1]; exact hlt
          have hkS : k < slB.length := by rw [HBS.out.2.2.2.1.1]; exact hkB
          have HTr := Lib.hid (HT2.out.trans0 HTw.out)
          obtain ⟨bd, b1, o1, rfl, hadd, hc⟩ := RdK.cells (RdK.touch0 HBS.out.2.2.2.2 HTr.out) 1 slE_length (by omega) k hkS
          rw [Nat.mul_one] at hadd
          have e0 := hc 0 _ rfl
          rw [Nat.add_zero] at e0
          have hsl := HBS.out.2.2.2.1.2 k hkS hkB
          have hgr := HGB.out _ (List.getElem_mem hkB)
          have hsk : slAt slB k = slB[k] := by unfold slAt; simp [hkS]
          have hrk : rowsB.getD k [] = rowsB[k] := by simp [hkB]
          have hok0 : okI rowsB bt k = !nullV (pickV rowsB[k] bt) := by unfold okI; rw [hrk]
          have hky0 : keyI rowsB bt k = keyL (pickV rowsB[k] bt) := by unfold keyI; rw [hrk]
          obtain ⟨s, hs⟩ : ∃ s, s = slB[k] := ⟨_, rfl⟩
          obtain ⟨r, hr⟩ : ∃ r, r = rowsB[k] := ⟨_, rfl⟩
          rw [← hs] at e0 hsl hsk
          rw [← hr] at hsl hgr hok0 hky0
          obtain ⟨A9, n9, c9⟩ := s
          dsimp only at e0 hsl
          obtain ⟨hn9, hv9⟩ := hsl
          have hpl : (pickV r bt).length = on.length := by unfold pickV; rw [List.length_map]; exact HBTL.out.1
          have Hpk := Lib.hid (picked_any A9 c9 n9 r hn9.symm (by rw [hn9, hgr.1]; have := HLN.out.2.2.2; omega) B1 m2 on.length bt HBTL.out.1 (by omega) (by rw [hn9, hgr.1]; exact HBTL.out.2) wr (RdK.touch0 hv9 HTr.out) (RdK.touch0 HRB.out HTw.out))
          have Hnl := Lib.hid fun A c w' (hv : ValsAt w' A (pickV r bt)) => null_any A c on.length (pickV r bt) hpl w' hv (by omega)
          have hkp := fun A c w' (ht : Touch [] W w') (hv : ValsAt w' A (pickV r bt)) => key_pick (w := W) (at_ := bt) hgr.1 HBTL.out.2 (by rw [HBTL.out.1]; omega) hgr.2 A c w' ht hv
          rw [HBTL.out.1, ← hky0] at hkp
          have hkl : (keyI rowsB bt k).length ≤ 1000000 := by
            rw [hky0]
            have := key_le (pickV r bt) fun v hv => (hgr.2 v (pick_mem (by rw [hgr.1]; exact HBTL.out.2) v hv)).2
            omega
          have Hkp := Lib.hid hkp
          have HSK := Lib.hid hsk
          obtain ⟨K, hK⟩ : ∃ K, K = keyI rowsB bt k := ⟨_, rfl⟩
          rw [← hK] at Hkp hkl
          have HK := Lib.hid hK
          obtain ⟨nb, hnb⟩ : ∃ nb, nb = nullV (pickV r bt) := ⟨_, rfl⟩
          rw [← hnb] at Hnl hok0
          have Hok0 := Lib.hid hok0
          have hkn : (k : Int) < (un : Int) := by omega
          clear hc hgr hsk hrk hok0 hky0 hs hr hn9 hv9 hpl hkp hK hnb
          cases nb
          · by_cases hex : ∃ e ∈ es, e.key = K
            · obtain ⟨e0', hem, hek⟩ := hex
              obtain ⟨l1, l2, rfl⟩ := List.append_of_mem hem
              subst hek
              have HHIT := Lib.hid fun w' (t : Touch [] wr w') => (HIX.out.touch0 t).hit e0' hem (by omega) false
              clear hem
              obtain ⟨ek, eA, ec, eix⟩ := e0'
              dsimp only at HHIT Hkp HK hkl
              go_wp2_with fail
              refine Hpk.out.mono ?_
              rintro e w5 ⟨A5, c5, rfl, m5⟩
              have M5 := Lib.hid m5
              have Hn5 := Lib.hid (Hnl.out A5 c5 w5 m5.own.rd)
              clear m5 Hpk Hnl
              go_wp2_with fail
              refine Hn5.out.mono ?_
              rintro e w6 ⟨rfl, t6⟩
              have HT6 := Lib.hid (M5.out.t.trans0 t6)
              have Hk6 := Lib.hid (Hkp.out A5 c5 w6 (HTr.out.trans0 HT6.out) (RdK.touch0 M5.out.own.rd t6))
              have HV6 := Lib.hid (RdK.touch0 M5.out.own.rd t6)
              clear t6 Hn5
              go_wp2_with fail
              refine Hk6.out.mono ?_
              rintro e w7 ⟨rfl, t7⟩
              have HT7 := Lib.hid (HT6.out.trans0 t7)
              have Hk7 := Lib.hid (Hkp.out A5 c5 w7 (HTr.out.trans0 HT7.out) (RdK.touch0 HV6.out t7))
              clear t7 Hk6
              go_wp2_with fail
              refine Hk7.out.mono ?_
              rintro e w8 ⟨rfl, t8⟩
              have HT8 := Lib.hid (HT7.out.trans0 t8)
              clear t8 Hk7
              go_wp2_with (at_lookup; refine stop ?_)
              refine go ?_
              refine wpList_lookup_is rfl (.tmp 68) (.tmp 70) 191 false rfl _ _ _ rfl rfl (HHIT.out _ HT8.out) ?_
              go_wp2_with (at_builtin; refine stop ?_)
              refine go ?_
              have ta := (Touch.refl [] w8).alloc (.cells #[.slice A9 n9 c9] 33)
              have hix8 := (HIX.out.touch0 HT8.out).touch0 ta
              have hmem0 : (⟨ek, eA, ec, eix⟩ : EN) ∈ l1 ++ ⟨ek, eA, ec, eix⟩ :: l2 := by simp
              have hxl : eix.length ≤ 4096 := by
                have := HIS.out.ix _ hmem0
                dsimp only at this
                rw [this]
                unfold selK
                refine Nat.le_trans (List.length_filter_le _ _) ?_
                rw [List.length_range]; omega
              refine wpList_appK (enc := slE) rfl (.tmp 71) (.tmp 73) 25 rfl 33 _ 1 24 info_r5 Tryz.underlying25 rfl (by omega) slE_length slE_one eA eix.length ec (eix.map (slAt slB)) (by rw [List.length_map]) rfl (hix8.own _ hmem0)
                (some ⟨w8.heap.size, 0, none⟩) 1 1 [⟨A9, n9, c9⟩] rfl rfl (RdK.one (enc := slE) w8 33 ⟨A9, n9, c9⟩ _ rfl) (by omega) (by omega) ?_
              intro A' c' w' hown ht hf
              have hsz8 : w2.heap.size ≤ w8.heap.size := (HTw.out.trans0 HT8.out).size
              rw [← HSK.out, show (eix.map (slAt slB)) ++ [slAt slB k] = (eix ++ [k]).map (slAt slB) by rw [List.map_append]; rfl] at hown
              obtain ⟨w'', hrun, hix2, t2⟩ := hix8.put_old (by dsimp only; omega) k A' c' hown ht (fun a ha => by
                rcases hf a ha with q | q
                · exact .inl q
                · exact .inr (by rw [q]; exact Nat.le_refl _)) (by rw [World.size_alloc]; omega)
              have Hrun := Lib.hid hrun
              have HX := Lib.hid (And.intro hix2 (And.intro ((HTw.out.trans0 HT8.out).trans0 ta |>.trans ht (fun b hb => .inr ((HIX.out.low _ hmem0 b hb).1))) t2))
              clear hrun hix2 t2 hown ht hf ta hix8 hmem0 hsz8
              go_wp2_with (at_mapUpdate; refine stop ?_)
              refine go ?_
              refine wpList_update_is rfl (.tmp 65) (.tmp 67) (.tmp 74) 191 rfl _ _ _ rfl rfl rfl Hrun.out ?_
              go_wp2_with fail
              go_roundw
              case rel => exact ⟨k + 1, _, by omega, by go_num, Lib.hid HX.out.1, Lib.hid (HIS.out.put_old (by rw [Hok0.out]; rfl) HK.out A' c'), Lib.hid (HX.out.2.1.trans HX.out.2.2 (fun b hb => .inr (by simp at hb; omega)))⟩
              case measure => simp [intOf]; omega
            · have hno : ∀ e ∈ es, e.key ≠ K := fun e he h => hex ⟨e, he, h⟩
              have HMISS := Lib.hid fun w' (t : Touch [] wr w') => (HIX.out.touch0 t).miss K (by omega) hno false
              have HNO := Lib.hid hno
              clear hex hno
              go_wp2_with fail
              refine Hpk.out.mono ?_
              rintro e w5 ⟨A5, c5, rfl, m5⟩
              have M5 := Lib.hid m5
              have Hn5 := Lib.hid (Hnl.out A5 c5 w5 m5.own.rd)
              clear m5 Hpk Hnl
              go_wp2_with fail
              refine Hn5.out.mono ?_
              rintro e w6 ⟨rfl, t6⟩
              have HT6 := Lib.hid (M5.out.t.trans0 t6)
              have Hk6 := Lib.hid (Hkp.out A5 c5 w6 (HTr.out.trans0 HT6.out) (RdK.touch0 M5.out.own.rd t6))
              have HV6 := Lib.hid (RdK.touch0 M5.out.own.rd t6)
              clear t6 Hn5
              go_wp2_with fail
              refine Hk6.out.mono ?_
              rintro e w7 ⟨rfl, t7⟩
              have HT7 := Lib.hid (HT6.out.trans0 t7)
              have Hk7 := Lib.hid (Hkp.out A5 c5 w7 (HTr.out.trans0 HT7.out) (RdK.touch0 HV6.out t7))
              clear t7 Hk6
              go_wp2_with fail
              refine Hk7.out.mono ?_
              rintro e w8 ⟨rfl, t8⟩
              have HT8 := Lib.hid (HT7.out.trans0 t8)
              clear t8 Hk7
              go_wp2_with (at_lookup; refine stop ?_)
              refine go ?_
              refine wpList_lookup_is rfl (.tmp 68) (.tmp 70) 191 false rfl _ _ _ rfl rfl (HMISS.out _ HT8.out) ?_
              go_wp2_with (at_builtin; refine stop ?_)
              refine go ?_
              have ta := (Touch.refl [] w8).alloc (.cells #[.slice A9 n9 c9] 33)
              have hix8 := (HIX.out.touch0 HT8.out).touch0 ta
              refine wpList_appK (enc := slE) rfl (.tmp 71) (.tmp 73) 25 rfl 33 _ 1 24 info_r5 Tryz.underlying25 rfl (by omega) slE_length slE_one none 0 0 [] rfl rfl (OwnK.nil _ _ _ _)
                (some ⟨w8.heap.size, 0, none⟩) 1 1 [⟨A9, n9, c9⟩] rfl rfl (RdK.one (enc := slE) w8 33 ⟨A9, n9, c9⟩ _ rfl) (by omega) (by omega) ?_
              intro A' c' w' hown ht hf
              have hsz8 : w2.heap.size ≤ w8.heap.size := (HTw.out.trans0 HT8.out).size
              rw [List.nil_append, ← HSK.out] at hown
              obtain ⟨w'', hrun, hix2, t2⟩ := hix8.put_new K (by omega) HNO.out k A' c' hown ht (fun a ha => by
                rcases hf a ha with q | q
                · simp [fpo] at q
                · rw [q]; exact Nat.le_refl _) (by rw [World.size_alloc]; omega)
              have Hrun := Lib.hid hrun
              have HX := Lib.hid (And.intro hix2 (And.intro (((HTw.out.trans0 HT8.out).trans0 ta).trans0 ht) t2))
              clear hrun hix2 t2 hown ht hf ta hix8 hsz8
              go_wp2_with (at_mapUpdate; refine stop ?_)
              refine go ?_
              refine wpList_update_is rfl (.tmp 65) (.tmp 67) (.tmp 74) 191 rfl _ _ _ rfl rfl rfl Hrun.out ?_
              go_wp2_with fail
              go_roundw
              case rel => exact ⟨k + 1, _, by omega, by go_num, Lib.hid HX.out.1, Lib.hid (by have := HIS.out.put_new (by rw [Hok0.out]; rfl) (by rw [← HK.out]; exact HNO.out) A' c'; rw [← HK.out] at this; exact this), Lib.hid (HX.out.2.1.trans HX.out.2.2 (fun b hb => .inr (by simp at hb; omega)))⟩
              case measure => simp [intOf]; omega
          · go_wp2_with fail
            refine Hpk.out.mono ?_
            rintro e w5 ⟨A5, c5, rfl, m5⟩
            have M5 := Lib.hid m5
            have Hn5 := Lib.hid (Hnl.out A5 c5 w5 m5.own.rd)
            clear m5 Hpk Hnl
            go_wp2_with fail
            refine Hn5.out.mono ?_
            rintro e w6 ⟨rfl, t6⟩
            have HT6 := Lib.hid (M5.out.t.trans0 t6)
            clear t6 Hn5
            go_wp2_with fail
            go_roundw
            case rel => exact ⟨k + 1, es, by omega, by go_num, Lib.hid (HIX.out.touch0 HT6.out), Lib.hid (HIS.out.skip (by rw [Hok0.out]; rfl)), Lib.hid (HTw.out.trans0 HT6.out)⟩
            case measure => simp [intOf]; omega
        · obtain rfl : k = un := by omega
          obtain ⟨W3, hW3⟩ : ∃ W3, W3 = wr := ⟨_, rfl⟩
          subst hW3
          have hra1 := (HT2.out.trans0 HTw.out).cell (blk2 HBP.out.2.1).2.1 (by simp)
          have HP16 := Lib.hid (blk16 ((HT2.out.trans0 HTw.out).blk HBP.out.1 (by simp)))
          have hIS : IdxIs (okI rowsB bt) (keyI rowsB bt) rowsB.length es := by rw [← HBS.out.2.2.1]; exact HIS.out
          have HISB := Lib.hid hIS
          clear hIS HIS hlt hk
          go_wp2_with fail
          clear hra1
          go_loopw [18, 79] (fun o i w4 => ∃ (k q : Nat) (B : Option Addr) (c : Nat), k ≤ rn ∧ q ≤ 4096 ∧ i = .int .i64 k ∧ o = .slice B q c ∧ Hid (OwnR 33 0 w4 B c (joinL left csB.length (rowsA.take k) rowsB at_ bt)) ∧ Hid (q = (joinL left csB.length (rowsA.take k) rowsB at_ bt).length) ∧ Hid (∀ b ∈ fpo B, W3.heap.size ≤ b) ∧ Hid (Touch [] W3 w4)) (fun _ i _ => rn - (intOf i).toNat)
          case atStart => exact ⟨0, 0, none, 0, by omega, by omega, rfl, rfl, Lib.hid (OwnR.nil _ _ _), Lib.hid rfl, Lib.hid (by simp [fpo]), Lib.hid (Touch.refl _ _)⟩
          case round =>
            obtain ⟨k, q, B, c, hk, hq, rfl, rfl, HOR, HPQ, HBF, HTq⟩ := hrel
            by_cases hlt : k < rn
            · have hkA : k < rowsA.length := by rw [← HAS.out.2.2.1]; exact hlt
              have hkS : k < slA.length := by rw [HAS.out.2.2.2.1.1]; exact hkA
              have HT3r := Lib.hid (HT2.out.trans0 HTw.out)
              have HTr := Lib.hid (HT3r.out.trans0 HTq.out)
              obtain ⟨bd, b1, o1, rfl, hadd, hc⟩ := RdK.cells (RdK.touch0 HAS.out.2.2.2.2 HTr.out) 1 slE_length (by omega) k hkS
              rw [Nat.mul_one] at hadd
              have e0 := hc 0 _ rfl
              rw [Nat.add_zero] at e0
              have hsl := HAS.out.2.2.2.1.2 k hkS hkA
              have hgr := HGA.out _ (List.getElem_mem hkA)
              have hjn0 := joinL_snoc left csB.length rowsA rowsB at_ bt k hkA
              obtain ⟨s, hs⟩ : ∃ s, s = slA[k] := ⟨_, rfl⟩
              obtain ⟨r, hr⟩ : ∃ r, r = rowsA[k] := ⟨_, rfl⟩
              rw [← hs] at e0 hsl
              rw [← hr] at hsl hgr hjn0
              obtain ⟨A6, n6, c6⟩ := s
              dsimp only at e0 hsl
              obtain ⟨hn9, hv9⟩ := hsl
              have HR6 := Lib.hid (And.intro hn9.symm (And.intro (show n6 ≤ 16 by rw [hn9, hgr.1]; exact HLN.out.2.2.1) fun w' (t : Touch [] W3 w') => (RdK.touch0 hv9 (HT3r.out.trans0 t) : ValsAt w' A6 r)))
              have hpl : (pickV r at_).length = on.length := by unfold pickV; rw [List.length_map]; exact HATL.out.1
              have Hpk := Lib.hid (picked_any A6 c6 n6 r hn9.symm (by have := HR6.out.2.1; omega) A1 m1 on.length at_ HATL.out.1 (by omega) (by rw [hn9, hgr.1]; exact HATL.out.2) wr (RdK.touch0 hv9 HTr.out) (RdK.touch0 HRA.out (HTw.out.trans0 HTq.out)))
              have Hnl := Lib.hid fun A c w' (hv : ValsAt w' A (pickV r at_)) => null_any A c on.length (pickV r at_) hpl w' hv (by omega)
              have hkp := fun A c w' (ht : Touch [] W w') (hv : ValsAt w' A (pickV r at_)) => key_pick (w := W) (at_ := at_) hgr.1 HATL.out.2 (by rw [HATL.out.1]; omega) hgr.2 A c w' ht hv
              rw [HATL.out.1] at hkp
              have hkl : (keyL (pickV r at_)).length ≤ 1000000 := by
                have := key_le (pickV r at_) fun v hv => (hgr.2 v (pick_mem (by rw [hgr.1]; exact HATL.out.2) v hv)).2
                omega
              have Hkp := Lib.hid hkp
              obtain ⟨K, hK⟩ : ∃ K, K = keyL (pickV r at_) := ⟨_, rfl⟩
              rw [← hK] at Hkp hkl
              obtain ⟨nb, hnb⟩ : ∃ nb, nb = nullV (pickV r at_) := ⟨_, rfl⟩
              rw [← hnb] at Hnl
              have hfi : foundI rowsB bt at_ r = if nb = true then [] else selK (okI rowsB bt) (keyI rowsB bt) rowsB.length K := by unfold foundI; rw [hnb, hK]
              have HFI := Lib.hid hfi
              have HJN0 := Lib.hid hjn0
              obtain ⟨PR, hPR⟩ : ∃ PR, PR = joinL left csB.length (rowsA.take k) rowsB at_ bt := ⟨_, rfl⟩
              rw [← hPR] at HOR HPQ HJN0
              have HPR : Hid (PR.length = q) := Lib.hid HPQ.out.symm
              have hkn : (k : Int) < (rn : Int) := by omega
              clear hc hgr hs hr hn9 hv9 hpl hkp hK hnb hfi hjn0 hPR
              cases nb
              · by_cases hex : ∃ e ∈ es, e.key = K
                · obtain ⟨e0', hem, hek⟩ := hex
                  subst hek
                  have HHIT := Lib.hid fun w' (t : Touch [] W3 w') => (HIX.out.touch0 t).hit e0' hem (by omega) false
                  have hix := HISB.out.ix e0' hem
                  have hne := HISB.out.some e0' hem
                  have hlow := HIX.out.own e0' hem
                  obtain ⟨ek, eA, ec, eix⟩ := e0'
                  dsimp only at HHIT Hkp hkl hix hne hlow HFI
                  have hfx : foundI rowsB bt at_ r = eix := by rw [HFI.out, if_neg (by simp), ← hix]
                  have hxl : eix.length ≤ 4096 := by
                    rw [hix]; unfold selK
                    refine Nat.le_trans (List.length_filter_le _ _) ?_
                    rw [List.length_range]; omega
                  obtain ⟨fn, hfn⟩ : ∃ fn, fn = eix.length := ⟨_, rfl⟩
                  rw [← hfn] at HHIT hxl
                  have hfnz : fn ≠ 0 := by rw [hfn]; intro z; exact hne (List.eq_nil_of_length_eq_zero z)
                  have hxlt : ∀ i ∈ eix, i < rowsB.length := by rw [hix]; exact selK_lt
                  obtain ⟨FS, hFS⟩ : ∃ FS, FS = eix.map (slAt slB) := ⟨_, rfl⟩
                  obtain ⟨FR, hFR⟩ : ∃ FR, FR = eix.map fun i => rowsB.getD i [] := ⟨_, rfl⟩
                  have HFS := Lib.hid (show FS.length = fn ∧ FS.length = FR.length ∧ (∀ w', Touch [] W3 w' → ∀ i (h1 : i < FS.length) (h2 : i < FR.length), FS[i].n = FR[i].length ∧ ValsAt w' FS[i].A FR[i]) ∧ (∀ w', Touch [] W3 w' → RdK slE w' eA FS) ∧ ∀ o ∈ FR, o.length ≤ 1000 from
                    ⟨by rw [hFS, hfn, List.length_map], by rw [hFS, hFR, List.length_map, List.length_map], fun w' t => by rw [hFS, hFR]; exact ((HBS.out.2.2.2.1.touch (HT3r.out.trans0 t) (by simp)).pick eix hxlt).2, fun w' t => by rw [hFS]; exact RdK.touch0 hlow.rd t, fun o ho => by
                      rw [hFR] at ho
                      obtain ⟨i, hi, rfl⟩ := List.mem_map.1 ho
                      have hib := hxlt i hi
                      have := (HGB.out _ (List.getElem_mem hib)).1
                      have := HLN.out.2.2.2
                      simp [hib]; omega⟩)
                  have HJN := Lib.hid (show joinL left csB.length (rowsA.take (k + 1)) rowsB at_ bt = PR ++ FR.map fun o => r ++ o by
                    rw [HJN0.out]; congr 2; unfold foundR; rw [hfx, if_neg (fun z => hne z.1), hFR])
                  have hfb : ((fn : Int) == 0) = false := by rw [beq_eq_false_iff_ne]; omega
                  clear hem hix hne hlow hfx hfn hFS hFR hxlt HJN0 HFI
                  go_wp2_with fail
                  refine Hpk.out.mono ?_
                  rintro e w5 ⟨A5, c5, rfl, m5⟩
                  have M5 := Lib.hid m5
                  have Hn5 := Lib.hid (Hnl.out A5 c5 w5 m5.own.rd)
                  clear m5 Hpk Hnl
                  go_wp2_with fail
                  refine Hn5.out.mono ?_
                  rintro e w6 ⟨rfl, t6⟩
                  have HT6 := Lib.hid (M5.out.t.trans0 t6)
                  have Hk6 := Lib.hid (Hkp.out A5 c5 w6 (HTr.out.trans0 HT6.out) (RdK.touch0 M5.out.own.rd t6))
                  clear t6 Hn5
                  go_wp2_with fail
                  refine Hk6.out.mono ?_
                  rintro e w7 ⟨rfl, t7⟩
                  have HT4 := Lib.hid (HT6.out.trans0 t7)
                  clear t7 Hk6
                  go_wp2_with (at_lookup; refine stop ?_)
                  refine go ?_
                  refine wpList_lookup_is rfl (.tmp 89) (.tmp 91) 191 false rfl _ _ _ rfl rfl (HHIT.out _ (HTq.out.trans0 HT4.out)) ?_
                  go_wp2_with fail
                  go_loopw [18, 108] (fun o i w4 => ∃ (j q2 : Nat) (B : Option Addr) (c : Nat), j ≤ fn ∧ q2 ≤ 9000 ∧ i = .int .i64 j ∧ o = .slice B q2 c ∧ Hid (OwnR 33 0 w4 B c (PR ++ (FR.take j).map fun o => r ++ o)) ∧ Hid (q2 = q + j) ∧ Hid (∀ b ∈ fpo B, W3.heap.size ≤ b) ∧ Hid (Touch [] W3 w4)) (fun _ i _ => fn - (intOf i).toNat)
                  case atStart => exact ⟨0, q, B, c, by omega, by omega, rfl, rfl, Lib.hid (by rw [List.take_zero, List.map_nil, List.append_nil]; exact HOR.out.touch0 HT4.out), Lib.hid (by omega), HBF, Lib.hid (HTq.out.trans0 HT4.out)⟩
                  case round =>
                    obtain ⟨j, q2, B, c, hj, hq2, rfl, rfl, HOQ, HQ2, HBQ, HT5⟩ := hrel
                    by_cases hlj : j < fn
                    · have hjS : j < FS.length := by rw [HFS.out.1]; exact hlj
                      have hjR : j < FR.length := by rw [← HFS.out.2.1]; exact hjS
                      obtain ⟨ad, b1, o1, rfl, hadd, hc⟩ := RdK.cells (HFS.out.2.2.2.1 wr (by exact HT5.out)) 1 slE_length (by omega) j hjS
                      rw [Nat.mul_one] at hadd
                      have e0 := hc 0 _ rfl
                      rw [Nat.add_zero] at e0
                      have hsl := HFS.out.2.2.1 wr (by exact HT5.out) j hjS hjR
                      have hol := HFS.out.2.2.2.2 _ (List.getElem_mem hjR)
                      have htk := List.take_succ_eq_append_getElem hjR
                      obtain ⟨s, hs⟩ : ∃ s, s = FS[j] := ⟨_, rfl⟩
                      obtain ⟨o, ho⟩ : ∃ o, o = FR[j] := ⟨_, rfl⟩
                      rw [← hs] at e0 hsl
                      rw [← ho] at hsl hol htk
                      obtain ⟨A7, n7, c7⟩ := s
                      dsimp only at e0 hsl
                      have hcc := concatV_any A6 A7 n6 n7 c6 c7 r o HR6.out.1 hsl.1.symm (by have := HR6.out.2.1; omega) (by omega) wr (HR6.out.2.2 wr HT5.out) hsl.2
                      obtain ⟨M, hM⟩ : ∃ M, M = (r ++ o).length := ⟨_, rfl⟩
                      rw [← hM] at hcc
                      have Hcc := Lib.hid hcc
                      have HM := Lib.hid hM
                      have Htk := Lib.hid htk
                      have hjn : (j : Int) < (fn : Int) := by omega
                      clear hcc hM htk hsl hs ho hc
                      go_wp2_with fail
                      refine Hcc.out.mono ?_
                      rintro e w7 ⟨A8, c8, rfl, m8⟩
                      have M8 := Lib.hid m8
                      clear m8 Hcc
                      go_wp2_with (at_builtin; refine stop ?_)
                      refine go ?_
                      have hBlt := HOQ.out.lt
                      have hs7 := M8.out.t.size
                      have HML := Lib.hid (show (PR ++ (FR.take j).map fun o => r ++ o).length = q2 by rw [List.length_append, List.length_map, List.length_take, HPR.out, HQ2.out]; omega)
                      refine wpList_appR rfl (.tmp 112) (.tmp 117) 25 rfl 33 info_r5 Tryz.underlying25 0 B q2 c _ HML.out rfl (HOQ.out.touch0 M8.out.t) A8 c8 (r ++ o) M8.out.own.rd
                        (fun b hb => ⟨fun z => by have := hBlt b z; have := M8.out.f b hb; omega, M8.out.own.lt b hb, Nat.zero_le _⟩) 1 rfl (by omega) (by rw [HM.out]) ?_
                      intro B' c' w' hown ht hf
                      have HX := Lib.hid (And.intro hown (And.intro (((HT5.out.trans0 M8.out.t).alloc _).trans ht (fun b hb => .inr (HBQ.out b hb))) hf))
                      clear hown ht hf hBlt hs7
                      go_wp2_with fail
                      go_roundw
                      case rel =>
                        obtain ⟨hown, ht, hf⟩ := HX.out
                        refine ⟨j + 1, q2 + 1, B', c', by omega, by have := HQ2.out; omega, by go_num, by rfl, Lib.hid (by rw [Htk.out, List.map_append, ← List.append_assoc]; exact hown), Lib.hid (by have := HQ2.out; omega), Lib.hid (fun b hb => ?_), Lib.hid ht⟩
                        rcases hf b hb with z | z
                        · exact HBQ.out b z
                        · have := HT5.out.size; have := M8.out.t.size; omega
                      case measure => simp [intOf]; omega
                    · obtain rfl : j = fn := by omega
                      have HOE : Hid (OwnR 33 0 wr B c (joinL left csB.length (rowsA.take (k + 1)) rowsB at_ bt)) := Lib.hid (by
                        have := HOQ.out
                        rwa [← HFS.out.1, HFS.out.2.1, List.take_length, ← HJN.out] at this)
                      have HQE : Hid (q2 = (joinL left csB.length (rowsA.take (k + 1)) rowsB at_ bt).length) := Lib.hid (by
                        rw [HJN.out, List.length_append, List.length_map, ← HFS.out.2.1, HFS.out.1, HPR.out, HQ2.out])
                      by_cases hbig : 4096 < q2
                      · have hbg : 4096 < (q2 : Int) := by omega
                        have HB := Lib.hid (show 4096 < (joinL left csB.length rowsA rowsB at_ bt).length by
                          have := joinL_le left csB.length rowsA rowsB at_ bt (k + 1); have := HQE.out; omega)
                        go_wp2_with fail
                        rw [HPE.out]
                        refine ⟨((HT0.out.trans0 HT2.out).trans0 HTw.out).trans0 HT5.out, ?_⟩
                        rw [if_pos HB.out]
                        rfl
                      · have hbg : (4096 < (q2 : Int)) = False := by simp; omega
                        go_wp2_with fail
                        go_roundw
                        case rel => exact ⟨k + 1, q2, B, c, by omega, by omega, by go_num, rfl, HOE, HQE, HBQ, HT5⟩
                        case measure => simp [intOf]; omega
                · have hno : ∀ e ∈ es, e.key ≠ K := fun e he h => hex ⟨e, he, h⟩
                  have HMISS := Lib.hid fun w' (t : Touch [] W3 w') => (HIX.out.touch0 t).miss K (by omega) hno false
                  have hfx : foundI rowsB bt at_ r = [] := by rw [HFI.out, if_neg (by simp)]; exact HISB.out.none_ hno
                  clear hex hno
                  obtain ⟨FS, hFS⟩ : ∃ FS : List SL, FS = [] := ⟨_, rfl⟩
                  obtain ⟨FR, hFR⟩ : ∃ FR : List (List VD), FR = [] := ⟨_, rfl⟩
                  have HJN := Lib.hid (show joinL left csB.length (rowsA.take (k + 1)) rowsB at_ bt = PR ++ FR.map fun o => r ++ o by
                    rw [HJN0.out, hFR]; congr 1; unfold foundR; rw [hfx, HLF.out, if_neg (fun z => by cases z.2)]; rfl)
                  have HFS := Lib.hid (show FS.length = 0 ∧ FS.length = FR.length ∧ (∀ w', Touch [] W3 w' → ∀ i (h1 : i < FS.length) (h2 : i < FR.length), FS[i].n = FR[i].length ∧ ValsAt w' FS[i].A FR[i]) ∧ (∀ w', Touch [] W3 w' → RdK slE w' none FS) ∧ ∀ o ∈ FR, o.length ≤ 1000 from
                    ⟨by rw [hFS]; rfl, by rw [hFS, hFR]; rfl, fun w' t i h1 => absurd h1 (by rw [hFS]; simp), fun w' t => by rw [hFS]; exact RdK.nil _ _ _, fun o ho => by rw [hFR] at ho; simp at ho⟩)
                  clear hfx hFS hFR HJN0 HFI
                  go_wp2_with fail
                  refine Hpk.out.mono ?_
                  rintro e w5 ⟨A5, c5, rfl, m5⟩
                  have M5 := Lib.hid m5
                  have Hn5 := Lib.hid (Hnl.out A5 c5 w5 m5.own.rd)
                  clear m5 Hpk Hnl
                  go_wp2_with fail
                  refine Hn5.out.mono ?_
                  rintro e w6 ⟨rfl, t6⟩
                  have HT6 := Lib.hid (M5.out.t.trans0 t6)
                  have Hk6 := Lib.hid (Hkp.out A5 c5 w6 (HTr.out.trans0 HT6.out) (RdK.touch0 M5.out.own.rd t6))
                  clear t6 Hn5
                  go_wp2_with fail
                  refine Hk6.out.mono ?_
                  rintro e w7 ⟨rfl, t7⟩
                  have HT4 := Lib.hid (HT6.out.trans0 t7)
                  have hp0 := (HTq.out.trans0 HT4.out).cell HP16.out.1 (by simp)
                  clear t7 Hk6
                  go_wp2_with (at_lookup; refine stop ?_)
                  refine go ?_
                  refine wpList_lookup_is rfl (.tmp 89) (.tmp 91) 191 false rfl _ _ _ rfl rfl (HMISS.out _ (HTq.out.trans0 HT4.out)) ?_
                  go_wp2_with fail
                  go_loopw [18, 108] (fun o i w4 => ∃ (j q2 : Nat) (B : Option Addr) (c : Nat), j ≤ 0 ∧ q2 ≤ 9000 ∧ i = .int .i64 j ∧ o = .slice B q2 c ∧ Hid (OwnR 33 0 w4 B c (PR ++ (FR.take j).map fun o => r ++ o)) ∧ Hid (q2 = q + j) ∧ Hid (∀ b ∈ fpo B, W3.heap.size ≤ b) ∧ Hid (Touch [] W3 w4)) (fun _ i _ => 0 - (intOf i).toNat)
                  case atStart => exact ⟨0, q, B, c, by omega, by omega, rfl, rfl, Lib.hid (by rw [List.take_zero, List.map_nil, List.append_nil]; exact HOR.out.touch0 HT4.out), Lib.hid (by omega), HBF, Lib.hid (HTq.out.trans0 HT4.out)⟩
                  case round =>
                    obtain ⟨j, q2, B, c, hj, hq2, rfl, rfl, HOQ, HQ2, HBQ, HT5⟩ := hrel
                    by_cases hlj : j < 0
                    · exact absurd hlj (by omega)
                    · obtain rfl : j = 0 := by omega
                      have HOE : Hid (OwnR 33 0 wr B c (joinL left csB.length (rowsA.take (k + 1)) rowsB at_ bt)) := Lib.hid (by
                        have hfr : FR = [] := List.eq_nil_of_length_eq_zero (by rw [← HFS.out.2.1]; exact HFS.out.1)
                        have := HOQ.out
                        rw [HJN.out]
                        rw [hfr] at this ⊢
                        exact this)
                      have HQE : Hid (q2 = (joinL left csB.length (rowsA.take (k + 1)) rowsB at_ bt).length) := Lib.hid (by
                        rw [HJN.out, List.length_append, List.length_map, ← HFS.out.2.1, HFS.out.1, HPR.out, HQ2.out])
                      by_cases hbig : 4096 < q2
                      · have hbg : 4096 < (q2 : Int) := by omega
                        have HB := Lib.hid (show 4096 < (joinL left csB.length rowsA rowsB at_ bt).length by
                          have := joinL_le left csB.length rowsA rowsB at_ bt (k + 1); have := HQE.out; omega)
                        go_wp2_with fail
                        rw [HPE.out]
                        refine ⟨((HT0.out.trans0 HT2.out).trans0 HTw.out).trans0 HT5.out, ?_⟩
                        rw [if_pos HB.out]
                        rfl
                      · have hbg : (4096 < (q2 : Int)) = False := by simp; omega
                        go_wp2_with fail
                        go_roundw
                        case rel => exact ⟨k + 1, q2, B, c, by omega, by omega, by go_num, rfl, HOE, HQE, HBQ, HT5⟩
                        case measure => simp [intOf]; omega
              · have hfx : foundI rowsB bt at_ r = [] := by rw [HFI.out, if_pos rfl]
                obtain ⟨FS, hFS⟩ : ∃ FS : List SL, FS = [] := ⟨_, rfl⟩
                obtain ⟨FR, hFR⟩ : ∃ FR : List (List VD), FR = [] := ⟨_, rfl⟩
                have HJN := Lib.hid (show joinL left csB.length (rowsA.take (k + 1)) rowsB at_ bt = PR ++ FR.map fun o => r ++ o by
                  rw [HJN0.out, hFR]; congr 1; unfold foundR; rw [hfx, HLF.out, if_neg (fun z => by cases z.2)]; rfl)
                have HFS := Lib.hid (show FS.length = 0 ∧ FS.length = FR.length ∧ (∀ w', Touch [] W3 w' → ∀ i (h1 : i < FS.length) (h2 : i < FR.length), FS[i].n = FR[i].length ∧ ValsAt w' FS[i].A FR[i]) ∧ (∀ w', Touch [] W3 w' → RdK slE w' none FS) ∧ ∀ o ∈ FR, o.length ≤ 1000 from
                  ⟨by rw [hFS]; rfl, by rw [hFS, hFR]; rfl, fun w' t i h1 => absurd h1 (by rw [hFS]; simp), fun w' t => by rw [hFS]; exact RdK.nil _ _ _, fun o ho => by rw [hFR] at ho; simp at ho⟩)
                clear hfx hFS hFR HJN0 HFI
                go_wp2_with fail
                refine Hpk.out.mono ?_
                rintro e w5 ⟨A5, c5, rfl, m5⟩
                have M5 := Lib.hid m5
                have Hn5 := Lib.hid (Hnl.out A5 c5 w5 m5.own.rd)
                clear m5 Hpk Hnl
                go_wp2_with fail
                refine Hn5.out.mono ?_
                rintro e w6 ⟨rfl, t6⟩
                have HT4 := Lib.hid (M5.out.t.trans0 t6)
                have hp0 := (HTq.out.trans0 HT4.out).cell HP16.out.1 (by simp)
                clear t6 Hn5
                go_wp2_with fail
                go_loopw [18, 108] (fun o i w4 => ∃ (j q2 : Nat) (B : Option Addr) (c : Nat), j ≤ 0 ∧ q2 ≤ 9000 ∧ i = .int .i64 j ∧ o = .slice B q2 c ∧ Hid (OwnR 33 0 w4 B c (PR ++ (FR.take j).map fun o => r ++ o)) ∧ Hid (q2 = q + j) ∧ Hid (∀ b ∈ fpo B, W3.heap.size ≤ b) ∧ Hid (Touch [] W3 w4)) (fun _ i _ => 0 - (intOf i).toNat)
                case atStart => exact ⟨0, q, B, c, by omega, by omega, rfl, rfl, Lib.hid (by rw [List.take_zero, List.map_nil, List.append_nil]; exact HOR.out.touch0 HT4.out), Lib.hid (by omega), HBF, Lib.hid (HTq.out.trans0 HT4.out)⟩
                case round =>
                  obtain ⟨j, q2, B, c, hj, hq2, rfl, rfl, HOQ, HQ2, HBQ, HT5⟩ := hrel
                  by_cases hlj : j < 0
                  · exact absurd hlj (by omega)
                  · obtain rfl : j = 0 := by omega
                    have HOE : Hid (OwnR 33 0 wr B c (joinL left csB.length (rowsA.take (k + 1)) rowsB at_ bt)) := Lib.hid (by
                      have hfr : FR = [] := List.eq_nil_of_length_eq_zero (by rw [← HFS.out.2.1]; exact HFS.out.1)
                      have := HOQ.out
                      rw [HJN.out]
                      rw [hfr] at this ⊢
                      exact this)
                    have HQE : Hid (q2 = (joinL left csB.length (rowsA.take (k + 1)) rowsB at_ bt).length) := Lib.hid (by
                      rw [HJN.out, List.length_append, List.length_map, ← HFS.out.2.1, HFS.out.1, HPR.out, HQ2.out])
                    by_cases hbig : 4096 < q2
                    · have hbg : 4096 < (q2 : Int) := by omega
                      have HB := Lib.hid (show 4096 < (joinL left csB.length rowsA rowsB at_ bt).length by
                        have := joinL_le left csB.length rowsA rowsB at_ bt (k + 1); have := HQE.out; omega)
                      go_wp2_with fail
                      rw [HPE.out]
                      refine ⟨((HT0.out.trans0 HT2.out).trans0 HTw.out).trans0 HT5.out, ?_⟩
                      rw [if_pos HB.out]
                      rfl
                    · have hbg : (4096 < (q2 : Int)) = False := by simp; omega
                      go_wp2_with fail
                      go_roundw
                      case rel => exact ⟨k + 1, q2, B, c, by omega, by omega, by go_num, rfl, HOE, HQE, HBQ, HT5⟩
                      case measure => simp [intOf]; omega
            · obtain rfl : k = rn := by omega
              have hO := HOR.out
              have hQ := HPQ.out
              rw [HAS.out.2.2.1, List.take_length] at hO hQ
              have HB := Lib.hid (show ¬ 4096 < (joinL left csB.length rowsA rowsB at_ bt).length by omega)
              have HOR2 := Lib.hid hO
              have HPQ2 := Lib.hid hQ
              clear hO hQ HOR HPQ
              go_wp2_with fail
              rw [HPE.out]
              refine ⟨((HT0.out.trans0 HT2.out).trans0 HTw.out).trans0 HTq.out, ?_⟩
              rw [if_neg HB.out]
              exact ⟨B, c, by rw [← HPQ2.out]; rfl, HOR2.out.rowsAt⟩
end Go.Proofs.YtafoklilkdnepaaGreatDoor

/- The contracts of Go library functions at this translation, laid in plain words by the tool of the kit; no condition. -/
namespace Go.Proofs
open Go.Shelf
def Tryz.lays125_ren : Go.Shelf.Ren := ⟨fun | 125 => 85 | 128 => 124 | 129 => 125 | n => n, fun | 46 => 149 | 3 => 3 | 51 => 182 | 53 => 184 | 4 => 4 | 5 => 5 | 9 => 9 | n => n, fun | n => n⟩
theorem Tryz.lays125 : Go.Proofs.Lays.n125 Tryz.prog Tryz.lays125_ren := {
  mixed := by kernel_rfl
  f125 := Tryz.func85.trans (congrArg some (by kernel_rfl))
  f128 := Tryz.func124.trans (congrArg some (by kernel_rfl))
  f129 := Tryz.func125.trans (congrArg some (by kernel_rfl))
  t3 := Tryz.underlying3
  a3 := Tryz.isAgg3
  z3 := Tryz.sizeOf3
  v3 := Tryz.zeroValue3
  t4 := Tryz.underlying4
  a4 := Tryz.isAgg4
  z4 := Tryz.sizeOf4
  v4 := Tryz.zeroValue4
  t5 := Tryz.underlying5
  a5 := Tryz.isAgg5
  z5 := Tryz.sizeOf5
  v5 := Tryz.zeroValue5
  t9 := Tryz.underlying9
  a9 := Tryz.isAgg9
  z9 := Tryz.sizeOf9
  v9 := Tryz.zeroValue9
  t46 := Tryz.underlying149
  a46 := Tryz.isAgg149
  z46 := Tryz.sizeOf149
  v46 := Tryz.zeroValue149
  t51 := Tryz.underlying182
  a51 := Tryz.isAgg182
  z51 := Tryz.sizeOf182
  v51 := Tryz.zeroValue182
  t53 := Tryz.underlying184
  a53 := Tryz.isAgg184
  z53 := Tryz.sizeOf184
  v53 := Tryz.zeroValue184 }
/-- bits.Len: "Len returns the minimum number of bits required to represent x; the result is 0 for x == 0.": IT RETURNS 'Lib.bitLen x'; the world is as it was. (A uint has 64 bits in the model.) ITS CALLEE bits.Len64 IS MET BY ITS OWN CONTRACT OFF THE SHELF (lay that first). (LAID: no walk: one application.) -/
theorem Tryz.bits_Len (x : Int) (w : World) (h0 : 0 ≤ x) (h1 : x ≤ 18446744073709551615) :
    Calls Tryz.prog 85 #[.int .u64 x] w fun e w' => e = .returned (.int .i64 (Lib.bitLen x.toNat)) ∧ w' = w := Any.bits_Len Tryz.lays125 x w h0 h1
def Tryz.laysM171_ren : Go.Shelf.Ren := ⟨fun | 171 => 193 | 243 => 207 | 246 => 213 | 283 => 215 | 284 => 216 | 285 => 217 | 286 => 218 | 129 => 125 | 317 => 219 | 318 => 220 | 319 => 221 | 320 => 222 | 337 => 223 | 338 => 224 | n => n, fun | 3 => 3 | 9 => 9 | 2 => 2 | 4 => 4 | 171 => 262 | 0 => 0 | 53 => 184 | 37 => 165 | 5 => 5 | 173 => 264 | 212 => 267 | 51 => 182 | 20 => 20 | 213 => 268 | 46 => 149 | 232 => 269 | 233 => 270 | n => n, fun | 17 => 2 | 18 => 3 | 19 => 4 | n => n⟩
theorem Tryz.laysM171 : Go.Proofs.LaysM.n171 Tryz.prog Tryz.laysM171_ren := {
  mixed := by kernel_rfl
  f129 := Tryz.func125.trans (congrArg some (by kernel_rfl))
  f171 := Tryz.func193.trans (congrArg some (by kernel_rfl))
  f243 := Tryz.func207.trans (congrArg some (by kernel_rfl))
  f246 := Tryz.func213.trans (congrArg some (by kernel_rfl))
  f283 := Tryz.func215.trans (congrArg some (by kernel_rfl))
  f284 := Tryz.func216.trans (congrArg some (by kernel_rfl))
  f285 := Tryz.func217.trans (congrArg some (by kernel_rfl))
  f286 := Tryz.func218.trans (congrArg some (by kernel_rfl))
  f317 := Tryz.func219.trans (congrArg some (by kernel_rfl))
  f318 := Tryz.func220.trans (congrArg some (by kernel_rfl))
  f319 := Tryz.func221.trans (congrArg some (by kernel_rfl))
  f320 := Tryz.func222.trans (congrArg some (by kernel_rfl))
  f337 := Tryz.func223.trans (congrArg some (by kernel_rfl))
  f338 := Tryz.func224.trans (congrArg some (by kernel_rfl))
  t0 := Tryz.underlying0
  a0 := Tryz.isAgg0
  z0 := Tryz.sizeOf0
  v0 := Tryz.zeroValue0
  t2 := Tryz.underlying2
  a2 := Tryz.isAgg2
  z2 := Tryz.sizeOf2
  v2 := Tryz.zeroValue2
  t3 := Tryz.underlying3
  a3 := Tryz.isAgg3
  z3 := Tryz.sizeOf3
  v3 := Tryz.zeroValue3
  t4 := Tryz.underlying4
  a4 := Tryz.isAgg4
  z4 := Tryz.sizeOf4
  v4 := Tryz.zeroValue4
  t5 := Tryz.underlying5
  a5 := Tryz.isAgg5
  z5 := Tryz.sizeOf5
  v5 := Tryz.zeroValue5
  t9 := Tryz.underlying9
  a9 := Tryz.isAgg9
  z9 := Tryz.sizeOf9
  v9 := Tryz.zeroValue9
  t20 := Tryz.underlying20
  a20 := Tryz.isAgg20
  z20 := Tryz.sizeOf20
  v20 := Tryz.zeroValue20
  t37 := Tryz.underlying165
  a37 := Tryz.isAgg165
  z37 := Tryz.sizeOf165
  v37 := Tryz.zeroValue165
  t46 := Tryz.underlying149
  a46 := Tryz.isAgg149
  z46 := Tryz.sizeOf149
  v46 := Tryz.zeroValue149
  t51 := Tryz.underlying182
  a51 := Tryz.isAgg182
  z51 := Tryz.sizeOf182
  v51 := Tryz.zeroValue182
  t53 := Tryz.underlying184
  a53 := Tryz.isAgg184
  z53 := Tryz.sizeOf184
  v53 := Tryz.zeroValue184
  t171 := Tryz.underlying262
  a171 := Tryz.isAgg262
  z171 := Tryz.sizeOf262
  v171 := Tryz.zeroValue262
  t173 := Tryz.underlying264
  a173 := Tryz.isAgg264
  z173 := Tryz.sizeOf264
  v173 := Tryz.zeroValue264
  t212 := Tryz.underlying267
  a212 := Tryz.isAgg267
  z212 := Tryz.sizeOf267
  v212 := Tryz.zeroValue267
  t213 := Tryz.underlying268
  a213 := Tryz.isAgg268
  z213 := Tryz.sizeOf268
  t232 := Tryz.underlying269
  a232 := Tryz.isAgg269
  z232 := Tryz.sizeOf269
  v232 := Tryz.zeroValue269
  t233 := Tryz.underlying270
  a233 := Tryz.isAgg270
  z233 := Tryz.sizeOf270
  v233 := Tryz.zeroValue270
  g17 := by kernel_rfl
  g18 := by kernel_rfl
  g19 := by kernel_rfl
  i0 := by kernel_rfl
  i2 := by kernel_rfl
  i3 := by kernel_rfl
  i4 := by kernel_rfl
  i5 := by kernel_rfl
  i9 := by kernel_rfl
  i20 := by kernel_rfl
  i37 := by kernel_rfl
  i46 := by kernel_rfl
  i51 := by kernel_rfl
  i53 := by kernel_rfl
  i171 := by kernel_rfl
  i173 := by kernel_rfl
  i212 := by kernel_rfl
  i232 := by kernel_rfl
  i233 := by kernel_rfl
  m17 := by kernel_rfl
  m18 := by kernel_rfl
  m19 := by kernel_rfl }
open Go.RowKit Go.Sort Go.Lib in
/-- strconv.Itoa: "Itoa is equivalent to FormatInt(int64(i), 10).": i's DECIMAL NUMERAL ('Lib.itoa': a '-' where i is negative, then the digits), FOR EVERY int. The world behind the call: the world before it, new blocks behind the heap (the library's 'var a [24]byte'), draws. (LAID: no walk: one application.) -/
theorem Tryz.strconv_Itoa (n : Int) (h0 : -9223372036854775808 ≤ n) (h1 : n ≤ 9223372036854775807) (w : World) (htab : Lib.TabIs Tryz.prog w "internal/strconv.uint64pow10" .u64 Lib.pow10Tab) :
    Calls Tryz.prog 193 #[.int .i64 n] w fun e w' => e = .returned (.string ⟨(Lib.itoa n).toArray⟩) ∧ ∃ k os, w' = grow (w.drewN k) os := Any.strconv_Itoa Tryz.laysM171 n h0 h1 w htab
def Tryz.lays171_ren : Go.Shelf.Ren := ⟨fun | 171 => 193 | 243 => 207 | 246 => 213 | 283 => 215 | 284 => 216 | 285 => 217 | 286 => 218 | 129 => 125 | 317 => 219 | 318 => 220 | 319 => 221 | 320 => 222 | 337 => 223 | 338 => 224 | n => n, fun | 3 => 3 | 9 => 9 | 2 => 2 | 4 => 4 | 171 => 262 | 0 => 0 | 53 => 184 | 37 => 165 | 5 => 5 | 173 => 264 | 212 => 267 | 51 => 182 | 20 => 20 | 213 => 268 | 46 => 149 | 232 => 269 | 233 => 270 | n => n, fun | 17 => 2 | 18 => 3 | 19 => 4 | n => n⟩
theorem Tryz.lays171 : Go.Proofs.Lays.n171 Tryz.prog Tryz.lays171_ren := {
  mixed := by kernel_rfl
  f129 := Tryz.func125.trans (congrArg some (by kernel_rfl))
  f171 := Tryz.func193.trans (congrArg some (by kernel_rfl))
  f243 := Tryz.func207.trans (congrArg some (by kernel_rfl))
  f246 := Tryz.func213.trans (congrArg some (by kernel_rfl))
  f283 := Tryz.func215.trans (congrArg some (by kernel_rfl))
  f284 := Tryz.func216.trans (congrArg some (by kernel_rfl))
  f285 := Tryz.func217.trans (congrArg some (by kernel_rfl))
  f286 := Tryz.func218.trans (congrArg some (by kernel_rfl))
  f317 := Tryz.func219.trans (congrArg some (by kernel_rfl))
  f318 := Tryz.func220.trans (congrArg some (by kernel_rfl))
  f319 := Tryz.func221.trans (congrArg some (by kernel_rfl))
  f320 := Tryz.func222.trans (congrArg some (by kernel_rfl))
  f337 := Tryz.func223.trans (congrArg some (by kernel_rfl))
  f338 := Tryz.func224.trans (congrArg some (by kernel_rfl))
  t0 := Tryz.underlying0
  a0 := Tryz.isAgg0
  z0 := Tryz.sizeOf0
  v0 := Tryz.zeroValue0
  t2 := Tryz.underlying2
  a2 := Tryz.isAgg2
  z2 := Tryz.sizeOf2
  v2 := Tryz.zeroValue2
  t3 := Tryz.underlying3
  a3 := Tryz.isAgg3
  z3 := Tryz.sizeOf3
  v3 := Tryz.zeroValue3
  t4 := Tryz.underlying4
  a4 := Tryz.isAgg4
  z4 := Tryz.sizeOf4
  v4 := Tryz.zeroValue4
  t5 := Tryz.underlying5
  a5 := Tryz.isAgg5
  z5 := Tryz.sizeOf5
  v5 := Tryz.zeroValue5
  t9 := Tryz.underlying9
  a9 := Tryz.isAgg9
  z9 := Tryz.sizeOf9
  v9 := Tryz.zeroValue9
  t20 := Tryz.underlying20
  a20 := Tryz.isAgg20
  z20 := Tryz.sizeOf20
  v20 := Tryz.zeroValue20
  t37 := Tryz.underlying165
  a37 := Tryz.isAgg165
  z37 := Tryz.sizeOf165
  v37 := Tryz.zeroValue165
  t46 := Tryz.underlying149
  a46 := Tryz.isAgg149
  z46 := Tryz.sizeOf149
  v46 := Tryz.zeroValue149
  t51 := Tryz.underlying182
  a51 := Tryz.isAgg182
  z51 := Tryz.sizeOf182
  v51 := Tryz.zeroValue182
  t53 := Tryz.underlying184
  a53 := Tryz.isAgg184
  z53 := Tryz.sizeOf184
  v53 := Tryz.zeroValue184
  t171 := Tryz.underlying262
  a171 := Tryz.isAgg262
  z171 := Tryz.sizeOf262
  v171 := Tryz.zeroValue262
  t173 := Tryz.underlying264
  a173 := Tryz.isAgg264
  z173 := Tryz.sizeOf264
  v173 := Tryz.zeroValue264
  t212 := Tryz.underlying267
  a212 := Tryz.isAgg267
  z212 := Tryz.sizeOf267
  v212 := Tryz.zeroValue267
  t213 := Tryz.underlying268
  a213 := Tryz.isAgg268
  z213 := Tryz.sizeOf268
  t232 := Tryz.underlying269
  a232 := Tryz.isAgg269
  z232 := Tryz.sizeOf269
  v232 := Tryz.zeroValue269
  t233 := Tryz.underlying270
  a233 := Tryz.isAgg270
  z233 := Tryz.sizeOf270
  v233 := Tryz.zeroValue270
  g17 := by kernel_rfl
  g18 := by kernel_rfl
  g19 := by kernel_rfl }
open Go.RowKit Go.Sort Go.Lib in
/-- THE ROAD WITHOUT THE TABLE: 0 <= i < 100: NO PREMISE ON THE WORLD, AND THE WORLD IS AS IT WAS: a row that keeps its argument in that range need list no table ('laid = []'). (LAID: no walk: one application.) -/
theorem Tryz.strconv_Itoa_small (i : Nat) (hi : i < 100) (w : World) :
    Calls Tryz.prog 193 #[.int .i64 i] w fun e w' => e = .returned (.string ⟨(Lib.decDigits i).toArray⟩) ∧ w' = w := Any.strconv_Itoa_small Tryz.lays171 i hi w
end Go.Proofs

/- relop.Plan.group over an empty table by no columns with one count: one row. relop.Agg.of without a column. -/
namespace Go.Proofs.YtafoklilkdnepaaGreatDoor
open Go.RowKit Go.Maps Go.ChangeMaps

theorem wpList_here {P : Program} {ops : Array Oper} {Q : Exit → Act → World → Prop} {rest : List Oper} {a : Act} {w : World} (h : ∀ W, W = w → wpList P ops Q rest a W) : wpList P ops Q rest a w := h w rfl
set_option maxRecDepth 20000 in
set_option maxHeartbeats 1600000 in
/-- how many rows -/
theorem of_rows (op col nm : ByteArray) (h5 : col.toList.isEmpty = true) (SA : Option Addr) (n c : Nat) (RA : Option Addr) (m rc : Nat) (_hm : m ≤ 1000000) (w : World) :
    Calls Tryz.prog 139 #[.agg #[.string op, .string col, .string nm], .slice SA n c, .slice RA m rc] w fun e w' => e = .returned (.tuple #[.agg #[.int .i64 1, .int .i64 m, .string ⟨#[]⟩], .int .i64 0]) ∧ Touch [] w w' := by
  have t0 := ((Touch.refl [] w).alloc (.cells #[.string op, .string col, .string nm] 79)).alloc (.cells #[.int .i64 0, .int .i64 0, .string ⟨#[]⟩] 31)
  have hr := heap_alloc_new (w.alloc (.cells #[.string op, .string col, .string nm] 79)) (.cells #[.int .i64 0, .int .i64 0, .string ⟨#[]⟩] 31)
  rw [World.size_alloc] at hr
  have HR := Lib.hid (And.intro t0 hr)
  have Hof := Lib.hid fun w' => of_num m w'
  clear t0 hr
  go_enter Tryz.func139, Tryz.ntmps139
  go_wp2_with fail
  refine (Hof.out _).mono ?_
  rintro e w1 ⟨rfl, t1⟩
  have hr1 := t1.blk HR.out.2 (by simp)
  obtain ⟨z0, z1, z2, y0, y1, y2⟩ := blk3 hr1
  have HT := Lib.hid (And.intro (HR.out.1.trans0 t1) hr1)
  clear hr1 t1
  go_wp2_with fail
  refine bodyPost_ret (results_cell_two rfl _ _ (w.heap.size + 1) _ _ _ _ rfl (set3 HT.out.2 rfl _ _ _) Tryz.underlying31 rfl rfl) rfl ⟨rfl, HT.out.1.trans (touch3 _ _ _ _ _) (fun b hb => .inr (by simp at hb; omega))⟩

set_option maxHeartbeats 1600000 in
theorem inR_one (A : Option Addr) (c : Nat) (fv : Value) (w : World) : Calls Tryz.prog 177 #[.slice A 1 c, .int .i64 0, .int .i64 1, fv] w fun e w' => e = .returned (.tuple #[]) ∧ w' = w := by
  go_enter Tryz.func177, Tryz.ntmps177
  go_wp2_with fail
  go_loop [8] (fun y => y = .int .i64 1) (fun _ => 0)
  case atStart => rfl
  case round =>
    obtain rfl := hrel
    go_wp2
    go_end0
    exact ⟨rfl, rfl⟩
set_option maxRecDepth 20000 in
set_option maxHeartbeats 3200000 in
theorem pdqR_one (A : Option Addr) (c : Nat) (lim : Int) (fv : Value) (w : World) : Calls Tryz.prog 172 #[.slice A 1 c, .int .i64 0, .int .i64 1, .int .i64 lim, fv] w fun e w' => e = .returned (.tuple #[]) ∧ w' = w := by
  have Hi := Lib.hid (inR_one A c fv)
  go_enter Tryz.func172, Tryz.ntmps172
  go_wp2_with fail
  refine wp_loop_rounds 1 ?_
  rw [rounds_succ]
  go_wp2_with fail
  refine (Hi.out _).mono ?_
  rintro e w1 ⟨rfl, hw⟩
  have HW := Lib.hid hw
  clear hw
  go_wp2_with fail
  refine bodyPost_ret (results_none rfl _ _ _) rfl ?_
  exact ⟨rfl, HW.out⟩
set_option maxHeartbeats 1600000 in
theorem sortFR_one (A : Option Addr) (c : Nat) (fv : Value) (w : World) : Calls Tryz.prog 138 #[.slice A 1 c, fv] w fun e w' => e = .returned (.tuple #[]) ∧ w' = w := by
  have Hi := Lib.hid fun lim w' => pdqR_one A c lim fv w'
  have Hb := Lib.hid fun w' => Tryz.bits_Len 1 w' (by omega) (by omega)
  go_enter Tryz.func138, Tryz.ntmps138
  go_wp2_with fail
  refine (Hb.out _).mono ?_
  rintro e w1 ⟨rfl, hw⟩
  have HW := Lib.hid hw
  clear hw
  go_wp2_with fail
  refine (Hi.out _ _).mono ?_
  rintro e w2 ⟨rfl, hw⟩
  have HW2 := Lib.hid hw
  clear hw
  go_wp2_with fail
  go_end0
  exact ⟨rfl, by rw [HW2.out, HW.out]⟩

set_option maxRecDepth 40000 in
set_option maxHeartbeats 12800000 in
/-- one row: how many rows there are, none -/
theorem group_zero (x : PC) (h1 : x.names.n = 0) (h2 : x.aggs.n = 1) (op nm : ByteArray) (sa ra : SL) (cs : List CD) (hsn : sa.n = cs.length) (hl : cs.length ≤ 1000000) (hrn : ra.n = 0) (w : World) (hg : RdK agE w x.aggs.A [⟨op, ⟨#[]⟩, nm⟩]) (hcs : ColsAt w sa.A cs) :
    Calls Tryz.prog 97 #[x.val, .agg #[.slice sa.A sa.n sa.c, .slice ra.A ra.n ra.c]] w fun e w' => ∃ B c, e = .returned (.tuple #[.slice B 1 c, .int .i64 0]) ∧ RowsAt w' B [[⟨1, 0, ⟨#[]⟩⟩]] ∧ Touch [] w w' := by
  obtain ⟨SA, sn, sc⟩ := sa
  obtain ⟨RA, rn, rc⟩ := ra
  obtain ⟨k0, k1, ⟨A2, n2, c2'⟩, ⟨⟨ck, cn, ⟨cvk, cvn, cvt⟩, cop⟩, CA, cnn, cc⟩, ⟨NA, nn, nc⟩, ⟨EA, en, ec⟩, ⟨OA, ol, oc⟩, ⟨GA, gn, gc⟩, ⟨BA, bn, bc⟩, count⟩ := x
  dsimp only at h1 h2 hsn hrn hg hcs ⊢
  simp only [PC.val]
  subst h1 h2 hrn
  obtain ⟨ad, gb, go_, rfl, hadd, hc⟩ := RdK.cells hg 3 agE_length (by omega) 0 (by simp)
  rw [Nat.zero_mul] at hadd
  have e0 := hc 0 _ rfl
  have e1 := hc 1 _ rfl
  have e2 := hc 2 _ rfl
  simp only [List.getElem_cons_zero, Nat.add_zero] at e0 e1 e2
  obtain ⟨W, hW⟩ : ∃ W, W = (w.alloc (.cells #[.int .i64 k0, .string k1, .slice A2 n2 c2', .int .i64 ck, .string cn, .int .i64 cvk, .int .i64 cvn, .string cvt, .string cop, .slice CA cnn cc, .slice NA 0 nc, .slice EA en ec, .slice OA ol oc, .slice (some ad) 1 gc, .slice BA bn bc, .int .i64 count] 49)).alloc (.cells #[.slice SA sn sc, .slice RA 0 rc] 27) := ⟨_, rfl⟩
  have t0 : Touch [] w W := hW ▸ ((Touch.refl [] w).alloc _).alloc _
  have hbp := hW ▸ ((Touch.refl [] (w.alloc (.cells #[.int .i64 k0, .string k1, .slice A2 n2 c2', .int .i64 ck, .string cn, .int .i64 cvk, .int .i64 cvn, .string cvt, .string cop, .slice CA cnn cc, .slice NA 0 nc, .slice EA en ec, .slice OA ol oc, .slice (some ad) 1 gc, .slice BA bn bc, .int .i64 count] 49))).alloc (.cells #[.slice SA sn sc, .slice RA 0 rc] 27)).blk (heap_alloc_new w _) (by simp)
  have hbt : W.heap[w.heap.size + 1]? = some (.cells #[.slice SA sn sc, .slice RA 0 rc] 27 (0, 0)) := by
    have := heap_alloc_new (w.alloc (.cells #[.int .i64 k0, .string k1, .slice A2 n2 c2', .int .i64 ck, .string cn, .int .i64 cvk, .int .i64 cvn, .string cvt, .string cop, .slice CA cnn cc, .slice NA 0 nc, .slice EA en ec, .slice OA ol oc, .slice (some ad) 1 gc, .slice BA bn bc, .int .i64 count] 49)) (.cells #[.slice SA sn sc, .slice RA 0 rc] 27)
    rw [World.size_alloc] at this
    exact hW ▸ this
  have q10 : W.cell? ⟨w.heap.size, 10, none⟩ = some (.slice NA 0 nc) := cell_blk hbp rfl
  have q13 : W.cell? ⟨w.heap.size, 13, none⟩ = some (.slice (some ad) 1 gc) := cell_blk hbp rfl
  have HW := Lib.hid hW
  have HT0 := Lib.hid t0
  have HB := Lib.hid (And.intro hbt (And.intro q10 q13))
  have HE := Lib.hid (And.intro (t0.cell e0 (by simp)) (And.intro (t0.cell e1 (by simp)) (t0.cell e2 (by simp))))
  have Hpl := Lib.hid (places_any SA sc sn cs hsn.symm (by omega) NA nc 0 [] rfl (by omega) W (hcs.touch0 t0) (RdK.nil _ _ _))
  have hmm := @run_makeMap Tryz.prog
  clear hW t0 hbp hbt e0 e1 e2 hc hg hcs hsn
  go_enter Tryz.func97, Tryz.ntmps97
  go_wp2_with fail
  rw [← HW.out]
  refine Hpl.out.mono ?_
  rintro e w1 ⟨A1, m1, rfl, M1'⟩
  have HT1 := Lib.hid M1'.t
  have tm := (HT1.out.alloc (.map #[] 0))
  obtain ⟨b0, b1, _, _⟩ := blk2 (tm.blk HB.out.1 (by simp))
  have p10 := tm.cell HB.out.2.1 (by simp)
  have HMP := Lib.hid (IdxAt.made [] w1)
  clear M1' Hpl tm q10 q13
  go_wp2_with fail
  clear hmm
  refine wp_loop_rounds 1 ?_
  rw [rounds_succ]
  go_wp2_with (at_builtin; refine stop ?_)
  refine go ?_
  refine wpList_appK (enc := slE) rfl (.tmp 71) (.tmp 72) 25 rfl 33 _ 1 24 info_r5 Tryz.underlying25 rfl (by omega) slE_length slE_one none 0 0 [] rfl rfl (OwnK.nil _ _ _ _)
    (some ⟨w1.heap.size + 1, 0, none⟩) 1 1 [⟨none, 0, 0⟩] rfl rfl (by
      have := RdK.one (enc := slE) (w1.alloc (.map #[] 0)) 33 ⟨none, 0, 0⟩ #[.slice none 0 0] rfl
      rwa [World.size_alloc] at this) (by omega) (by omega) ?_
  intro Bo co w2 hown ht hf
  obtain ⟨ad2, ob, oo, rfl, hadd2, hc2⟩ := RdK.cells hown.rd 1 slE_length (by omega) 0 (by simp)
  rw [Nat.zero_mul] at hadd2
  have o0 := hc2 0 _ rfl
  simp only [Nat.add_zero] at o0
  have o0 : w2.cell? ⟨ob, oo, none⟩ = some (.slice none 0 0) := o0
  have tb := ((Touch.refl [] (w1.alloc (.map #[] 0))).alloc (.cells #[.slice none 0 0] 33)).trans0 ht
  have HT2 := Lib.hid ((HT1.out.alloc (.map #[] 0)).trans0 tb)
  have HM2 := Lib.hid (HMP.out.touch0 tb)
  have HBL := Lib.hid (HT2.out.blk HB.out.1 (by simp))
  have p13 := HT2.out.cell HB.out.2.2 (by simp)
  have Hsr := Lib.hid (sortFR_one (some ad2) co (.func (.func 81) #[] #[]) w2)
  clear hown ht hf hc2 tb HMP
  go_wp2_with fail
  refine Hsr.out.mono ?_
  rintro e w3 ⟨rfl, rfl⟩
  go_wp2_with fail
  refine wp_loop_rounds 2 ?_
  rw [rounds_succ]
  go_wp2_with fail
  refine (cloneV_any none 0 0 [] rfl (by omega) w3 (RdK.nil _ _ _)).mono ?_
  rintro e w4 ⟨A4, c4, rfl, m4⟩
  have M4 := Lib.hid m4
  have HT4 := Lib.hid (HT2.out.trans0 m4.t)
  have HM4 := Lib.hid (HM2.out.touch0 m4.t)
  have HBL4 := Lib.hid (m4.t.blk HBL.out (by simp))
  have p13' := m4.t.cell p13 (by simp)
  have e0 := HT4.out.cell HE.out.1 (by simp)
  have e1 := HT4.out.cell HE.out.2.1 (by simp)
  have e2 := HT4.out.cell HE.out.2.2 (by simp)
  clear m4 p13 HM2
  go_wp2_with fail
  refine wp_loop_rounds 2 ?_
  rw [rounds_succ]
  go_wp2_with fail
  have ta := (Touch.refl [] w4).alloc (.cells #[.string op, .string ⟨#[]⟩, .string nm] 79)
  have hba := heap_alloc_new w4 (.cells #[.string op, .string ⟨#[]⟩, .string nm] 79)
  obtain ⟨W5, hW5⟩ : ∃ W5, W5 = w4.alloc (.cells #[.string op, .string ⟨#[]⟩, .string nm] 79) := ⟨_, rfl⟩
  rw [← hW5] at ta hba ⊢
  have HT5 := Lib.hid (And.intro ta (And.intro hba (show W5.heap.size = w4.heap.size + 1 by rw [hW5, World.size_alloc])))
  obtain ⟨K, hK⟩ : ∃ K, K = S (keyL []) := ⟨_, rfl⟩
  have Hky := Lib.hid fun w' => keyOf_any none 0 0 [] rfl w' (RdK.nil _ _ _) (by omega) (by simp) (by simp)
  rw [← hK] at Hky
  have Hof := Lib.hid fun w' => (of_rows op ⟨#[]⟩ nm (by rw [toList_B]; rfl) SA sn sc none 0 0 (by omega) w' : Calls _ _ _ _ fun e w'' => e = .returned (.tuple #[.agg #[.int .i64 1, .int .i64 0, .string ⟨#[]⟩], .int .i64 0]) ∧ _)
  have Hlk := Lib.hid fun w' (t : Touch [] W5 w') => hK ▸ (((HM4.out.touch0 ta).touch0 t).miss (keyL []) (by simp [keyL]) (by simp) false)
  have td := (Touch.refl [] W5).drew
  obtain ⟨a0, a1, a2, _, _, _⟩ := blk3 hba
  obtain ⟨s0, _, _, _⟩ := blk2 (ta.blk HBL4.out (by simp))
  have HK : Hid (∀ w', Touch [] W5 w' → w'.cell? ⟨w4.heap.size, 0, none⟩ = some (.string op) ∧ w'.cell? ⟨w4.heap.size, 1, none⟩ = some (.string ⟨#[]⟩) ∧ w'.cell? ⟨w4.heap.size, 2, none⟩ = some (.string nm) ∧ w'.cell? ⟨w.heap.size + 1, 0, none⟩ = some (.slice SA sn sc) ∧ (Instr.lookup 191 (.map (some w1.heap.size)) (.string K) false).run Tryz.prog w' = .ok (.slice none 0 0) w') := Lib.hid fun w' t => ⟨t.cell a0 (by simp), t.cell a1 (by simp), t.cell a2 (by simp), t.cell s0 (by simp), Hlk.out _ t⟩
  have HTd := Lib.hid td
  have HTe : Hid (Touch [] W5 (W5.alloc (.cells #[.int .i64 0, .int .i64 0, .string ⟨#[]⟩] 31)).drew) := Lib.hid ((Touch.refl [] W5).alloc _).drew
  have HBe := Lib.hid ((Touch.refl [] (W5.alloc (.cells #[.int .i64 0, .int .i64 0, .string ⟨#[]⟩] 31))).drew.blk (heap_alloc_new W5 (.cells #[.int .i64 0, .int .i64 0, .string ⟨#[]⟩] 31)) (by simp))
  clear hW5 ta hba hK td a0 a1 a2 s0 e0 e1 e2
  go_region_held3 (fun w' => w'.cell? ⟨w4.heap.size, 0, none⟩ = some (.string op) ∧ w'.cell? ⟨w4.heap.size, 1, none⟩ = some (.string ⟨#[]⟩) ∧ w'.cell? ⟨w4.heap.size, 2, none⟩ = some (.string nm) ∧ w'.cell? ⟨w.heap.size + 1, 0, none⟩ = some (.slice SA sn sc) ∧ (Instr.lookup 191 (.map (some w1.heap.size)) (.string K) false).run Tryz.prog w' = .ok (.slice none 0 0) w')
    (first
      | with_reducible exact HK.out _ HTd.out
      | with_reducible exact HK.out _ HTe.out
      | with_reducible exact HK.out _ T6
      | with_reducible exact HK.out _ (T6.alloc _)
      | with_reducible exact HK.out _ T7
      | with_reducible exact HK.out _ (T7.alloc _)
      | exact HK.out _ (T7.trans (touch3 _ _ _ _ _) (fun b hb => .inr (by simp at hb; omega))))
    (first
      | (go_at_call 136; refine (Hky.out _).mono ?_; rintro e w6 ⟨rfl, t6⟩; have h6 : Touch [] (W5.alloc (.cells #[.int .i64 0, .int .i64 0, .string ⟨#[]⟩] 31)).drew w6 := (by with_reducible exact t6); have hbv6 := h6.blk HBe.out (by simp); have T6 : Touch [] W5 w6 := HTe.out.trans0 h6; have s6 := T6.size)
      | (go_at_call 136; refine (Hky.out _).mono ?_; rintro e w6 ⟨rfl, t6⟩; have h6 : Touch [] W5.drew w6 := (by with_reducible exact t6); have T6 : Touch [] W5 w6 := HTd.out.trans0 h6; have s6 := T6.size)
      | (go_at_call 139; refine (Hof.out _).mono ?_; rintro e w7 ⟨rfl, t7⟩; have h7 : Touch [] (w6.alloc (.cells #[.int .i64 0, .int .i64 0, .string ⟨#[]⟩] 31)) w7 := (by with_reducible exact t7); have T7 : Touch [] W5 w7 := (T6.alloc _).trans0 h7; have hbv := h7.blk (heap_alloc_new w6 (.cells #[.int .i64 0, .int .i64 0, .string ⟨#[]⟩] 31)) (by simp); obtain ⟨z0, z1, z2, y0, y1, y2⟩ := blk3 hbv)
      | (go_at_call 139; refine (Hof.out _).mono ?_; rintro e w7 ⟨rfl, t7⟩; have h7 : Touch [] w6 w7 := (by with_reducible exact t7); have T7 : Touch [] W5 w7 := T6.trans0 h7; have hbv := h7.blk hbv6 (by simp); obtain ⟨z0, z1, z2, y0, y1, y2⟩ := blk3 hbv)
      | (go_at_call 139; refine (Hof.out _).mono ?_; rintro e w7 ⟨rfl, t7⟩; have h7 : Touch [] w6 w7 := (by with_reducible exact t7); have T7 : Touch [] W5 w7 := T6.trans0 h7))
  all_goals (go_wp2_with (at_builtin; refine stop ?_))
  all_goals
    refine go ?_
    refine wpList_here ?_
    intro W8 hW8
    have T8 : Touch [] W5 W8 := by
      rw [hW8]
      first
        | with_reducible exact (T7.alloc _).alloc _
        | exact (T7.trans (touch3 _ _ _ _ _) (fun b hb => .inr (by simp at hb; omega))).alloc _
    have hrd : ∀ g, g + 1 = W8.heap.size → RdK vdE W8 (some ⟨g, 0, none⟩) [⟨1, 0, ⟨#[]⟩⟩] := by
      obtain ⟨X, hX⟩ : ∃ X : World, W8 = X.alloc (.cells #[.int .i64 1, .int .i64 0, .string ⟨#[]⟩] 31) := ⟨_, hW8⟩
      intro g hg
      rw [hX] at hg ⊢
      rw [World.size_alloc] at hg
      obtain rfl : g = X.heap.size := by omega
      exact RdK.one (enc := vdE) X 31 ⟨1, 0, ⟨#[]⟩⟩ _ rfl
    have hA : ∀ g, g = W8.heap.size → g = W8.heap.size := fun _ h => h
    refine wpList_appK (enc := vdE) rfl (.tmp 105) (.tmp 107) 33 rfl 31 _ 3 32 info_v5 Tryz.underlying33 rfl (by omega) vdE_length vdE_one A4 0 c4 [] rfl rfl (M4.out.own.touch0 (HT5.out.1.trans0 T8))
      _ 1 _ [⟨1, 0, ⟨#[]⟩⟩] rfl rfl (hrd _ (by rw [hW8]; simp)) (by omega) (by omega) ?_
    intro A9 c9 w9 hown ht hf
    have hTT : Touch [] w w9 := (((HT0.out.trans0 HT4.out).trans0 HT5.out.1).trans0 T8).trans ht (fun b hb => .inr (by have := M4.out.f b hb; have := (HT0.out.trans0 HT2.out).size; omega))
    rw [List.nil_append] at hown
    have HX := Lib.hid (And.intro hown hTT)
    clear hown ht hf hTT hrd hA T8 hW8
    go_wp2_with fail
    rw [rounds_succ]
    go_wp2_with (at_builtin; refine stop ?_)
    refine go ?_
    refine wpList_appR rfl (.tmp 110) (.tmp 112) 25 rfl 33 info_r5 Tryz.underlying25 0 none 0 0 [] rfl rfl (OwnR.nil _ _ _) A9 c9 [⟨1, 0, ⟨#[]⟩⟩] HX.out.1.rd
      (fun b hb => ⟨by simp [fpo], HX.out.1.lt b hb, Nat.zero_le _⟩) 1 rfl (by omega) rfl ?_
    intro B' c' w' hown2 ht2 hf2
    have HY := Lib.hid (And.intro hown2 ((HX.out.2.alloc _).trans0 ht2))
    clear hown2 ht2 hf2
    go_wp2_with fail
    rw [rounds_succ]
    go_wp2_with fail
    go_ret2
    exact ⟨B', c', rfl, HY.out.1.rowsAt, HY.out.2⟩
end Go.Proofs.YtafoklilkdnepaaGreatDoor

/- relop.Plan.checkOn: may two schemas be joined on these pairs? For every plan and schemas. -/
namespace Go.Proofs.YtafoklilkdnepaaGreatDoor
open Go.RowKit

/-- the type of the first column of a name -/
def typO (cs : List CD) (s : ByteArray) : Option Int := (placeV cs s).map fun k => (cs.getD k ⟨⟨#[]⟩, 0⟩).typ
def onL (a b : List CD) : List (ByteArray × ByteArray) → Int
  | [] => 0
  | p :: r => match typO a p.1, typO b p.2 with
    | some s, some t => if s = t then onL a b r else 12
    | _, _ => 13
def onV (a b : List CD) (l : List (ByteArray × ByteArray)) : Int := if l.length = 0 then 20 else onL a b l
theorem onL_step (a b : List CD) (l : List (ByteArray × ByteArray)) (k : Nat) (h : k < l.length) : onL a b (l.drop k) = match typO a l[k].1, typO b l[k].2 with
    | some s, some t => if s = t then onL a b (l.drop (k + 1)) else 12
    | _, _ => 13 := by
  rw [List.drop_eq_getElem_cons h]; rfl

set_option maxRecDepth 20000 in
set_option maxHeartbeats 6400000 in
theorem checkOn_any (x : PC) (on : List (ByteArray × ByteArray)) (ho : x.on.n = on.length) (SA SB : Option Addr) (c1 c2 n1 n2 : Nat) (a b : List CD) (h1 : a.length = n1) (h2 : b.length = n2) (hl1 : n1 ≤ 1000000) (hl2 : n2 ≤ 1000000) (hlo : on.length ≤ 1000000) (w : World)
    (hr : RdK prE w x.on.A on) (ha : ColsAt w SA a) (hb : ColsAt w SB b) :
    Calls Tryz.prog 91 #[x.val, .slice SA n1 c1, .slice SB n2 c2] w fun e w' => e = .returned (.int .i64 (onV a b on)) ∧ Touch [] w w' := by
  subst h1 h2
  have Hv := Lib.hid (show onV a b on = if on.length = 0 then 20 else onL a b on from rfl)
  have HRD := Lib.hid (And.intro hr (And.intro ha hb))
  obtain ⟨k0, k1, ⟨A2, n2, c2'⟩, ⟨⟨ck, cn, ⟨cvk, cvn, cvt⟩, cop⟩, CA, cnn, cc⟩, ⟨NA, nn, nc⟩, ⟨EA, en, ec⟩, ⟨OA, ol, oc⟩, ⟨GA, gn, gc⟩, ⟨BA, bn, bc⟩, count⟩ := x
  simp only [PC.val] at *
  subst ho
  have t0 := (Touch.refl [] w).alloc (.cells #[.int .i64 k0, .string k1, .slice A2 n2 c2', .int .i64 ck, .string cn, .int .i64 cvk, .int .i64 cvn, .string cvt, .string cop, .slice CA cnn cc, .slice NA nn nc, .slice EA en ec, .slice OA on.length oc, .slice GA gn gc, .slice BA bn bc, .int .i64 count] 49)
  have HT0 := Lib.hid t0
  clear t0 hr ha hb
  by_cases hz : on.length = 0
  · have Hq := Lib.hid (show onV a b on = 20 by rw [Hv.out, if_pos hz])
    have hzb : ((on.length : Int) == 0) = true := by rw [hz]; rfl
    clear hz
    go_enter Tryz.func91, Tryz.ntmps91
    go_wp2
    go_ret
    exact ⟨ret_int Hq.out.symm, HT0.out⟩
  · have Hq := Lib.hid (show onV a b on = onL a b on by rw [Hv.out, if_neg hz])
    have hzb : ((on.length : Int) == 0) = false := by rw [beq_eq_false_iff_ne]; omega
    clear hz Hv
    go_enter Tryz.func91, Tryz.ntmps91
    go_wp2_with fail
    go_loopw [20] (fun i wr => ∃ k : Nat, k ≤ on.length ∧ i = .int .i64 k ∧ Hid (onV a b on = onL a b (on.drop k)) ∧ Hid (Touch [] w wr)) (fun i _ => on.length - (intOf i).toNat)
    case atStart => exact ⟨0, by omega, rfl, Lib.hid (by rw [Hq.out, List.drop_zero]), HT0⟩
    case round =>
      obtain ⟨k, hk, rfl, Hd, HT⟩ := hrel
      by_cases hlt : k < on.length
      · obtain ⟨ad, b1, o1, rfl, hadd, hc⟩ := RdK.cells (HRD.out.1.touch0 HT.out) 2 prE_length (by omega) k hlt
        have hst := onL_step a b on k hlt
        obtain ⟨p, hp⟩ : ∃ p, p = on[k] := ⟨_, rfl⟩
        rw [← hp] at hc hst
        obtain ⟨p1, p2⟩ := p
        have e0 := hc 0 _ rfl
        have e1 := hc 1 _ rfl
        rw [Nat.add_zero] at e0
        have ta := (Touch.refl [] wr).alloc (.cells #[.string p1, .string p2] 39)
        have hbl := heap_alloc_new wr (.cells #[.string p1, .string p2] 39)
        have hfa := fun w' (t : Touch [] wr w') => findC_any SA c1 a.length a rfl p1 w' (HRD.out.2.1.touch0 (HT.out.trans0 t)) (by omega)
        have hfb := fun w' (t : Touch [] wr w') => findC_any SB c2 b.length b rfl p2 w' (HRD.out.2.2.touch0 (HT.out.trans0 t)) (by omega)
        have hkn : (k : Int) < (on.length : Int) := by omega
        have HTa := Lib.hid (And.intro ta hbl)
        rcases hpa : placeV a p1 with _ | i
        · rw [hpa] at hfa
          have Hq2 := Lib.hid (show onV a b on = 13 by rw [Hd.out, hst]; unfold typO; rw [hpa]; rfl)
          have Hfa := Lib.hid hfa
          have Hfb := Lib.hid hfb
          clear hfa hfb hpa hst hc hp ta hbl
          go_wp2_with fail
          refine (Hfa.out _ HTa.out.1).mono ?_
          rintro e w1 ⟨rfl, t1⟩
          have T1 := HTa.out.1.trans0 t1
          obtain ⟨g0, g1, _, _⟩ := blk2 (t1.blk HTa.out.2 (by simp))
          have HT1 := Lib.hid T1
          clear T1 t1
          go_wp2_with fail
          refine (Hfb.out _ HT1.out).mono ?_
          rintro e w2 ⟨rfl, t2⟩
          have HT2 := Lib.hid (HT1.out.trans0 t2)
          clear t2
          go_wp2
          go_ret
          exact ⟨ret_int Hq2.out.symm, HT.out.trans0 HT2.out⟩
        · rw [hpa] at hfa
          rcases hpb : placeV b p2 with _ | j
          · rw [hpb] at hfb
            have Hq2 := Lib.hid (show onV a b on = 13 by rw [Hd.out, hst]; unfold typO; rw [hpa, hpb]; rfl)
            have Hfa := Lib.hid hfa
            have Hfb := Lib.hid hfb
            clear hfa hfb hpa hpb hst hc hp ta hbl
            go_wp2_with fail
            refine (Hfa.out _ HTa.out.1).mono ?_
            rintro e w1 ⟨rfl, t1⟩
            have T1 := HTa.out.1.trans0 t1
            obtain ⟨g0, g1, _, _⟩ := blk2 (t1.blk HTa.out.2 (by simp))
            have HT1 := Lib.hid T1
            clear T1 t1
            go_wp2_with fail
            refine (Hfb.out _ HT1.out).mono ?_
            rintro e w2 ⟨rfl, t2⟩
            have HT2 := Lib.hid (HT1.out.trans0 t2)
            clear t2
            go_wp2
            go_ret
            exact ⟨ret_int Hq2.out.symm, HT.out.trans0 HT2.out⟩
          · rw [hpb] at hfb
            have hil := placeV_lt hpa
            have hjl := placeV_lt hpb
            obtain ⟨ad2, b2, o2, rfl, hadd2, _, e3⟩ := (HRD.out.2.1.touch0 HT.out).at_ i hil
            obtain ⟨ad3, b3, o3, rfl, hadd3, _, e4⟩ := (HRD.out.2.2.touch0 HT.out).at_ j hjl
            have hts : onL a b (on.drop k) = if a[i].typ = b[j].typ then onL a b (on.drop (k + 1)) else 12 := by
              rw [hst]; unfold typO; rw [hpa, hpb]; simp [hil, hjl]
            obtain ⟨s, hs⟩ : ∃ s, s = a[i].typ := ⟨_, rfl⟩
            obtain ⟨t, ht⟩ : ∃ t, t = b[j].typ := ⟨_, rfl⟩
            rw [← hs] at e3 hts
            rw [← ht] at e4 hts
            have hi0 : (0 : Int) ≤ (i : Int) := by omega
            have hj0 : (0 : Int) ≤ (j : Int) := by omega
            have hin : (i : Int) < (a.length : Int) := by omega
            have hjn : (j : Int) < (b.length : Int) := by omega
            have HTS := Lib.hid hts
            have Hfa := Lib.hid hfa
            have Hfb := Lib.hid hfb
            clear hfa hfb hpa hpb hst hc hp ta hbl hts hs ht
            by_cases hst : s = t
            · subst hst
              have Hn := Lib.hid (show onV a b on = onL a b (on.drop (k + 1)) by rw [Hd.out, HTS.out, if_pos rfl])
              clear HTS
              go_wp2_with fail
              refine (Hfa.out _ HTa.out.1).mono ?_
              rintro e w1 ⟨rfl, t1⟩
              have T1 := HTa.out.1.trans0 t1
              obtain ⟨g0, g1, _, _⟩ := blk2 (t1.blk HTa.out.2 (by simp))
              have HT1 := Lib.hid T1
              clear T1 t1
              go_wp2_with fail
              refine (Hfb.out _ HT1.out).mono ?_
              rintro e w2 ⟨rfl, t2⟩
              have e3' := (HT1.out.trans0 t2).cell e3 (by simp)
              have e4' := (HT1.out.trans0 t2).cell e4 (by simp)
              have HT2 := Lib.hid (HT1.out.trans0 t2)
              clear t2
              go_wp2_with fail
              go_quiet (fail)
              go_wp2_with fail
              go_roundw
              case rel => exact ⟨k + 1, by omega, by go_num, Hn, Lib.hid ((HT.out.trans0 HT2.out).drewN _)⟩
              case measure => simp [intOf]; omega
            · have Hn := Lib.hid (show onV a b on = 12 by rw [Hd.out, HTS.out, if_neg hst])
              have hq : (s == t) = false := by rw [beq_eq_false_iff_ne]; exact hst
              have hq' : (s != t) = true := by rw [bne, hq]; rfl
              clear HTS
              go_wp2_with fail
              refine (Hfa.out _ HTa.out.1).mono ?_
              rintro e w1 ⟨rfl, t1⟩
              have T1 := HTa.out.1.trans0 t1
              obtain ⟨g0, g1, _, _⟩ := blk2 (t1.blk HTa.out.2 (by simp))
              have HT1 := Lib.hid T1
              clear T1 t1
              go_wp2_with fail
              refine (Hfb.out _ HT1.out).mono ?_
              rintro e w2 ⟨rfl, t2⟩
              have e3' := (HT1.out.trans0 t2).cell e3 (by simp)
              have e4' := (HT1.out.trans0 t2).cell e4 (by simp)
              have HT2 := Lib.hid (HT1.out.trans0 t2)
              clear t2
              go_wp2_with fail
              go_quiet (fail)
              go_wp2_with fail
              go_ret
              exact ⟨ret_int Hn.out.symm, (HT.out.trans0 HT2.out).drewN _⟩
      · obtain rfl : k = on.length := by omega
        have Hn := Lib.hid (show onV a b on = 0 by rw [Hd.out, List.drop_length]; rfl)
        go_wp2
        go_ret
        exact ⟨ret_int Hn.out.symm, HT.out⟩
end Go.Proofs.YtafoklilkdnepaaGreatDoor
