/- Part 9 of the texts of this proof, one behind the other; each begins with its own sentence. No condition beyond those that its theorems state. -/
import Derived.Test.YtlcpljpeljoboaaDoorSp8
import Derived.Deep.CutBlock
import Derived.Deep.DeepCutAuto
import Derived.ProofKit
import Derived.Deep.Slices
import Derived.Deep.Fields
import Derived.ChangeSame
import Derived.Test.YtlcpljpeljoboaaDoorRows
import Derived.Deep.DeepHandedRow
import Derived.Lib.LaidTab
/- bywashlaw08.SegmentPlays: the walk of the law. For every capacity and script; the half bytes' table as the program's text lays it. -/
namespace Go.Proofs.YtlcpljpeljoboaaDoor
open Go.RowKit

theorem hd1_len : (hdB 1 []).length = 11 := by kernel_rfl
theorem fileB_new : (fileB 1 [] []).length = 11 := by unfold fileB; simpa using hd1_len

set_option maxRecDepth 100000 in
set_option maxHeartbeats 51200000 in
theorem plays_law (a0 : Int) (A : Option Addr) (c : Nat) (l : List OpG) (w : World) (hl : l.length ≤ 9223372036854775807) (ho : OpsG w A l) (hh : HalfAt w) :
    Calls Tryd.prog 6 #[.int .i64 a0, .slice A l.length c] w fun e w' => e = .returned (.bool true) ∧ Touch [] w w' := by
  have Haw := Lib.hid fun w' (t : Touch [] w w') => awake8_any w' (hh.touch t (by simp))
  by_cases h30 : a0 < 30
  · go_enter Tryd.func6, Tryd.ntmps6
    go_wp2_with fail
    refine (Haw.out _ (Touch.refl _ _)).mono ?_
    rintro e w1 ⟨rfl, t1⟩
    go_wp2
    go_ret
    exact ⟨rfl, t1⟩
  by_cases h100 : 100000 < a0
  · go_enter Tryd.func6, Tryd.ntmps6
    go_wp2_with fail
    refine (Haw.out _ (Touch.refl _ _)).mono ?_
    rintro e w1 ⟨rfl, t1⟩
    go_wp2
    go_ret
    exact ⟨rfl, t1⟩
  have ha1 : 30 ≤ a0 := by omega
  have ha2 : a0 ≤ 100000 := by omega
  have Hsm := small8_any A c l 30 w ho hl
  rcases hs : (l.all smallG && decide ((l.length : Int) ≤ 30)) with _ | _
  · rw [hs] at Hsm
    have HSM := Lib.hid Hsm
    clear Hsm hs
    go_enter Tryd.func6, Tryd.ntmps6
    go_wp2_with fail
    refine HSM.out.mono ?_
    rintro e w0 ⟨rfl, t0⟩
    go_wp2_with fail
    refine (Haw.out _ t0).mono ?_
    rintro e w1 ⟨rfl, t1⟩
    go_wp2
    go_ret
    exact ⟨rfl, t0.trans0 t1⟩
  rw [hs] at Hsm
  have HSM := Lib.hid Hsm
  rw [Bool.and_eq_true] at hs
  have hl30 : l.length ≤ 30 := by have := of_decide_eq_true hs.2; omega
  have HSO := Lib.hid (fun o (hm : o ∈ l) => smallG_iff (List.all_eq_true.1 hs.1 o hm))
  have calm0 : Calm ⟨a0, -1, 0, false⟩ := ⟨rfl, rfl⟩
  obtain ⟨d1, hd1, e1⟩ := open_fresh calm0 ([], 0) ([], 0) (by simp) (by simp) (by rw [sgOf_nil]) (by rw [sgOf_nil]) (by have := hd1_len; show ((hdB 1 []).length : Int) ≤ a0; omega)
  have HE1 := Lib.hid e1
  have hhl := hh.lt
  have HO := Lib.hid ho
  clear Hsm hs e1 h30 h100 hl ho
  go_enter Tryd.func6, Tryd.ntmps6
  go_wp2_with fail
  refine HSM.out.mono ?_
  clear HSM
  rintro e w1 ⟨rfl, t1⟩
  go_wp2_with fail
  refine (new_dk a0 w1 (by omega)).mono ?_
  rintro e w2 ⟨rfl, hd2, ht2⟩
  have s1 := t1.size
  have K2 : DkS w w1.heap.size [w1.heap.size] (mkV 0 ([], 0) ([], 0)) ⟨a0, -1, 0, false⟩ w2 := ⟨hd2, t1.trans0 ht2, by simpa using s1⟩
  have C3 := open_s w1.heap.size [w1.heap.size] _ _ w w2 K2 hh rfl (by simp [mkV]) (by simp [mkV]) (by show (0 : Int) + 5 ≤ _; omega) _ HE1.out ⟨0, [], [], 0⟩ (by
    have := (bestOf_mk (k := 0) (by omega) ([], 0) ([], 0) (.inr ⟨rfl, Nat.le_refl _⟩)).2
    rw [sgOf_nil] at this
    exact this)
  have HC3 := Lib.hid C3
  clear C3 K2 hd2 t1 ht2
  go_wp2_with fail
  refine HC3.out.mono ?_
  clear HC3
  rintro e w3 ⟨L, fp3, Fc, fcc, Fg, fcg, rfl, hL3, -, -, -, -, -, -, -⟩
  simp only [List.length_nil]
  have ta : Touch [] w3 (w3.alloc (.cells #[.slice Fc 0 fcc, .slice Fg 0 fcg] 34)) := (Touch.refl _ _).alloc _
  have HL3 := Lib.hid hL3
  have C4 := refHd_any 1 (by omega) (by omega) none 0 0 [] rfl (by omega) (w3.alloc (.cells #[.slice Fc 0 fcc, .slice Fg 0 fcg] 34)) (Rd.nil _ _)
  have HC4 := Lib.hid C4
  have Hta := Lib.hid ta
  clear C4 hL3 ta
  go_wp2_with fail
  refine HC4.out.mono ?_
  clear HC4
  rintro e w4 ⟨A13, c13, rfl, hown, ht4, hf4⟩
  have P0 : PlOk w L w1.heap.size 0 ⟨fp3, 0, 1, [], [], (fileB 1 [] []).length, up ⟨a0, -1, 0, false⟩ d1, false, none, 0, none, 0, A13, c13⟩ w4 := by
    have hLS := HL3.out.touch0 (Hta.out.trans0 ht4)
    have hlt := (HL3.out.touch0 Hta.out).ls.lts
    have hsz := (HL3.out.touch0 Hta.out).t.size
    have hown' : OwnB w4 A13 c13 (fileB 1 [] []) := by
      have e : fileB 1 [] [] = hdB 1 [] := by unfold fileB; simp
      rw [e]; exact hown
    exact ⟨hLS, ⟨hown', fun b hb => ⟨by have := hf4 b hb; omega, fun hm => by have := hf4 b hb; have := hlt b hm; omega⟩, OwnGs.nil _ _, by simp [fpo], Rd.nil _ _, by simp, by simp [fpo], by simp⟩,
      calm0.upc d1, by simp, by simp, by simp, by simp, (fun g hg => by cases hg), by simp, (by have := fileB_new; simp only; omega), (by show (0 : Int) + (d1 : Int) ≤ _; omega), ⟨by show 0 ≤ a0; omega, by show a0 ≤ _; omega⟩, by simp, (fun g hg => by cases hg)⟩
  have hn1 : (hdB 1 []).length = (fileB 1 [] []).length := by rw [fileB_new, hd1_len]
  have HP0 := Lib.hid P0
  have Hn1 := Lib.hid hn1
  clear P0 hn1 hown ht4 hf4 calm0 HL3 Hta HE1
  go_wp2_with fail
  go_loopw [9, 10, 11, 12, 13, 14, 57] (fun v9 v10 v11 v12 v13 v14 i wr => ∃ (k : Nat) (p : PS), i = .int .i64 k ∧ k ≤ l.length ∧ p.V v9 v10 v11 v12 v13 v14 ∧ PlOk w L w1.heap.size k p wr) (fun _ _ _ _ _ _ i _ => l.length - (intOf i).toNat)
  case atStart => exact ⟨0, _, rfl, by omega, ⟨rfl, rfl, rfl, rfl, by rw [Hn1.out], rfl⟩, HP0.out⟩
  case round =>
    clear HP0 Hn1
    obtain ⟨k, p, rfl, hk, ⟨rfl, rfl, rfl, rfl, rfl, rfl⟩, P⟩ := hrel
    have HP := Lib.hid P
    by_cases hlt : k < l.length
    · obtain ⟨ad, ob, off, rfl, hadd, hok0⟩ := HO.out k hlt
      have hok := hok0.touch0 P.ls.t
      have sm := HSO.out _ (List.getElem_mem hlt)
      obtain ⟨o, hoe⟩ : ∃ o, o = l[k] := ⟨_, rfl⟩
      rw [← hoe] at hok hok0 sm
      clear hoe
      have hbe := hok0.rr.old.touch0 P.ls.t
      have Hrd0 := Lib.hid hok0.rd
      clear hok0
      obtain ⟨kd, on, dA, dc, data, rA, rc, recs, kA, kc, keep⟩ := o
      obtain ⟨q0, q1, q2, q3, q4, rd, rr, rk, bk, bn, bks, dl, rl, kl, rel⟩ := hok
      obtain ⟨sd, sr, sk, se, sx⟩ := sm
      simp only at q0 q1 q2 q3 q4 rd rr rk bk bn bks dl rl kl rel sd sr sk se sx
      rcases p with ⟨fp, K, gen, cp, gs, sf, r, lo, A9, c9, A10, c10, A13, c13⟩
      obtain ⟨hls, hmem, calm, hK, g1, g2, sfl, gok, cpl, len, dn, cap, gl, gr⟩ := P
      (try simp only at hls hmem calm hK g1 g2 sfl gok cpl len dn cap gl gr)
      obtain ⟨W, hW⟩ : ∃ W, W = wr.alloc (.cells #[.int .i64 kd, .int .i64 on, .slice dA data.length dc, .slice rA recs.length rc, .slice kA keep.length kc] 52) := ⟨_, rfl⟩
      have tb : Touch [] wr W := by rw [hW]; exact (Touch.refl _ _).alloc _
      have bB : W.heap[wr.heap.size]? = some (.cells #[.int .i64 kd, .int .i64 on, .slice dA data.length dc, .slice rA recs.length rc, .slice kA keep.length kc] 52 (0, 0)) := by rw [hW]; exact heap_alloc_new wr _
      have hlsW := hls.touch0 tb
      have Ccap := capacity_any w1.heap.size r.cap W hlsW.dkS.dk.cells.1
      obtain ⟨F, hF⟩ : ∃ F, F = (fileB gen cp gs).length := ⟨_, rfl⟩
      rw [← hF] at sfl len
      have Hcap := Lib.hid Ccap
      have HW := Lib.hid hW
      have HB := Lib.hid bB
      have HPW := Lib.hid (HP.out.touch0 tb)
      have Hin := Lib.hid (And.intro (Rd.touch0 rd tb : RdB W dA data) (And.intro (rr.touch0 tb) bB))
      have HF := Lib.hid hF
      have Hgok := Lib.hid gok
      have Hgr := Lib.hid gr
      have Hsx := Lib.hid sx
      have hroom : (r.cap - (F : Int)) ≤ 1073741824 ∧ -9000000 ≤ (r.cap - (F : Int)) := by omega
      have Hbe := Lib.hid (hbe.touch0 tb)
      have hnb : wr.heap.size ∉ L :: fp := fun hm => by have := hls.ls.lts _ hm; omega
      have hnb10 : wr.heap.size ∉ fpo A10 := fun hm => by have := hmem.o10.lt _ hm; omega
      clear hW hls hmem Ccap bB HP tb rd rr rk hlsW gok gr sx bks rel hbe
      rw [← hF]
      clear hF
      go_wp2_with fail
      rw [← HW.out]
      refine Hcap.out.mono ?_
      rintro e w' ⟨rfl, rfl⟩
      clear Hcap HW q0 q1 q2 q3 q4
      obtain ⟨y0, y1, y2, y3, y4, -⟩ := blk5 HB.out
      have hF1 : 1 ≤ F := by have := HF.out; have := hdB_pos gen cp; unfold fileB at *; rw [List.length_append] at *; omega
      obtain ⟨g13, hg13⟩ : ∃ g, A13 = some ⟨g, 0, none⟩ := by
        rcases HPW.out.mem.o13.head with ⟨_, h, _⟩ | h
        · have := HF.out; simp only at h; rw [h] at this; simp at this; omega
        · exact h
      subst hg13
      have hFc : F ≤ c13 := by have := HPW.out.mem.o13.le; have h2 := HF.out; simp only at this; omega
      go_upto_block 2 with fail
      go_cut [9, 10, 11, 12, 13, 14] (fun v9 v10 v11 v12 v13 v14 wx => ∃ p : PS, p.V v9 v10 v11 v12 v13 v14 ∧ PlOk w L w1.heap.size (k + 1) p wx)
      case first =>
        have HW := Lib.hid (Touch.refl [] W)
        by_cases hk1 : kd = 1
        · as_aux_lemma =>
            subst hk1
            have Hgrp := Lib.hid (refGrp_any rA rc recs.length recs rfl (by omega) (by omega) W Hin.out.2.1)
            go_wp2_with fail
            refine Hgrp.out.mono ?_
            clear Hgrp
            rintro e wa ⟨A18, c18, rfl, hown18, hta, hfa⟩
            have hn := need_any rA rc recs.length recs rfl (by omega) (by omega) wa (Hin.out.2.1.touch0 hta) (HPW.out.ls.ls.touch0 hta).hf
            by_cases hr0 : recs.length = 0
            · as_aux_lemma =>
              obtain rfl : recs = [] := List.eq_nil_of_length_eq_zero hr0
              have hnn : (if ([] : List (List UInt8)).length = 0 then 0 else (gpB []).length : Nat) = 0 := rfl
              rw [hnn] at hn
              have Hn := Lib.hid hn
              clear hnn hn
              obtain ⟨y0a, -, -, y3a, -⟩ := blk5 (hta.blk HB.out (by simp))
              simp only [List.length_nil] at y3a Hn ⊢
              go_wp2_with fail
              refine Hn.out.mono ?_
              rintro e wb ⟨rfl, htb⟩
              have tb2 := hta.trans0 htb
              have bBb := tb2.blk HB.out (by simp)
              obtain ⟨y0b, -, -, y3b, -⟩ := blk5 bBb
              simp only [List.length_nil] at y3b
              have Pb := HPW.out.touch0 tb2
              have Cop := append_log L w1.heap.size fp _ rA rc 0 [] rfl (by simp [encR]) (by omega) (show K < 4 by omega) wb Pb.ls.ls (fun h => by simp at h) (by show r.done + 1 ≤ _; omega)
              have HPb := Lib.hid Pb
              have HBb := Lib.hid bBb
              clear Pb y0a y3a bBb
              rw [lApp_none] at Cop
              have HC := Lib.hid Cop
              clear Cop
              by_cases hrm : r.cap - (F : Int) < 0
              · go_wp2_with fail
                refine HC.out.mono ?_
                clear HC
                rintro e wx ⟨rfl, hs⟩
                obtain ⟨fp2, P2⟩ := HPb.out.upd hs calm (by rw [← HF.out]; exact sfl) (by simp only; omega) cap
                obtain ⟨_, -, hTx, -⟩ := hs
                obtain ⟨y0x, -⟩ := blk5 (hTx.blk HBb.out hnb)
                have HP2 := Lib.hid P2
                clear P2 hTx
                go_wp2_with fail
                go_meet
                exact ⟨_, ⟨rfl, rfl, rfl, rfl, by simp only; rw [← HF.out], rfl⟩, HP2.out⟩
              · go_wp2_with fail
                refine HC.out.mono ?_
                clear HC
                rintro e wx ⟨rfl, hs⟩
                obtain ⟨fp2, P2⟩ := HPb.out.upd hs calm (by rw [← HF.out]; exact sfl) (by simp only; omega) cap
                obtain ⟨_, -, hTx, -⟩ := hs
                obtain ⟨y0x, -⟩ := blk5 (hTx.blk HBb.out hnb)
                have HP2 := Lib.hid P2
                clear P2 hTx
                go_wp2_with fail
                go_meet
                exact ⟨_, ⟨rfl, rfl, rfl, rfl, by simp only; rw [← HF.out], rfl⟩, HP2.out⟩
            · obtain ⟨M, hM⟩ : ∃ M, M = (gpB recs).length := ⟨_, rfl⟩
              rw [if_neg hr0, ← hM] at hn
              rw [← hM]
              have Hn := Lib.hid hn
              have hM1 : 1 ≤ M := by rw [hM]; exact gpB_pos recs
              have hM2 : M ≤ 1740 := by have := gpB_len recs; omega
              have HM := Lib.hid hM
              have hrI : ((recs.length : Int) == 0) = false := by rw [beq_eq_false_iff_ne]; omega
              have hMM : ((M : Int) != (M : Int)) = false := by simp
              obtain ⟨y0a, -, -, y3a, -⟩ := blk5 (hta.blk HB.out (by simp))
              clear hM hn
              go_wp2_with fail
              refine Hn.out.mono ?_
              rintro e wb ⟨rfl, htb⟩
              have tb2 := hta.trans0 htb
              have bBb := tb2.blk HB.out (by simp)
              obtain ⟨y0b, -, -, y3b, -⟩ := blk5 bBb
              have Pb := HPW.out.touch0 tb2
              have Cop := append_log L w1.heap.size fp _ rA rc recs.length recs rfl (by omega) (by omega) (show K < 4 by omega) wb Pb.ls.ls (Hin.out.2.1.touch0 tb2) (by show r.done + 1 ≤ _; omega)
              have HPb := Lib.hid Pb
              have HBb := Lib.hid bBb
              have Hown := Lib.hid (And.intro (hown18.touch0 htb) (And.intro hfa tb2))
              clear Pb y0a y3a bBb hown18 hfa hta htb tb2
              by_cases hfull : r.cap - (F : Int) < (M : Int)
              · as_aux_lemma =>
                rw [lApp_full hK calm hr0 (by rw [← HM.out, ← HF.out]; exact hfull)] at Cop
                have HC := Lib.hid Cop
                clear Cop
                go_wp2_with fail
                refine HC.out.mono ?_
                clear HC
                rintro e wx ⟨rfl, hs⟩
                obtain ⟨fp2, P2⟩ := HPb.out.upd hs calm (by rw [← HF.out]; exact sfl) (by simp only; omega) cap
                obtain ⟨_, -, hTx, -⟩ := hs
                obtain ⟨y0x, -⟩ := blk5 (hTx.blk HBb.out hnb)
                have HP2 := Lib.hid P2
                clear P2 hTx
                go_wp2_with fail
                go_meet
                exact ⟨_, ⟨rfl, rfl, rfl, rfl, by simp only; rw [← HF.out], rfl⟩, HP2.out⟩
              · as_aux_lemma =>
                have hfit : (M : Int) ≤ r.cap - (F : Int) := by omega
                rw [lApp_calm hK calm hr0 (by rw [← HM.out, ← HF.out]; exact hfit)] at Cop
                have HC := Lib.hid Cop
                clear Cop
                go_wp2_with fail
                refine HC.out.mono ?_
                clear HC
                rintro e wx ⟨rfl, hs⟩
                obtain ⟨fp2, hlsx, hTx, hFx⟩ := HPb.out.ls.step hs
                have bBx := hTx.blk HBb.out hnb
                have memx := HPb.out.mem.step HPb.out.ls.f HPb.out.ls.ls.lt hTx hFx
                have r18 : RdB wx A18 (gpB recs) := Rd.touch Hown.out.1.rd hTx (fun b hb hm => by
                  have h1 := Hown.out.2.1 b hb
                  have h2 := HPW.out.ls.ls.lts b hm
                  omega)
                have r13 : RdB wx (some ⟨g13, 0, none⟩) (fileB gen cp gs) := memx.o13.rd
                obtain ⟨y0x, -⟩ := blk5 bBx
                have Hx := Lib.hid (And.intro hlsx (And.intro memx (And.intro bBx hTx)))
                clear hs hlsx memx bBx hTx hFx
                go_wp2_with (at_builtin; refine stop ?_)
                refine go ?_
                refine wpList_appF rfl (.tmp 129) (.tmp 130) rfl (some ⟨g13, 0, none⟩) F (fileB gen cp gs) HF.out.symm (by omega) rfl r13 A18 M c18 (gpB recs) HM.out.symm (by omega) rfl r18 (by omega) ?_
                intro A13' c13' wy hown13 hty hfy
                have bBy := hty.blk Hx.out.2.2.1 (by simp)
                obtain ⟨y0y, -, -, y3y, -⟩ := blk5 bBy
                have Hy := Lib.hid (And.intro hown13 (And.intro hty (And.intro hfy bBy)))
                clear hown13 hty hfy bBy y0b y3b y0x r13 r18
                go_wp2_with (at_builtin; refine stop ?_)
                refine go ?_
                have tz : Touch [] wy (wy.alloc (.cells #[.slice rA recs.length rc] 49)) := (Touch.refl _ _).alloc _
                have hbz : BsD (fun b => b < w.heap.size ∧ b ∉ fpo A10) (wy.alloc (.cells #[.slice rA recs.length rc] 49)) rA recs := by
                  have h1 := ((Hbe.out.touch0 Hown.out.2.2).touch Hx.out.2.2.2 (fun b hb _ hm => by have := HPW.out.ls.f b hm; omega)).touch0 (Hy.out.2.1.trans0 tz)
                  exact h1.mono (fun b _ hb => ⟨hb, fun hm => by have := (HPW.out.mem.a10 b hm).1; omega⟩)
                refine wpList_appGs (D := fun b => b < w.heap.size) rfl (.tmp 132) (.tmp 135) rfl A10 gs.length c10 gs rfl rfl (Hx.out.2.1.o10.touch0 (Hy.out.2.1.trans0 tz)) wy.heap.size rA recs.length rc recs rfl (cell_blk (heap_alloc_new wy _) rfl) rfl hbz (by omega) ?_
                intro A10' c10' wz hown10 htz hfz
                obtain ⟨memz, lsz⟩ := PlMem.grow Hx.out.1 hh Hx.out.2.1 Hy.out.2.1 Hy.out.1 Hy.out.2.2.1 tz hown10 htz hfz
                have bBz := htz.blk (tz.blk Hy.out.2.2.2 (by simp)) hnb10
                obtain ⟨y0z, -⟩ := blk5 bBz
                have Hz := Lib.hid (And.intro memz lsz)
                clear memz lsz bBz hown10 htz hfz tz hbz
                go_wp2_with fail
                go_meet
                have es := fileB_snoc gen cp gs recs
                have el : (fileB gen cp (gs ++ [recs])).length = F + M := by rw [es, List.length_append, ← HF.out, ← HM.out]
                have hm := Hz.out.1
                rw [← es] at hm
                refine ⟨⟨fp2, K, gen, cp, gs ++ [recs], sf, up r 1, true, A9, c9, A10', c10', A13', c13'⟩, ⟨rfl, by simp, rfl, rfl, by simp only; rw [el], rfl⟩, ⟨Hz.out.2, hm, calm.upc _, hK, g1, by simp only; omega, by simp only; omega, ?_, cpl, by simp only; rw [el]; omega, by simp only [up]; omega, cap, by simp; omega, ?_⟩⟩
                · intro g hg
                  simp only at hg
                  rcases List.mem_append.1 hg with h | h
                  · exact Hgok.out g h
                  · obtain rfl : g = recs := by simpa using h
                    exact ⟨by omega, by omega⟩
                · intro g hg
                  simp only at hg
                  rcases List.mem_append.1 hg with h | h
                  · exact Hgr.out g h
                  · obtain rfl : g = recs := by simpa using h
                    exact sr
        by_cases hk3 : kd = 3
        · as_aux_lemma =>
            subst hk3
            have Hgrp := Lib.hid (refGrp_any rA rc recs.length recs rfl (by omega) (by omega) W Hin.out.2.1)
            go_wp2_with fail
            refine Hgrp.out.mono ?_
            clear Hgrp
            rintro e wa ⟨A18, c18, rfl, hown18, hta, hfa⟩
            have hn := need_any rA rc recs.length recs rfl (by omega) (by omega) wa (Hin.out.2.1.touch0 hta) (HPW.out.ls.ls.touch0 hta).hf
            by_cases hr0 : recs.length = 0
            · as_aux_lemma =>
              obtain rfl : recs = [] := List.eq_nil_of_length_eq_zero hr0
              have hnn : (if ([] : List (List UInt8)).length = 0 then 0 else (gpB []).length : Nat) = 0 := rfl
              rw [hnn] at hn
              have Hn := Lib.hid hn
              clear hnn hn
              obtain ⟨y0a, -, -, y3a, -⟩ := blk5 (hta.blk HB.out (by simp))
              simp only [List.length_nil] at y3a Hn ⊢
              go_wp2_with fail
              refine Hn.out.mono ?_
              rintro e wb ⟨rfl, htb⟩
              have tb2 := hta.trans0 htb
              have bBb := tb2.blk HB.out (by simp)
              obtain ⟨y0b, -, -, y3b, -⟩ := blk5 bBb
              simp only [List.length_nil] at y3b
              have Pb := HPW.out.touch0 tb2
              have Cop := commit_log L w1.heap.size fp _ rA rc 0 [] rfl (by simp [encR]) (by omega) (show K < 4 by omega) wb Pb.ls.ls (fun h => by simp at h) (by show r.done + 2 ≤ _; omega)
              have HPb := Lib.hid Pb
              have HBb := Lib.hid bBb
              clear Pb y0a y3a bBb
              rw [lCommit_none] at Cop
              by_cases hrm : r.cap - (F : Int) < 0
              · rcases lo with _ | _
                · rw [lSync_none] at Cop
                  have HC := Lib.hid Cop
                  clear Cop
                  go_wp2_with fail
                  refine HC.out.mono ?_
                  clear HC
                  rintro e wx ⟨rfl, hs⟩
                  obtain ⟨fp2, P2⟩ := HPb.out.upd hs calm (by rw [← HF.out]; exact sfl) (by simp only; omega) cap
                  obtain ⟨_, -, hTx, -⟩ := hs
                  obtain ⟨y0x, -⟩ := blk5 (hTx.blk HBb.out hnb)
                  have HP2 := Lib.hid P2
                  clear P2 hTx
                  go_wp2_with fail
                  go_meet
                  exact ⟨_, ⟨rfl, rfl, rfl, rfl, by simp only; rw [← HF.out], rfl⟩, HP2.out⟩
                · rw [lSync_calm hK calm] at Cop
                  have HC := Lib.hid Cop
                  clear Cop
                  go_wp2_with fail
                  refine HC.out.mono ?_
                  clear HC
                  rintro e wx ⟨rfl, hs⟩
                  obtain ⟨fp2, P2⟩ := HPb.out.upd hs (calm.upc 1) (Nat.le_refl _) (by simp only [up]; omega) cap
                  obtain ⟨_, -, hTx, -⟩ := hs
                  obtain ⟨y0x, -⟩ := blk5 (hTx.blk HBb.out hnb)
                  have HP2 := Lib.hid P2
                  clear P2 hTx
                  go_wp2_with fail
                  go_meet
                  exact ⟨_, ⟨rfl, rfl, rfl, rfl, by simp only; rw [← HF.out], rfl⟩, HP2.out⟩
              · rcases lo with _ | _
                · rw [lSync_none] at Cop
                  have HC := Lib.hid Cop
                  clear Cop
                  go_wp2_with fail
                  refine HC.out.mono ?_
                  clear HC
                  rintro e wx ⟨rfl, hs⟩
                  obtain ⟨fp2, P2⟩ := HPb.out.upd hs calm (by rw [← HF.out]; exact sfl) (by simp only; omega) cap
                  obtain ⟨_, -, hTx, -⟩ := hs
                  obtain ⟨y0x, -⟩ := blk5 (hTx.blk HBb.out hnb)
                  have HP2 := Lib.hid P2
                  clear P2 hTx
                  go_wp2_with fail
                  go_meet
                  exact ⟨_, ⟨rfl, rfl, rfl, rfl, by simp only; rw [← HF.out], rfl⟩, HP2.out⟩
                · rw [lSync_calm hK calm] at Cop
                  have HC := Lib.hid Cop
                  clear Cop
                  go_wp2_with fail
                  refine HC.out.mono ?_
                  clear HC
                  rintro e wx ⟨rfl, hs⟩
                  obtain ⟨fp2, P2⟩ := HPb.out.upd hs (calm.upc 1) (Nat.le_refl _) (by simp only [up]; omega) cap
                  obtain ⟨_, -, hTx, -⟩ := hs
                  obtain ⟨y0x, -⟩ := blk5 (hTx.blk HBb.out hnb)
                  have HP2 := Lib.hid P2
                  clear P2 hTx
                  go_wp2_with fail
                  go_meet
                  exact ⟨_, ⟨rfl, rfl, rfl, rfl, by simp only; rw [← HF.out], rfl⟩, HP2.out⟩
            · obtain ⟨M, hM⟩ : ∃ M, M = (gpB recs).length := ⟨_, rfl⟩
              rw [if_neg hr0, ← hM] at hn
              rw [← hM]
              have Hn := Lib.hid hn
              have hM1 : 1 ≤ M := by rw [hM]; exact gpB_pos recs
              have hM2 : M ≤ 1740 := by have := gpB_len recs; omega
              have HM := Lib.hid hM
              have hrI : ((recs.length : Int) == 0) = false := by rw [beq_eq_false_iff_ne]; omega
              have hMM : ((M : Int) != (M : Int)) = false := by simp
              obtain ⟨y0a, -, -, y3a, -⟩ := blk5 (hta.blk HB.out (by simp))
              clear hM hn
              go_wp2_with fail
              refine Hn.out.mono ?_
              rintro e wb ⟨rfl, htb⟩
              have tb2 := hta.trans0 htb
              have bBb := tb2.blk HB.out (by simp)
              obtain ⟨y0b, -, -, y3b, -⟩ := blk5 bBb
              have Pb := HPW.out.touch0 tb2
              have Cop := commit_log L w1.heap.size fp _ rA rc recs.length recs rfl (by omega) (by omega) (show K < 4 by omega) wb Pb.ls.ls (Hin.out.2.1.touch0 tb2) (by show r.done + 2 ≤ _; omega)
              have HPb := Lib.hid Pb
              have HBb := Lib.hid bBb
              have Hown := Lib.hid (And.intro (hown18.touch0 htb) (And.intro hfa tb2))
              clear Pb y0a y3a bBb hown18 hfa hta htb tb2
              by_cases hfull : r.cap - (F : Int) < (M : Int)
              · as_aux_lemma =>
                rw [lCommit_full hK calm hr0 (by rw [← HM.out, ← HF.out]; exact hfull)] at Cop
                have HC := Lib.hid Cop
                clear Cop
                go_wp2_with fail
                refine HC.out.mono ?_
                clear HC
                rintro e wx ⟨rfl, hs⟩
                obtain ⟨fp2, P2⟩ := HPb.out.upd hs calm (by rw [← HF.out]; exact sfl) (by simp only; omega) cap
                obtain ⟨_, -, hTx, -⟩ := hs
                obtain ⟨y0x, -⟩ := blk5 (hTx.blk HBb.out hnb)
                have HP2 := Lib.hid P2
                clear P2 hTx
                go_wp2_with fail
                go_meet
                exact ⟨_, ⟨rfl, rfl, rfl, rfl, by simp only; rw [← HF.out], rfl⟩, HP2.out⟩
              · as_aux_lemma =>
                have hfit : (M : Int) ≤ r.cap - (F : Int) := by omega
                rw [lCommit_calm hK calm hr0 (by rw [← HM.out, ← HF.out]; exact hfit)] at Cop
                have HC := Lib.hid Cop
                clear Cop
                go_wp2_with fail
                refine HC.out.mono ?_
                clear HC
                rintro e wx ⟨rfl, hs⟩
                obtain ⟨fp2, hlsx, hTx, hFx⟩ := HPb.out.ls.step hs
                have bBx := hTx.blk HBb.out hnb
                have memx := HPb.out.mem.step HPb.out.ls.f HPb.out.ls.ls.lt hTx hFx
                have r18 : RdB wx A18 (gpB recs) := Rd.touch Hown.out.1.rd hTx (fun b hb hm => by
                  have h1 := Hown.out.2.1 b hb
                  have h2 := HPW.out.ls.ls.lts b hm
                  omega)
                have r13 : RdB wx (some ⟨g13, 0, none⟩) (fileB gen cp gs) := memx.o13.rd
                obtain ⟨y0x, -⟩ := blk5 bBx
                have Hx := Lib.hid (And.intro hlsx (And.intro memx (And.intro bBx hTx)))
                clear hs hlsx memx bBx hTx hFx
                go_wp2_with (at_builtin; refine stop ?_)
                refine go ?_
                refine wpList_appF rfl (.tmp 129) (.tmp 130) rfl (some ⟨g13, 0, none⟩) F (fileB gen cp gs) HF.out.symm (by omega) rfl r13 A18 M c18 (gpB recs) HM.out.symm (by omega) rfl r18 (by omega) ?_
                intro A13' c13' wy hown13 hty hfy
                have bBy := hty.blk Hx.out.2.2.1 (by simp)
                obtain ⟨y0y, -, -, y3y, -⟩ := blk5 bBy
                have Hy := Lib.hid (And.intro hown13 (And.intro hty (And.intro hfy bBy)))
                clear hown13 hty hfy bBy y0b y3b y0x r13 r18
                go_wp2_with (at_builtin; refine stop ?_)
                refine go ?_
                have tz : Touch [] wy (wy.alloc (.cells #[.slice rA recs.length rc] 49)) := (Touch.refl _ _).alloc _
                have hbz : BsD (fun b => b < w.heap.size ∧ b ∉ fpo A10) (wy.alloc (.cells #[.slice rA recs.length rc] 49)) rA recs := by
                  have h1 := ((Hbe.out.touch0 Hown.out.2.2).touch Hx.out.2.2.2 (fun b hb _ hm => by have := HPW.out.ls.f b hm; omega)).touch0 (Hy.out.2.1.trans0 tz)
                  exact h1.mono (fun b _ hb => ⟨hb, fun hm => by have := (HPW.out.mem.a10 b hm).1; omega⟩)
                refine wpList_appGs (D := fun b => b < w.heap.size) rfl (.tmp 132) (.tmp 135) rfl A10 gs.length c10 gs rfl rfl (Hx.out.2.1.o10.touch0 (Hy.out.2.1.trans0 tz)) wy.heap.size rA recs.length rc recs rfl (cell_blk (heap_alloc_new wy _) rfl) rfl hbz (by omega) ?_
                intro A10' c10' wz hown10 htz hfz
                obtain ⟨memz, lsz⟩ := PlMem.grow Hx.out.1 hh Hx.out.2.1 Hy.out.2.1 Hy.out.1 Hy.out.2.2.1 tz hown10 htz hfz
                have bBz := htz.blk (tz.blk Hy.out.2.2.2 (by simp)) hnb10
                obtain ⟨y0z, -⟩ := blk5 bBz
                have Hz := Lib.hid (And.intro memz lsz)
                clear memz lsz bBz hown10 htz hfz tz hbz
                go_wp2_with fail
                go_meet
                have es := fileB_snoc gen cp gs recs
                have el : (fileB gen cp (gs ++ [recs])).length = F + M := by rw [es, List.length_append, ← HF.out, ← HM.out]
                have hm := Hz.out.1
                rw [← es] at hm
                refine ⟨⟨fp2, K, gen, cp, gs ++ [recs], (fileB gen cp (gs ++ [recs])).length, up r 2, false, A9, c9, A10', c10', A13', c13'⟩, ⟨rfl, by simp, rfl, rfl, by simp only; rw [el], rfl⟩, ⟨Hz.out.2, hm, calm.upc _, hK, g1, by simp only; omega, by simp only; omega, ?_, cpl, by simp only; rw [el]; omega, by simp only [up]; omega, cap, by simp; omega, ?_⟩⟩
                · intro g hg
                  simp only at hg
                  rcases List.mem_append.1 hg with h | h
                  · exact Hgok.out g h
                  · obtain rfl : g = recs := by simpa using h
                    exact ⟨by omega, by omega⟩
                · intro g hg
                  simp only at hg
                  rcases List.mem_append.1 hg with h | h
                  · exact Hgr.out g h
                  · obtain rfl : g = recs := by simpa using h
                    exact sr
        by_cases hk2 : kd = 2
        · as_aux_lemma =>
            subst hk2
            have Cop := sync_log L w1.heap.size fp _ (show K < 4 by omega) W HPW.out.ls.ls (by show r.done + 1 ≤ _; omega)
            rcases lo with _ | _
            · rw [lSync_none] at Cop
              have HC := Lib.hid Cop
              clear Cop
              go_wp2_with fail
              refine HC.out.mono ?_
              clear HC
              rintro e wx ⟨rfl, hs⟩
              obtain ⟨fp2, P2⟩ := HPW.out.upd hs calm (by rw [← HF.out]; exact sfl) (by simp only; omega) cap
              have HP2 := Lib.hid P2
              clear P2 hs
              go_wp2_with fail
              go_meet
              exact ⟨_, ⟨rfl, rfl, rfl, rfl, by simp only; rw [← HF.out], rfl⟩, HP2.out⟩
            · rw [lSync_calm hK calm] at Cop
              have HC := Lib.hid Cop
              clear Cop
              go_wp2_with fail
              refine HC.out.mono ?_
              clear HC
              rintro e wx ⟨rfl, hs⟩
              obtain ⟨fp2, P2⟩ := HPW.out.upd hs (calm.upc 1) (Nat.le_refl _) (by simp only [up]; omega) cap
              have HP2 := Lib.hid P2
              clear P2 hs
              go_wp2_with fail
              go_meet
              exact ⟨_, ⟨rfl, rfl, rfl, rfl, by simp only; rw [← HF.out], rfl⟩, HP2.out⟩
        by_cases hk4 : kd = 4
        · as_aux_lemma =>
            subst hk4
            have eg : ((gen + 1 : Nat) : Int) = (gen : Int) + 1 := by omega
            have Chd := refHd_any ((gen : Int) + 1) (by omega) (by omega) dA dc data.length data rfl (by omega) W Hin.out.1
            obtain ⟨M, hM⟩ : ∃ M, M = (hdB ((gen : Int) + 1) data).length := ⟨_, rfl⟩
            rw [← hM] at Chd
            have hM2 : M ≤ 340 := by have := hdB_len ((gen : Int) + 1) data; omega
            have HM := Lib.hid hM
            have Hhd := Lib.hid Chd
            have Hg4 := Lib.hid eg
            clear Chd hM eg
            go_wp2_with fail
            refine Hhd.out.mono ?_
            clear Hhd
            rintro e wa ⟨A20, c20, rfl, hown20, hta, hfa⟩
            have bBa := hta.blk HB.out (by simp)
            obtain ⟨y0a, y1a, y2a, y3a, y4a, -⟩ := blk5 bBa
            have Pa := HPW.out.touch0 hta
            have Cop := compact_log L w1.heap.size fp _ dA dc data.length data rfl (by omega) (show K < 2 from hK) (show gen < 9223372036854775807 by omega) wa Pa.ls.ls (Rd.stable Hrd0.out (fun b hb => HPW.out.ls.f b (by simp [hb])) Pa.ls.t) (by show r.done + 4 ≤ _; omega)
            have HPa := Lib.hid Pa
            have Hown := Lib.hid (And.intro hown20 (And.intro hfa (And.intro bBa hta)))
            clear Pa hown20 hfa bBa hta
            by_cases hfull : r.cap - (F : Int) < (M : Int)
            · as_aux_lemma =>
              rw [lCompact_full hK calm data (by rw [← HF.out, Hg4.out, ← HM.out]; exact hfull)] at Cop
              have HC := Lib.hid Cop
              clear Cop
              go_wp2_with fail
              refine HC.out.mono ?_
              clear HC
              rintro e wx ⟨rfl, hs⟩
              obtain ⟨fp2, P2⟩ := HPa.out.upd hs calm (by rw [← HF.out]; exact sfl) (by simp only; omega) cap
              have HP2 := Lib.hid P2
              clear P2 hs
              go_wp2_with fail
              go_meet
              exact ⟨_, ⟨rfl, rfl, rfl, rfl, by simp only; rw [← HF.out], rfl⟩, HP2.out⟩
            · as_aux_lemma =>
              obtain ⟨d, hd, e4⟩ := lCompact_calm (lo := lo) hK calm data (by rw [← HF.out]; exact sfl) (by rw [← HF.out, Hg4.out, ← HM.out]; omega)
              rw [e4] at Cop
              have HC := Lib.hid Cop
              clear Cop e4
              go_wp2_with fail
              refine HC.out.mono ?_
              clear HC
              rintro e wx ⟨rfl, hs⟩
              obtain ⟨fp2, hlsx, hTx, hFx⟩ := HPa.out.ls.step hs
              have bBx := hTx.blk Hown.out.2.2.1 hnb
              obtain ⟨y0x, y1x, y2x, y3x, y4x, -⟩ := blk5 bBx
              have hkk : ((1 : Int) - (K : Int)) = ((1 - K : Nat) : Int) := by omega
              have o20 : OwnB wx A20 c20 (hdB ((gen : Int) + 1) data) := Hown.out.1.touch hTx (fun b hb hm => by
                have h1 := Hown.out.2.1 b hb
                have h2 := HPW.out.ls.ls.lts b hm
                omega)
              have f20 : ∀ b ∈ fpo A20, w.heap.size ≤ b ∧ b ∉ L :: fp2 := fun b hb => by
                have h1 := Hown.out.2.1 b hb
                have h4 := HPW.out.ls.t.size
                have h5 := Hown.out.1.lt b hb
                refine ⟨by omega, fun hm => ?_⟩
                rcases List.mem_cons.1 hm with h | h
                · have h2 := HPW.out.ls.ls.lts L (by simp); omega
                · rcases hFx b h with h | h
                  · have h2 := HPW.out.ls.ls.lts b (by simp [h]); omega
                  · omega
              have tz : Touch [] wx (wx.alloc (.cells #[] 5)) := (Touch.refl _ _).alloc _
              have y2z := tz.cell y2x (by simp)
              have rdz : RdB (wx.alloc (.cells #[] 5)) dA data := Rd.touch0 Hrd0.out (hlsx.t.trans0 tz)
              have Hx := Lib.hid (And.intro hlsx (And.intro o20 (And.intro f20 tz)))
              clear hs hlsx bBx hTx hFx o20 f20 tz
              go_wp2_with (at_builtin; refine stop ?_)
              refine go ?_
              refine wpList_appB rfl (.tmp 173) (.tmp 175) rfl (some ⟨wx.heap.size, 0, none⟩) 0 0 [] rfl rfl (OwnB.empty_new wx) dA data.length dc data rfl rfl rdz (by omega) ?_
              intro A9' c9' wy hown9 hty hfy
              rw [List.nil_append, Nat.zero_add] at *
              have htz2 : Touch [] wx wy := Hx.out.2.2.2.trans hty (fun b hb => .inr (by have h9 : b = wx.heap.size := (by simpa [fpo] using hb); omega))
              have hf9 : ∀ b ∈ fpo A9', wx.heap.size ≤ b := fun b hb => by
                rcases hfy b hb with h | h
                · have : b = wx.heap.size := by simpa [fpo] using h
                  omega
                · have := Hx.out.2.2.2.size; omega
              have Hy := Lib.hid (And.intro hown9 (And.intro htz2 hf9))
              clear hown9 htz2 hf9 hty hfy rdz
              go_wp2_with fail
              go_meet
              have en : fileB (gen + 1) data [] = hdB ((gen : Int) + 1) data := by unfold fileB; rw [Hg4.out]; simp
              have el : (fileB (gen + 1) data []).length = M := by rw [en, ← HM.out]
              have hlsy := Hx.out.1.touch0 Hy.out.2.1
              refine ⟨⟨fp2, 1 - K, gen + 1, data, [], (fileB (gen + 1) data []).length, up r d, false, A9', c9', none, 0, A20, c20⟩, ⟨rfl, rfl, by simp only; rw [Hg4.out], by simp only, by simp only; rw [el], rfl⟩,
                ⟨hlsy, ⟨by simp only; rw [en]; exact Hx.out.2.1.touch0 Hy.out.2.1, Hx.out.2.2.1, OwnGs.nil _ _, by simp [fpo], Hy.out.1.rd, fun _ b hb => ⟨?_, fun hm => ?_⟩, by simp [fpo], by simp [fpo]⟩, calm.upc d, by simp only; omega, by simp only; omega, by simp only; omega, by simp, (fun g hg => by cases hg), by simp only; omega, by simp only; rw [el]; omega, by simp only [up]; omega, cap, by simp, (fun g hg => by cases hg)⟩⟩
              · have := Hy.out.2.2 b hb; have := Hx.out.1.t.size; omega
              · have := Hy.out.2.2 b hb; have := Hx.out.1.ls.lts b hm; omega
        by_cases hk7 : kd = 7
        · as_aux_lemma =>
            subst hk7
            have Cop := limit_dk w1.heap.size fp _ _ on W HPW.out.ls.dkS.dk
            have HC := Lib.hid Cop
            clear Cop
            go_wp2_with fail
            refine HC.out.mono ?_
            clear HC
            rintro e wx ⟨rfl, hs⟩
            have hs2 := HPW.out.ls.ls.step hs
            obtain ⟨r2, hr2⟩ : ∃ r2, r2 = (if 0 ≤ on ∧ on ≤ 1073741824 then { r with cap := on } else r : DR) := ⟨_, rfl⟩
            have hc2 : Calm r2 ∧ r2.done = r.done ∧ 0 ≤ r2.cap ∧ r2.cap ≤ 1073741824 := by
              rw [hr2]
              split
              · rename_i h; exact ⟨⟨calm.left, calm.down⟩, rfl, h.1, h.2⟩
              · exact ⟨calm, rfl, cap.1, cap.2⟩
            have hs3 : LsStep L w1.heap.size fp (jS K gen cp gs sf r2 lo) W wx := by rw [hr2]; exact hs2
            obtain ⟨fp2, P2⟩ := HPW.out.upd hs3 hc2.1 (by rw [← HF.out]; exact sfl) (by simp only; omega) hc2.2.2
            have HP2 := Lib.hid P2
            clear P2 hs hs2 hs3 hr2 hc2
            go_wp2_with fail
            go_meet
            exact ⟨_, ⟨rfl, rfl, rfl, rfl, by simp only; rw [← HF.out], rfl⟩, HP2.out⟩
        as_aux_lemma =>
          have i1 : (kd == 1) = false := by rw [beq_eq_false_iff_ne]; exact hk1
          have i2 : (kd == 2) = false := by rw [beq_eq_false_iff_ne]; exact hk2
          have i3 : (kd == 3) = false := by rw [beq_eq_false_iff_ne]; exact hk3
          have i4 : (kd == 4) = false := by rw [beq_eq_false_iff_ne]; exact hk4
          have i7 : (kd == 7) = false := by rw [beq_eq_false_iff_ne]; exact hk7
          go_wp2_with fail
          go_meet
          exact ⟨_, ⟨rfl, rfl, rfl, rfl, by simp only; rw [← HF.out], rfl⟩, HPW.out.stay (Touch.refl _ _)⟩
      case rest =>
        as_aux_lemma =>
        obtain ⟨p, ⟨rfl, rfl, rfl, rfl, rfl, rfl⟩, P⟩ := hcut
        clear HPW Hin HB y0 y1 y2 y3 y4 Hbe HF Hgok Hgr Hsx
        rcases p with ⟨fp', K', gen', cp', gs', sf', r', lo', B9, d9, B10, d10, B13, d13⟩
        have hK' : K' < 2 := P.kk
        have hlsP := P.ls
        have hmemP := P.mem
        have hg2' : gen' ≤ 1 + (k + 1) := P.g2
        have hlen' : (fileB gen' cp' gs').length ≤ 400 + 2100 * (k + 1) := P.len
        simp only at hlsP hmemP
        have R0 := read_up w1.heap.size fp' _ _ K' (by omega) (show r'.down = false from P.calm.down) wc hlsP.dkS.dk
        have hv : ((jS K' gen' cp' gs' sf' r' lo').V.getD K' ([], 0)).1 = fileB gen' cp' gs' := by unfold jS; simp only; rw [mkV_get hK']
        rw [hv] at R0
        obtain ⟨F', hF'⟩ : ∃ F', F' = fileB gen' cp' gs' := ⟨_, rfl⟩
        rw [← hF'] at R0 hlen' ⊢
        have HR0 := Lib.hid R0
        have HP' := Lib.hid P
        have HF' := Lib.hid hF'
        have hkk : ((1 : Int) - (K' : Int)) = ((1 - K' : Nat) : Int) := by omega
        clear R0 hv hF' P hlsP hmemP
        go_wp2_with fail
        refine HR0.out.mono ?_
        clear HR0
        rintro e wd ⟨As, cs, rfl, howns, htd, hfd⟩
        have Pd := HP'.out.touch0 htd
        have hcv1 : (convert 22 9 (.slice As F'.length cs)).run Tryd.prog wd = .ok (.string (S F')) wd := run_str_of cs rfl howns.rd
        have hcv2 : (convert 22 9 (.slice B13 F'.length d13)).run Tryd.prog wd = .ok (.string (S F')) wd := run_str_of d13 rfl (by have := Pd.mem.o13.rd; simp only at this; rw [← HF'.out] at this; exact this)
        have hq := S_bne F' F'
        rw [show decide (F' = F') = true from decide_eq_true rfl] at hq
        have Hgen := Lib.hid (gen_log L w1.heap.size fp' _ wd Pd.ls.ls)
        have hsz := size_log L w1.heap.size fp' _ (show K' < 4 by omega) wd Pd.ls.ls
        have hv : ((jS K' gen' cp' gs' sf' r' lo').V.getD (jS K' gen' cp' gs' sf' r' lo').l.file ([], 0)).1.length = F'.length := by unfold jS; simp only; rw [mkV_get hK', ← HF'.out]
        rw [hv] at hsz
        have Hsz := Lib.hid hsz
        have Hlo := Lib.hid (fun (W : World) (T : Touch [] wd W) => loose_log L w1.heap.size fp' _ W (Pd.ls.ls.touch0 T))
        have hs0 := fun (W : World) (T : Touch [] wd W) => size_dk w1.heap.size fp' _ _ (1 - K' : Nat) W (Pd.ls.dkS.dk.step T (by simp))
        have hv0 : ((jS K' gen' cp' gs' sf' r' lo').V.getD (1 - K') ([], 0)).1.length = 0 := by unfold jS; simp only; rw [mkV_other hK']; rfl
        simp only [if_pos (show (0 : Int) ≤ ((1 - K' : Nat) : Int) ∧ ((1 - K' : Nat) : Int) < 4 by omega), Int.toNat_natCast, hv0] at hs0
        rw [show ((0 : Nat) : Int) = 0 from rfl] at hs0
        have Hs0 := Lib.hid hs0
        have hlob : (lo' != lo') = false := by cases lo' <;> rfl
        have HPd := Lib.hid Pd
        clear hv hsz hs0 hv0 howns htd hfd Pd HP'
        go_wp2_with fail
        refine Hgen.out.mono ?_
        rintro e w' ⟨rfl, rfl⟩
        go_wp2_with fail
        refine Hsz.out.mono ?_
        rintro e we ⟨rfl, hte⟩
        go_wp2_with fail
        refine (Hlo.out _ hte).mono ?_
        rintro e w' ⟨rfl, rfl⟩
        go_wp2_with fail
        refine (Hs0.out _ hte).mono ?_
        rintro e w' ⟨rfl, rfl⟩
        have HPe := Lib.hid (HPd.out.touch0 hte)
        clear hkk
        go_wp2_with fail
        go_roundw
        case rel => exact ⟨k + 1, _, by go_num, by omega, ⟨rfl, rfl, rfl, rfl, by rw [HF'.out], rfl⟩, HPe.out⟩
        case measure => simp [intOf]; omega
    · as_aux_lemma =>
      obtain rfl : k = l.length := by omega
      rcases p with ⟨fp, K, gen, cp, gs, sf, r, lo, A9, c9, A10, c10, A13, c13⟩
      have hK : K < 2 := P.kk
      have g1 : 1 ≤ gen := P.g1
      have g2 : gen ≤ 1 + l.length := P.g2
      have cpl : cp.length ≤ 300 := P.cpl
      have hlen : (fileB gen cp gs).length ≤ 400 + 2100 * l.length := P.len
      have hdn : r.done ≤ 10 + 10 * l.length := P.dn
      have hgl : gs.length ≤ l.length := P.gl
      obtain ⟨d, hd, eb, eo⟩ := open_whole hK P.calm g1 (by show gen ≤ _; omega) (cp := cp) (by omega) P.gok ([], 0) (by simp) (by rw [sgOf_nil]; exact g1) sf P.sfl
      simp only at eb eo
      have C5 := open_s w1.heap.size fp _ _ w wr P.ls.dkS hh P.calm.down (by
        show ((mkV K (fileB gen cp gs, sf) ([], 0)).getD 0 ([], 0)).1.length ≤ _
        rcases mkV_01 hK (fileB gen cp gs, sf) ([], 0) with ⟨_, h, _⟩ | ⟨_, h, _⟩ <;> rw [h] <;> simp <;> omega) (by
        show ((mkV K (fileB gen cp gs, sf) ([], 0)).getD 1 ([], 0)).1.length ≤ _
        rcases mkV_01 hK (fileB gen cp gs, sf) ([], 0) with ⟨_, _, h⟩ | ⟨_, _, h⟩ <;> rw [h] <;> simp <;> omega) (by show r.done + 5 ≤ _; omega) _ eo _ eb
      have HC5 := Lib.hid C5
      have hmem : PlMem w L fp A9 cp A10 c10 gs A13 c13 (fileB gen cp gs) wr := P.mem
      have hltI : ¬ ((l.length : Int) < (l.length : Int)) := by omega
      have Hgr := Lib.hid P.gr
      have HLf := Lib.hid P.ls.f
      have HLl := Lib.hid P.ls.ls.lts
      have Hm := Lib.hid hmem
      clear C5 eb eo hmem P HP
      go_wp2_with fail
      refine HC5.out.mono ?_
      clear HC5
      rintro e we ⟨L2, fp2, Gc, gcc, Gg, gcg, rfl, hLe, hTe, -, hFe, hre, -, -, hge⟩
      have tf : Touch [] we (we.alloc (.cells #[.slice Gc cp.length gcc, .slice Gg gs.length gcg] 34)) := (Touch.refl _ _).alloc _
      have hTe' : Touch (L :: fp) wr we := hTe.mono (fun b hb => .inl (by simp [hb]))
      have memE := (Hm.out.step HLf.out (HLl.out L (by simp)) hTe' hFe).touch0 tf
      have bF : (we.alloc (.cells #[.slice Gc cp.length gcc, .slice Gg gs.length gcg] 34)).heap[we.heap.size]? = some (.cells #[.slice Gc cp.length gcc, .slice Gg gs.length gcg] 34 (0, 0)) := heap_alloc_new we _
      have u0 := cell_blk (i := 0) bF rfl
      have u1 := cell_blk (i := 1) bF rfl
      have hcv1 : (convert 22 9 (.slice Gc cp.length gcc)).run Tryd.prog (we.alloc (.cells #[.slice Gc cp.length gcc, .slice Gg gs.length gcg] 34)) = .ok (.string (S cp)) (we.alloc (.cells #[.slice Gc cp.length gcc, .slice Gg gs.length gcg] 34)) := run_str_of gcc rfl (Rd.touch0 hre tf)
      have hcv2 : (convert 22 9 (.slice A9 cp.length c9)).run Tryd.prog (we.alloc (.cells #[.slice Gc cp.length gcc, .slice Gg gs.length gcg] 34)) = .ok (.string (S cp)) (we.alloc (.cells #[.slice Gc cp.length gcc, .slice Gg gs.length gcg] 34)) := run_str_of c9 rfl memE.r9
      have hq := S_beq cp cp
      rw [show decide (cp = cp) = true from decide_eq_true rfl] at hq
      have Hgp := Lib.hid (groups_true Gg A10 gcg c10 gs.length gs rfl (by omega) (fun g hg => by have := Hgr.out g hg; omega) (we.alloc (.cells #[.slice Gc cp.length gcc, .slice Gg gs.length gcg] 34)) (hge.touch0 tf) memE.gsD)
      have TW := hLe.t.trans0 tf
      have HT := Lib.hid TW
      clear memE hge hre tf TW bF hTe hTe' hFe hLe Hm
      go_wp2_with fail
      refine Hgp.out.mono ?_
      rintro e wg ⟨rfl, htg⟩
      go_wp2_with fail
      refine (Haw.out _ (HT.out.trans0 htg)).mono ?_
      rintro e wh ⟨rfl, hth⟩
      go_wp2
      go_ret
      exact ⟨rfl, (HT.out.trans0 htg).trans0 hth⟩
end Go.Proofs.YtlcpljpeljoboaaDoor

/- A slice of bytes that came in, as the walks take it. -/
namespace Go.Proofs.YtlcpljpeljoboaaDoor
open Go.RowKit

theorem bytes_of_row {w : World} {x : Addr} {len : Nat} {zs : List Int} (hl : len ≤ zs.length) (hm : len ≤ maxLen)
    (hcell : ∀ i, i < zs.length → w.cell? (x.add i) = some (.int .u8 (zs.getD i 0))) (hw : ∀ n ∈ zs, (Lit.int .u8 n).wf = true) :
    ∃ l : List UInt8, l.length = len ∧ RdB w (some x) l ∧ l.length ≤ maxLen := by
  have hwz : ∀ n ∈ zs, 0 ≤ n ∧ n ≤ 255 := fun n hn => by
    have := hw n hn
    simpa [Lit.wf, IntKind.min, IntKind.max, IntKind.signed, IntKind.bits] using this
  refine ⟨(zs.take len).map fun n => UInt8.ofNat n.toNat, by simp; omega, fun _ => ⟨x, rfl, fun j u hu => ?_⟩, by simp; omega⟩
  have hj : j < len := by
    have := (List.getElem?_eq_some_iff.1 hu).1
    simp at this; omega
  rw [hcell j (by omega)]
  simp only [List.getElem?_map, List.getElem?_take, hj, if_true] at hu
  have hjz : j < zs.length := by omega
  rw [List.getElem?_eq_getElem hjz] at hu
  simp only [Option.map_some, Option.some.injEq] at hu
  subst hu
  have hb := hwz zs[j] (List.getElem_mem hjz)
  simp only [List.getD, List.getElem?_eq_getElem hjz, Option.getD_some, B]
  congr 2
  simp
  omega
end Go.Proofs.YtlcpljpeljoboaaDoor

/- A slice of ints that came in, as the walks take it. -/
namespace Go.Proofs.YtlcpljpeljoboaaDoor
open Go.RowKit

theorem ints_of_row {w : World} {x : Addr} {len : Nat} {zs : List Int} (hl : len ≤ zs.length) (hm : len ≤ maxLen)
    (hcell : ∀ i, i < zs.length → w.cell? (x.add i) = some (.int .i64 (zs.getD i 0))) (hw : ∀ n ∈ zs, (Lit.int .i64 n).wf = true) :
    ∃ l : List Int, l.length = len ∧ RdI w (some x) l ∧ l.length ≤ maxLen ∧ ∀ k ∈ l, -9223372036854775808 ≤ k ∧ k ≤ 9223372036854775807 := by
  refine ⟨zs.take len, by simp; omega, fun _ => ⟨x, rfl, fun j u hu => ?_⟩, by simp; omega, fun k hk => ?_⟩
  · have hj : j < len := by
      have := (List.getElem?_eq_some_iff.1 hu).1
      simp at this; omega
    rw [hcell j (by omega)]
    simp only [List.getElem?_map, List.getElem?_take, hj, if_true] at hu
    have hjz : j < zs.length := by omega
    rw [List.getElem?_eq_getElem hjz] at hu
    simp only [Option.map_some, Option.some.injEq] at hu
    subst hu
    simp [List.getD, List.getElem?_eq_getElem hjz]
  · have := hw k (List.mem_of_mem_take hk)
    simpa [Lit.wf, IntKind.min, IntKind.max, IntKind.signed, IntKind.bits] using this
end Go.Proofs.YtlcpljpeljoboaaDoor

/- A slice of bywashlaw08.Op that came in, as the walks take it. -/
namespace Go.Proofs.YtlcpljpeljoboaaDoor
open Go.RowKit Go.ChangeShapes Go.WideShapes Go.Deep

section
variable {H : Type} {enc : TypeId × Value → H} {P : Program} {w : World} {base : Nat} {spare : Nat → Bool} {held : Bool}
theorem open_slice_fields {t e : TypeId} {fs : Array Field} {fuel : Nat} {cs : List Value} {x : DataW H × List MemPlace} (ht : P.underlying t = some (.slice e)) (he : P.underlying e = some (.struct fs))
    (hone : oneCellFields P fs = true) (hC : P.cellsOf e = fs.size) (h : DataW.trod enc P w base spare held fuel t cs = some x) :
    (cs = [.slice none 0 0] ∧ x = (.nil, [])) ∨
    ∃ (a : Addr) (len cap m : Nat) (D : Nat → DataW H) (Pl : Nat → List MemPlace), cs = [.slice (some a) len cap] ∧ base ≤ a.block ∧ len ≤ cap ∧ cap ≤ maxLen ∧ m = (if spare a.block then cap else len) ∧
      x = (.slice ((List.range len).map D) ((List.range (m - len)).map fun j => D (len + j)), MemPlace.row a (m * fs.size) ++ (List.range m).flatMap Pl) ∧
      ∀ i, i < m → ∃ (ys : List (DataW H × List MemPlace)) (n : Nat), D i = .agg (ys.map (·.1)) ∧ Pl i = ys.flatMap (·.2) ∧ ys.length = fs.size ∧
        ∀ (j : Nat) (f : Field), fs[j]? = some f → ∃ (v : Value) (y : DataW H × List MemPlace), w.cell? (a.add (i * fs.size + j)) = some v ∧ ys[j]? = some y ∧ DataW.trod enc P w base spare held n f.type [v] = some y := by
  rcases open_slice ht h with h0 | ⟨a, len, cap, m, n, D, Pl, hcs, hb, hl, hm, hmm, hx, hi⟩
  · exact .inl h0
  · refine .inr ⟨a, len, cap, m, D, Pl, hcs, hb, hl, hm, hmm, by rw [hC] at hx; exact hx, fun i him => ?_⟩
    obtain ⟨cs', hc, ht'⟩ := hi i him
    rw [hC] at hc
    obtain ⟨ys, n', hn', hy, hlen, hyl, hf⟩ := DataW.trod_struct he ht'
    obtain ⟨_, hcl, hat⟩ := World.cells?_some hc
    simp only [Prod.mk.injEq] at hy
    refine ⟨ys, n', hy.1, hy.2, hyl, fun j f hj => ?_⟩
    obtain ⟨ho, hk⟩ := hone_of hone j f hj
    have hjl : j < fs.size := (Array.getElem?_eq_some_iff.1 hj).1
    have hcell := hat j hjl
    have hv : cs'[j]? = some (cs'[j]'(by omega)) := List.getElem?_eq_getElem (by omega)
    have h1 := hf j f hj
    rw [ho, hk] at h1
    have hone' : (cs'.drop j).take 1 = [cs'[j]'(by omega)] := by
      rw [List.drop_eq_getElem_cons (by omega)]
      rfl
    rw [hone'] at h1
    have hys : ys[j]? = some (ys[j]'(by omega)) := List.getElem?_eq_getElem (by omega)
    refine ⟨_, _, ?_, hys, h1.trans hys⟩
    rw [← Go.Deep.add_add, hcell, hv]
end

theorem trod_i64 {H : Type} {enc : TypeId × Value → H} {w : World} {base : Nat} {spare : Nat → Bool} {held : Bool} {n : Nat} {v : Value} {y : DataW H × List MemPlace}
    (h : DataW.trod enc Tryd.prog w base spare held n 3 [v] = some y) : ∃ k, v = .int .i64 k ∧ I64 k := by
  obtain ⟨k, e, _, hw⟩ := DataW.trod_int Tryd.underlying3 h
  simp at e
  exact ⟨k, e, by simpa [I64, Lit.wf, IntKind.min, IntKind.max, IntKind.signed, IntKind.bits] using hw⟩
theorem trod_bytesC {H : Type} {enc : TypeId × Value → H} {w : World} {base : Nat} {spare : Nat → Bool} {held : Bool} {n : Nat} {v : Value} {y : DataW H × List MemPlace}
    (h : DataW.trod enc Tryd.prog w base spare held n 22 [v] = some y) : ∃ A c l, v = .slice A (l.length) c ∧ RdB w A l ∧ l.length ≤ maxLen ∧ l.length ≤ c := by
  rcases open_ints Tryd.underlying22 Tryd.underlying5 (by kernel_rfl) h with ⟨hcs, _⟩ | ⟨x, l, c, zs, hcs, _, hl, hm, hz, _, hcell, hwz⟩
  · simp at hcs
    exact ⟨none, 0, [], hcs, Rd.nil _ _, Nat.zero_le _, Nat.zero_le _⟩
  · simp at hcs
    obtain ⟨b, e, h1, h2⟩ := bytes_of_row (by rw [hz]; split <;> omega) (by omega) hcell hwz
    exact ⟨_, c, b, by rw [e]; exact hcs, h1, h2, by rw [e]; exact hl⟩
theorem trod_intsG {H : Type} {enc : TypeId × Value → H} {w : World} {base : Nat} {spare : Nat → Bool} {held : Bool} {n : Nat} {v : Value} {y : DataW H × List MemPlace}
    (h : DataW.trod enc Tryd.prog w base spare held n 50 [v] = some y) : ∃ A c l, v = .slice A (l.length) c ∧ RdI w A l ∧ l.length ≤ maxLen ∧ ∀ k ∈ l, -9223372036854775808 ≤ k ∧ k ≤ 9223372036854775807 := by
  rcases open_ints Tryd.underlying50 Tryd.underlying3 (by kernel_rfl) h with ⟨hcs, _⟩ | ⟨x, l, c, zs, hcs, _, hl, hm, hz, _, hcell, hwz⟩
  · simp at hcs
    exact ⟨none, 0, [], hcs, Rd.nil _ _, Nat.zero_le _, by simp⟩
  · simp at hcs
    obtain ⟨b, e, h1, h2, h3⟩ := ints_of_row (by rw [hz]; split <;> omega) (by omega) hcell hwz
    exact ⟨_, c, b, by rw [e]; exact hcs, h1, h2, h3⟩
theorem trod_bsG {H : Type} {enc : TypeId × Value → H} {w : World} {base : Nat} {spare : Nat → Bool} {held : Bool} {n : Nat} {v : Value} {y : DataW H × List MemPlace}
    (h : DataW.trod enc Tryd.prog w base spare held n 49 [v] = some y) : ∃ A c, ∃ l : List (List UInt8), v = .slice A l.length c ∧ BsAt w A l ∧ l.length ≤ maxLen ∧ ∀ e ∈ l, e.length ≤ maxLen := by
  rcases open_slice Tryd.underlying49 h with ⟨hcs, _⟩ | ⟨a, len, c, m, n, D, Pl, hcs, hb, hl, hm, hmm, hx, hi⟩
  · simp at hcs
    exact ⟨none, 0, [], hcs, fun h => by simp at h, Nat.zero_le _, by simp⟩
  · simp at hcs
    subst hcs
    have hlm : len ≤ m := by rw [hmm]; split <;> omega
    have hC : Tryd.prog.cellsOf 22 = 1 := by kernel_rfl
    have key : ∀ i, i < len → ∃ e : List UInt8, (∃ A' c', w.cell? (a.add i) = some (.slice A' e.length c') ∧ RdB w A' e ∧ e.length ≤ c') ∧ e.length ≤ maxLen := by
      intro i hil
      obtain ⟨cs', hc, ht'⟩ := hi i (by omega)
      rw [hC] at hc
      obtain ⟨_, hcl, hat⟩ := World.cells?_some hc
      have h0 := hat 0 (by omega)
      match cs', hcl, ht', h0 with
      | [v], _, ht', h0 =>
        obtain ⟨A', c', l', rfl, hr, hm', hc'⟩ := trod_bytesC ht'
        refine ⟨l', ⟨A', c', ?_, hr, hc'⟩, hm'⟩
        rw [add_of_add, Nat.mul_one, Nat.add_zero] at h0
        exact h0
    refine ⟨some a, c, (List.range len).attach.map fun i => (key i.1 (by simpa using i.2)).choose, by simp, fun _ => ⟨a, rfl, fun j hj => ?_⟩, by simp; omega, fun e he => ?_⟩
    · have hj' : j < len := by simpa using hj
      have := (key j hj').choose_spec.1
      simpa using this
    · simp only [List.mem_map, List.mem_attach, true_and, Subtype.exists] at he
      obtain ⟨i, hi', rfl⟩ := he
      exact (key i (by simpa using hi')).choose_spec.2

theorem open_opG {H : Type} {enc : TypeId × Value → H} {w : World} {base : Nat} {spare : Nat → Bool} {held : Bool} {fuel : Nat} {A : Option Addr} {len cap : Nat} {y : DataW H × List MemPlace}
    (h : DataW.trod enc Tryd.prog w base spare held fuel 44 [.slice A len cap] = some y) : ∃ l : List OpG, l.length = len ∧ OpsG w A l ∧ l.length ≤ maxLen := by
  rcases open_slice_fields (P := Tryd.prog) Tryd.underlying44 Tryd.underlying52 (by kernel_rfl) (by kernel_rfl) h with ⟨hcs, _⟩ | ⟨a, l, c, m, D, Pl, hcs, _, hl, hm, hmm, _, hi⟩
  · simp at hcs
    obtain ⟨rfl, rfl, rfl⟩ := hcs
    exact ⟨[], rfl, fun i hi => absurd hi (by simp), Nat.zero_le _⟩
  · simp at hcs
    obtain ⟨rfl, rfl, rfl⟩ := hcs
    have hlm : len ≤ m := by rw [hmm]; split <;> omega
    have key : ∀ i, i < len → ∃ o : OpG, ∃ b off, a.add (i * 5) = ⟨b, off, none⟩ ∧ o.ok w b off := by
      intro i hil
      obtain ⟨ys, n, _, _, _, hf⟩ := hi i (by omega)
      obtain ⟨v0, y0, h0, _, t0⟩ := hf 0 _ rfl
      obtain ⟨v1, y1, h1, _, t1⟩ := hf 1 _ rfl
      obtain ⟨v2, y2, h2, _, t2⟩ := hf 2 _ rfl
      obtain ⟨v3, y3, h3, _, t3⟩ := hf 3 _ rfl
      obtain ⟨v4, y4, h4, _, t4⟩ := hf 4 _ rfl
      obtain ⟨k0, rfl, b0⟩ := trod_i64 t0
      obtain ⟨k1, rfl, b1⟩ := trod_i64 t1
      obtain ⟨dA, dc, dl, rfl, rd, hdl, _⟩ := trod_bytesC t2
      obtain ⟨rA, rc, rl, rfl, rr, hrl, hre⟩ := trod_bsG t3
      obtain ⟨kA, kc, kl, rfl, rk, hkl, hks⟩ := trod_intsG t4
      have g0 : w.cell? (a.add (i * 5)) = some (.int .i64 k0) := h0
      have g1 : w.cell? ((a.add (i * 5)).add 1) = some (.int .i64 k1) := by rw [add_of_add]; exact h1
      have g2 : w.cell? ((a.add (i * 5)).add 2) = some (.slice dA dl.length dc) := by rw [add_of_add]; exact h2
      have g3 : w.cell? ((a.add (i * 5)).add 3) = some (.slice rA rl.length rc) := by rw [add_of_add]; exact h3
      have g4 : w.cell? ((a.add (i * 5)).add 4) = some (.slice kA kl.length kc) := by rw [add_of_add]; exact h4
      rcases hp : a.add (i * 5) with ⟨b, off, spot⟩
      rw [hp] at g0 g1 g2 g3 g4
      have hspot : spot = none := by simpa using World.cell?_spot g0
      subst hspot
      exact ⟨⟨k0, k1, dA, dc, dl, rA, rc, rl, kA, kc, kl⟩, b, off, rfl, g0, g1, g2, g3, g4, rd, rr, rk, b0, b1, hks, by unfold maxLen at hdl; omega, by unfold maxLen at hrl; omega, by unfold maxLen at hkl; omega, fun r hr => by have := hre r hr; unfold maxLen at this; omega⟩
    refine ⟨(List.range len).attach.map fun i => (key i.1 (by simpa using i.2)).choose, by simp, fun i hil => ?_, by simp; omega⟩
    have hil' : i < len := by simpa using hil
    obtain ⟨b, off, h1, h2⟩ := (key i hil').choose_spec
    exact ⟨a, b, off, rfl, h1, by simpa using h2⟩
end Go.Proofs.YtlcpljpeljoboaaDoor

/- The table of frame.Sum as the rows list it: what it holds when a call begins; a world that holds it. -/
namespace Go.Proofs.YtlcpljpeljoboaaDoor
open Go.ChangeShapes Go.WideShapes Go.ChangeAt Go.RowKit

theorem gTab : Tryd.prog.globalNamed "bywash/frame.half" = some 0 := by kernel_rfl
theorem gTabType : (Tryd.prog.globals[0]?).map (·.type) = some 114 := by kernel_rfl
theorem cellsTab : Tryd.prog.cellsOf 114 = 16 := by kernel_rfl
theorem cellsU32 : Tryd.prog.cellsOf 96 = 1 := by kernel_rfl
theorem half_at {W : World} (h : laidMetH Tryd.prog [("bywash/frame.half", Rows.laid_bywash_frame_half)] W) : HalfAt W := by
  have hT : Lib.TabIs Tryd.prog W "bywash/frame.half" .u32 (half.map fun (n : Nat) => (n : Int)) :=
    Lib.tabIs_of_head (rest := []) gTab gTabType Tryd.underlying114 Tryd.underlying96 cellsU32 cellsTab h
  intro j hj
  have := hT.cell gTab j (by simpa [half] using hj)
  rw [this]
  congr 2
  have hjl : j < half.length := by simpa [half] using hj
  simp [List.getD, hjl]
/-- a world for the witness: the settled one, the table holding what its initialiser lays -/
noncomputable def laidWorld (os : Os) : World :=
  { World.holding Tryd.prog os ⟨#[], #[], []⟩ with heap := (World.holding Tryd.prog os ⟨#[], #[], []⟩).heap.modify 0 fun
      | .cells _ t frozen => .cells #[.int .u32 0, .int .u32 498536548, .int .u32 997073096, .int .u32 651767980, .int .u32 1994146192, .int .u32 1802195444, .int .u32 1303535960, .int .u32 1342533948, .int .u32 3988292384, .int .u32 4027552580, .int .u32 3604390888, .int .u32 3412177804, .int .u32 2607071920, .int .u32 2262029012, .int .u32 2685067896, .int .u32 3183342108] t frozen
      | o => o }
end Go.Proofs.YtlcpljpeljoboaaDoor
