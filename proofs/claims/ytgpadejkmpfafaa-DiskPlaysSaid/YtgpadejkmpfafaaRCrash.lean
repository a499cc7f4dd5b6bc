/- bywashref06.Disk.Crash: the walk. -/
import Derived.Test.YtgpadejkmpfafaaRCut
namespace Go.Proofs.Ytgpadejkmpfafaa
open Go.RowKit

def rcr (ks : List Int) (i : Nat) (x : List UInt8 × List Bool) : List UInt8 × List Bool :=
  (x.1.take (trues x.2 + stays ks i (x.1.length - trues x.2)), List.replicate (trues x.2 + stays ks i (x.1.length - trues x.2)) true)
def rcrK (ks : List Int) (V : RFl) (k : Nat) : RFl := V.mapIdx fun i x => if i < k then rcr ks i x else x
theorem rcrK_zero (ks : List Int) (V : RFl) : rcrK ks V 0 = V := by
  apply List.ext_getElem
  · simp [rcrK]
  · intro i h1 h2; simp [rcrK]
theorem rcrK_succ (ks : List Int) (V : RFl) (k : Nat) (hk : k < V.length) : rcrK ks V (k + 1) = (rcrK ks V k).set k (rcr ks k V[k]) := by
  apply List.ext_getElem
  · simp [rcrK]
  · intro i h1 h2
    simp only [rcrK, List.getElem_mapIdx, List.getElem_set]
    by_cases e : k = i
    · subst e; simp
    · simp [e]
      by_cases h : i < k
      · simp [h, Nat.lt_succ_of_lt h]
      · have : ¬ i < k + 1 := by omega
        simp [h, this]
theorem rcrK_get (ks : List Int) (V : RFl) (k : Nat) (hk : k < (rcrK ks V k).length) : (rcrK ks V k)[k] = V[k]'(by simpa [rcrK] using hk) := by simp [rcrK]
theorem rcrK_len (ks : List Int) (V : RFl) (k : Nat) : (rcrK ks V k).length = V.length := by simp [rcrK]

set_option maxRecDepth 20000 in
set_option maxHeartbeats 3200000 in
theorem rcrash_any (g : Nat) (fp : List Nat) (V : RFl) (r : RR) (A : Option Addr) (c : Nat) (ks : List Int) (w : World) (hd : RdAt w g fp V r) (hr : ∀ w', Touch fp w w' → RdI w' A ks)
    (hks : ∀ k ∈ ks, -9223372036854775808 ≤ k ∧ k ≤ 9223372036854775807) (hl : ∀ i, (h : i < V.length) → (V[i]).1.length ≤ 1073741824 ∧ (V[i]).2.length ≤ 1073741824 ∧ trues (V[i]).2 ≤ (V[i]).1.length) :
    Calls Try.prog 41 #[.pointer (some ⟨g, 0, none⟩), .slice A ks.length c] w fun e w' => e = .returned (.tuple #[]) ∧
      RdStep g fp (rcrK ks V 4) { r with armed := false, down := false } w w' := by
  have h4 := hd.len
  have S0 := Lib.hid (show RdStep g fp (rcrK ks V 0) r w w from by rw [rcrK_zero]; exact hd.keep (Touch.refl _ _))
  go_enter Try.func41, Try.ntmps41
  go_wp2
  go_loopw [4] (fun i wr => ∃ k : Nat, k ≤ 4 ∧ i = .int .i64 k ∧ RdStep g fp (rcrK ks V k) r w wr) (fun i _ => 4 - (intOf i).toNat)
  case atStart => exact ⟨0, by omega, rfl, S0.out⟩
  case round =>
    clear S0
    obtain ⟨k, hk, rfl, ⟨fp1, hd1, T1, hf1⟩⟩ := hrel
    by_cases hlt : k < 4
    · have hkV : k < V.length := by omega
      have hn1 : k < (rcrK ks V k).length := by rw [rcrK_len]; exact hkV
      have hk4 : (k : Int) < 4 := by omega
      have hk0 : (0 : Int) ≤ k := by omega
      have hsucc := rcrK_succ ks V k hkV
      have hget := rcrK_get ks V k hn1
      obtain ⟨V1, hV1⟩ : ∃ V1, V1 = rcrK ks V k := ⟨_, rfl⟩
      rw [← hV1] at hd1 hsucc
      have hn2 : k < V1.length := by rw [hV1]; exact hn1
      have hVn : V1[k] = V[k] := by simp only [hV1]; exact hget
      obtain ⟨hl1, hl2, hl3⟩ := hl k hkV
      obtain ⟨A1, c1, B1, d1, ⟨cb, ob, cs, os, fa, fb, putB, putS⟩⟩ := hd1.file k hn2
      rw [hVn] at cb ob cs os
      obtain ⟨l, hle⟩ : ∃ l, l = (V[k]).1 := ⟨_, rfl⟩
      obtain ⟨bs, hbe⟩ : ∃ bs, bs = (V[k]).2 := ⟨_, rfl⟩
      have hrc : rcr ks k V[k] = (l.take (trues bs + stays ks k (l.length - trues bs)), List.replicate (trues bs + stays ks k (l.length - trues bs)) true) := by rw [hle, hbe]; rfl
      rw [← hle] at cb ob hl1 hl3
      rw [← hbe] at cs os hl2 hl3
      rw [hrc] at hsucc
      obtain ⟨S, hS⟩ : ∃ S, S = trues bs := ⟨_, rfl⟩
      rw [← hS] at hl3 hsucc
      obtain ⟨M, hM⟩ : ∃ M, M = stays ks k (l.length - S) := ⟨_, rfl⟩
      rw [← hM] at hsucc
      have Hsucc := Lib.hid hsucc
      have HS := Lib.hid hS
      have hMl : M ≤ l.length - S := by rw [hM]; unfold stays; split <;> omega
      have hMv := hM
      unfold stays at hMv
      have HM := Lib.hid hMv
      have zb := hd1.free (k * 2)
      have zs := hd1.free (k * 2 + 1)
      have hgr := hd1.lt g hd1.gin
      have hrk := hr wr T1
      clear hsucc hget hVn hV1 hrc hle hbe hM hMv hS putB putS
      obtain ⟨m, hm⟩ : ∃ m, m = l.length := ⟨_, rfl⟩
      rw [← hm] at cb hl1 hl3 hMl
      have Hm := Lib.hid hm.symm
      obtain ⟨q, hq⟩ : ∃ q, q = bs.length := ⟨_, rfl⟩
      rw [← hq] at cs hl2
      have Hq := Lib.hid hq.symm
      clear hm hq
      go_wp2_with fail
      refine (rsafe_any (.slice A1 m c1) B1 d1 q bs Hq.out hl2 wr os.rd).mono ?_
      rintro e w2 ⟨rfl, ht2⟩
      rw [← HS.out]
      have cb2 := ht2.cell cb (by simp)
      have cs2 := ht2.cell cs (by simp)
      have zb2 : w2.frozen? ⟨g, k * 2, none⟩ = false := (ht2.frz (a := ⟨g, k * 2, none⟩) hgr (by simp)).trans zb
      have zs2 : w2.frozen? ⟨g, k * 2 + 1, none⟩ = false := (ht2.frz (a := ⟨g, k * 2 + 1, none⟩) hgr (by simp)).trans zs
      have hd2 := hd1.step ht2 (by simp)
      have hgr2 := hd2.lt g hd2.gin
      have obd := ((ob.touch0 ht2).touch0 ((Touch.refl [] w2).drew)).rd
      have cbd := ((Touch.refl [] w2).drew).cell cb2 (by simp)
      have csd := ((Touch.refl [] w2).drew).cell cs2 (by simp)
      have td := (Touch.refl [] w2).drew
      have hgd : g < w2.drew.heap.size := hgr2
      go_wp2_with fail
      go_loop [5, 6] (fun n j => ∃ i : Nat, i ≤ M ∧ j = .int .i64 i ∧ n = .int .i64 ((S : Int) + i)) (fun _ j => M + 1 - (intOf j).toNat)
      case atStart => exact ⟨0, by omega, rfl, by simp⟩
      case round =>
        obtain ⟨i, hi, rfl, rfl⟩ := hrel
        have hfin : ∀ w4 A4 c4 B4 d4, OwnB w4 A4 c4 (l.take (S + M)) → OwnO w4 B4 d4 (List.replicate (S + M) true) → Touch [] w2.drew w4 → (∀ b ∈ fpo A4, w2.drew.heap.size ≤ b ∧ b ∉ fpo B4) → (∀ b ∈ fpo B4, w2.drew.heap.size ≤ b) →
            RdStep g fp (rcrK ks V (k + 1)) r w ((w4.setCell ⟨g, k * 2, none⟩ (.slice A4 (S + M) c4)).setCell ⟨g, k * 2 + 1, none⟩ (.slice B4 (S + M) d4)) := by
          intro w4 A4 c4 B4 d4 o1 o2 t4 f1 f2
          have hps := hd2.putFile k hn2 (td.trans0 t4) o1 o2 (fun b hb => f1 b hb) (fun b hb => f2 b hb)
          rw [List.length_take, Nat.min_eq_left (by rw [Hm.out]; omega), List.length_replicate] at hps
          rw [Hsucc.out]
          exact RdStep.trans (T1.trans0 ht2) hf1 hps
        have Hfin := Lib.hid hfin
        clear hfin
        have hfirst : ∀ W, RdB W A1 l → Calls Try.prog 49 #[.agg #[.slice A1 m c1, .slice B1 q d1], .int .i64 ((S : Int) + (M : Int))] W fun e w' => ∃ A4 c4 B4 d4, e = .returned (.agg #[.slice A4 (S + M) c4, .slice B4 (S + M) d4]) ∧ OwnB w' A4 c4 (l.take (S + M)) ∧ OwnO w' B4 d4 (List.replicate (S + M) true) ∧ Touch [] W w' ∧
            (∀ b ∈ fpo A4, W.heap.size ≤ b ∧ b ∉ fpo B4) ∧ ∀ b ∈ fpo B4, W.heap.size ≤ b := by
          intro W hW
          have := first_any A1 c1 l (.slice B1 q d1) (S + M) (by rw [Hm.out]; omega) (by rw [Hm.out]; omega) W hW
          rw [Hm.out, Int.natCast_add] at this
          exact this
        have Hfirst := Lib.hid hfirst
        clear hfirst
        by_cases hin : k < ks.length
        · obtain ⟨ad, rfl, hcell⟩ := RdI.at_ (Rd.touch0 hrk ht2) k hin
          have hkv := hks ks[k] (List.getElem_mem hin)
          have hMv : M = min (max ks[k] 0).toNat (m - S) := by
            have := HM.out
            rw [if_pos hin, Hm.out] at this
            simpa [List.getD, hin] using this
          obtain ⟨v, hv⟩ : ∃ v, v = ks[k] := ⟨_, rfl⟩
          rw [← hv] at hcell hkv hMv
          have hinI : (k : Int) < ks.length := by omega
          clear hv
          by_cases hiv : (i : Int) < v
          · by_cases hsm : S + i < m
            · have hi1 : i + 1 ≤ M := by omega
              have hsmI : (S : Int) + i < m := by omega
              clear hMv
              go_wp2_with fail
              go_round
              case rel => exact ⟨i + 1, hi1, by go_num, by go_num⟩
              case measure => simp [intOf]; omega
            · obtain rfl : i = M := by omega
              have hsmI : ¬ (S : Int) + i < m := by omega
              clear hMv
              go_wp2_with fail
              go_region_law (first | (go_simp; go_at_call 49; refine (Hfirst.out _ (by exact obd)).mono ?_; rintro e w4 ⟨A4, c4, B4, d4, rfl, hob4, hos4, ht4, hfA4, hfB4⟩; have cb4 := ht4.cell cbd (by simp); have cs4 := ht4.cell csd (by simp); have zb4 : w4.frozen? ⟨g, k * 2, none⟩ = false := (ht4.frz (a := ⟨g, k * 2, none⟩) hgd (by simp)).trans zb2; have zs4 : w4.frozen? ⟨g, k * 2 + 1, none⟩ = false := (ht4.frz (a := ⟨g, k * 2 + 1, none⟩) hgd (by simp)).trans zs2))
              have Hst := Lib.hid (Hfin.out w4 A4 c4 B4 d4 hob4 hos4 ht4 hfA4 hfB4)
              go_wp2_with fail
              go_roundw
              case rel => exact ⟨k + 1, by omega, by go_num, Hst.out⟩
              case measure => simp [intOf]; omega
          · obtain rfl : i = M := by omega
            clear hMv
            go_wp2_with fail
            go_region_law (first | (go_simp; go_at_call 49; refine (Hfirst.out _ (by exact obd)).mono ?_; rintro e w4 ⟨A4, c4, B4, d4, rfl, hob4, hos4, ht4, hfA4, hfB4⟩; have cb4 := ht4.cell cbd (by simp); have cs4 := ht4.cell csd (by simp); have zb4 : w4.frozen? ⟨g, k * 2, none⟩ = false := (ht4.frz (a := ⟨g, k * 2, none⟩) hgd (by simp)).trans zb2; have zs4 : w4.frozen? ⟨g, k * 2 + 1, none⟩ = false := (ht4.frz (a := ⟨g, k * 2 + 1, none⟩) hgd (by simp)).trans zs2))
            have Hst := Lib.hid (Hfin.out w4 A4 c4 B4 d4 hob4 hos4 ht4 hfA4 hfB4)
            go_wp2_with fail
            go_roundw
            case rel => exact ⟨k + 1, by omega, by go_num, Hst.out⟩
            case measure => simp [intOf]; omega
        · have hM0 : M = 0 := by have := HM.out; rw [if_neg hin] at this; exact this
          obtain rfl : i = M := by omega
          have hinI : ¬ (k : Int) < ks.length := by omega
          clear hM0
          go_wp2_with fail
          go_region_law (first | (go_simp; go_at_call 49; refine (Hfirst.out _ (by exact obd)).mono ?_; rintro e w4 ⟨A4, c4, B4, d4, rfl, hob4, hos4, ht4, hfA4, hfB4⟩; have cb4 := ht4.cell cbd (by simp); have cs4 := ht4.cell csd (by simp); have zb4 : w4.frozen? ⟨g, k * 2, none⟩ = false := (ht4.frz (a := ⟨g, k * 2, none⟩) hgd (by simp)).trans zb2; have zs4 : w4.frozen? ⟨g, k * 2 + 1, none⟩ = false := (ht4.frz (a := ⟨g, k * 2 + 1, none⟩) hgd (by simp)).trans zs2))
          have Hst := Lib.hid (Hfin.out w4 A4 c4 B4 d4 hob4 hos4 ht4 hfA4 hfB4)
          go_wp2_with fail
          go_roundw
          case rel => exact ⟨k + 1, by omega, by go_num, Hst.out⟩
          case measure => simp [intOf]; omega
    · obtain rfl : k = 4 := by omega
      obtain ⟨c8, c9, c10, c11, c12⟩ := hd1.cells
      have z11 := hd1.free 11
      have z12 := hd1.free 12
      have hgr := hd1.lt g hd1.gin
      have hs1 := hd1.setTail (r' := { r with armed := false }) 3 11 (by omega) (.bool false) rfl
      have hs2 := hs1.setTail (r' := { r with armed := false, down := false }) 4 12 (by omega) (.bool false) rfl
      have T2 := (T1.setCell (p := ⟨g, 11, none⟩) (.inl hd.gin) (.bool false)).setCell (p := ⟨g, 12, none⟩) (.inl hd.gin) (.bool false)
      have Hs2 := Lib.hid hs2
      clear hs1 hs2 hd1
      go_wp2
      go_end0
      exact ⟨rfl, fp1, Hs2.out, T2, hf1⟩
end Go.Proofs.Ytgpadejkmpfafaa
