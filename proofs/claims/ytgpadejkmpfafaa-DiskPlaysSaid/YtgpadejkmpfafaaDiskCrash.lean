/- disk.Disk.Crash: the walk. -/
import Derived.Test.YtgpadejkmpfafaaDiskCut
namespace Go.Proofs.Ytgpadejkmpfafaa
open Go.RowKit

def RdI (w : World) (A : Option Addr) (ks : List Int) : Prop := Rd w A (ks.map (Value.int .i64))
theorem RdI.at_ {w : World} {A : Option Addr} {l : List Int} (h : RdI w A l) (k : Nat) (hk : k < l.length) : ∃ ad, A = some ad ∧ w.cell? (ad.add k) = some (.int .i64 l[k]) := by
  obtain ⟨ad, e, hc⟩ := h (by simpa using Nat.lt_of_le_of_lt (Nat.zero_le _) hk)
  exact ⟨ad, e, hc k _ (by simp [hk])⟩

/-- how many loose bytes of a file stay -/
def stays (ks : List Int) (i : Nat) (room : Nat) : Nat := if i < ks.length then min (max (ks.getD i 0) 0).toNat room else 0
def crashF (ks : List Int) (i : Nat) (x : List UInt8 × Nat) : List UInt8 × Nat := (x.1.take (x.2 + stays ks i (x.1.length - x.2)), x.2 + stays ks i (x.1.length - x.2))
/-- the first k files are behind the crash -/
def crashK (ks : List Int) (V : List (List UInt8 × Nat)) (k : Nat) : List (List UInt8 × Nat) := V.mapIdx fun i x => if i < k then crashF ks i x else x
theorem crashK_zero (ks : List Int) (V : List (List UInt8 × Nat)) : crashK ks V 0 = V := by
  apply List.ext_getElem
  · simp [crashK]
  · intro i h1 h2; simp [crashK]
theorem crashK_succ (ks : List Int) (V : List (List UInt8 × Nat)) (k : Nat) (hk : k < V.length) : crashK ks V (k + 1) = (crashK ks V k).set k (crashF ks k V[k]) := by
  apply List.ext_getElem
  · simp [crashK]
  · intro i h1 h2
    simp only [crashK, List.getElem_mapIdx, List.getElem_set]
    by_cases e : k = i
    · subst e; simp
    · simp [e]
      by_cases h : i < k
      · simp [h, Nat.lt_succ_of_lt h]
      · have : ¬ i < k + 1 := by omega
        simp [h, this]
theorem crashK_get (ks : List Int) (V : List (List UInt8 × Nat)) (k : Nat) (hk : k < (crashK ks V k).length) : (crashK ks V k)[k] = V[k]'(by simpa [crashK] using hk) := by simp [crashK]

theorem DStep.trans {g : Nat} {fs fs1 : List DF} {V : List (List UInt8 × Nat)} {r : DR} {w w1 w2 : World} (T : Touch (dfp g fs) w w1) (hf : ∀ b ∈ dfp g fs1, b ∈ dfp g fs ∨ w.heap.size ≤ b) (h : DStep g fs1 V r w1 w2) : DStep g fs V r w w2 := by
  obtain ⟨fs2, h1, h2, h3, h4⟩ := h
  refine ⟨fs2, h1, h2, T.trans h3 hf, fun b hb => ?_⟩
  rcases h4 b hb with h | h
  · exact hf b h
  · exact .inr (Nat.le_trans T.size h)

set_option maxHeartbeats 1600000 in
theorem crash_any (g : Nat) (fs : List DF) (r : DR) (A : Option Addr) (c : Nat) (ks : List Int) (w : World) (hd : DiskAt w g fs r) (hr : ∀ w', Touch (dfp g fs) w w' → RdI w' A ks)
    (hks : ∀ k ∈ ks, -9223372036854775808 ≤ k ∧ k ≤ 9223372036854775807) :
    Calls Try.prog 13 #[.pointer (some ⟨g, 0, none⟩), .slice A ks.length c] w fun e w' => e = .returned (.tuple #[]) ∧
      DStep g fs (crashK ks (view fs) 4) { r with left := -1, down := false } w w' := by
  go_enter Try.func13, Try.ntmps13
  go_wp2
  go_loopw [7] (fun i wr => ∃ k : Nat, k ≤ 4 ∧ i = .int .i64 k ∧ DStep g fs (crashK ks (view fs) k) r w wr) (fun i _ => 4 - (intOf i).toNat)
  case atStart => exact ⟨0, by omega, rfl, fs, hd, (crashK_zero ks (view fs)).symm, Touch.refl _ _, fun b hb => .inl hb⟩
  case round =>
    obtain ⟨k, hk, rfl, fs1, hd1, hv1, ht1, hf1⟩ := hrel
    by_cases hlt : k < 4
    · have h4 := hd1.len
      have hkf : k < fs1.length := by omega
      have hk4 : (k : Int) < 4 := by omega
      have hk0 : (0 : Int) ≤ k := by omega
      have cv := cell_blk hd1.blk (dcells_v h4 k hkf)
      have cs := cell_blk hd1.blk (dcells_s h4 k hkf)
      have zs := free_blk hd1.blk (k * 2 + 1)
      have zv := free_blk hd1.blk (k * 2)
      unfold DF.v at cv
      have hsafe := (hd1.ok k hkf).2.1
      have hlu := used_ge k hkf
      have hus := hd1.used
      have hwr : IntKind.i64.wrap ((fs1[k].l.length : Int) - fs1[k].safe) = (fs1[k].l.length : Int) - fs1[k].safe := IntWalk.i64_in _ (by omega)
      by_cases hin : k < ks.length
      · obtain ⟨ad, rfl, hcell⟩ := RdI.at_ (hr _ ht1) k hin
        have hkv := hks ks[k] (List.getElem_mem hin)
        have hst : stays ks k (fs1[k].l.length - fs1[k].safe) = min (max ks[k] 0).toNat (fs1[k].l.length - fs1[k].safe) := by simp [stays, hin, List.getD]
        have Hst := Lib.hid hst; clear hst
        have hinI : (k : Int) < ks.length := by omega
        rcases Int.lt_or_le ks[k] 0 with hneg | hpos
        · obtain ⟨S, hS⟩ : ∃ S, S = fs1[k].safe := ⟨_, rfl⟩
          have HS := Lib.hid (show fs1[k].safe + stays ks k (fs1[k].l.length - fs1[k].safe) = S by rw [Hst.out]; omega)
          have hSl : S ≤ fs1[k].l.length := by omega
          have HS1 := Lib.hid hS; clear hS Hst
          go_wp2
          go_region
          go_wp2
          obtain ⟨wS, hwS⟩ : ∃ wS, wS = wr.setCell ⟨g, k * 2 + 1, none⟩ (.int .i64 ((fs1[k].safe : Nat))) := ⟨_, rfl⟩
          rw [← hwS]
          rw [show (((fs1[k].safe : Nat) : Int)) = ((S : Nat) : Int) by rw [HS1.out]; try omega] at hwS
          have blkS : wS.heap[g]? = some (.cells (dcells (fs1.set k ⟨fs1[k].A, fs1[k].c, fs1[k].l, S⟩) r) 72 (0, 0)) := by
            have := set_blk hd1.blk (k * 2 + 1) (.int .i64 (S : Nat))
            rw [dcells_set_s h4 k hkf ⟨fs1[k].A, fs1[k].c, fs1[k].l, S⟩ rfl] at this
            rw [hwS]; exact this
          have tS : Touch [g] wr wS := by rw [hwS]; exact (Touch.refl [g] wr).setCell (.inl (by simp)) _
          have hkS : k < (fs1.set k ⟨fs1[k].A, fs1[k].c, fs1[k].l, S⟩).length := by simpa using hkf
          have h4S : (fs1.set k ⟨fs1[k].A, fs1[k].c, fs1[k].l, S⟩).length = 4 := by simpa using h4
          have cvS := cell_blk blkS (dcells_v h4S k hkS)
          have csS := cell_blk blkS (dcells_s h4S k hkS)
          rw [List.getElem_set_self] at cvS csS
          have zvS := free_blk blkS (k * 2)
          unfold DF.v at cvS
          simp only at cvS csS
          have hleS := (hd1.ok k hkf).1.le
          have hS1 : (S : Int) ≤ fs1[k].l.length := by omega
          have hS2 : (S : Int) ≤ fs1[k].c := by omega
          have hS0 : (0 : Int) ≤ S := by omega
          have hgA := (hd1.ok k hkf).2.2
          have ownS : OwnB wS fs1[k].A fs1[k].c fs1[k].l := (hd1.ok k hkf).1.touch tS (fun b hb hm => hgA ((by simpa using hm : b = g) ▸ hb))
          have hrdS := ownS.rd.take S
          clear hwS hcell cv cs zs zv hwr
          go_region_law (first | (go_simp; go_at_call 36; refine (clone_len fs1[k].A S fs1[k].c (fs1[k].l.take S) (by simp; omega) _ (by exact hrdS) (by omega)).mono ?_; rintro e w2 ⟨A2, c2, rfl, hown2, ht2, hf2⟩; have blk2 := ht2.blk (by exact blkS) (by simp); have cv2 := cell_blk blk2 (dcells_v h4S k hkS); have zv2 := free_blk blk2 (k * 2)))
          all_goals
            go_wp2
            go_roundw
            case rel =>
              have hlen : (fs1[k].l.take S).length = S := by simp; omega
              have blk3 := set_blk blk2 (k * 2) (.slice A2 S c2)
              have hset := dcells_set_v (r := r) h4S k hkS ⟨A2, c2, fs1[k].l.take S, S⟩ (by rw [List.getElem_set_self])
              simp only [DF.v, hlen] at hset
              rw [hset, List.set_set] at blk3
              have hgA2 : g ∉ fpo A2 := fun hm => by
                have h1 : wS.heap.size ≤ g := hf2 g hm
                have h2 := lt_of_block blkS
                omega
              have hstep : DStep g fs1 ((view fs1).set k (fs1[k].l.take S, S)) r wr (w2.setCell ⟨g, k * 2, none⟩ (.slice A2 S c2)) := by
                refine disk_setFile hd1 k hkf ⟨A2, c2, fs1[k].l.take S, S⟩ blk3 ?_ (by simp only [hlen]; exact Nat.le_refl _) ?_ (fun b hb => .inr ?_) hd1.rok ?_
                · exact hown2.touch ((Touch.refl [g] w2).setCell (.inl (by simp)) _) (fun b hb hm => hgA2 ((by simpa using hm : b = g) ▸ hb))
                · exact ((tS.trans0 ⟨ht2.os, ht2.tape, ht2.output, ht2.size, ht2.block⟩).setCell (.inl (by simp)) _).mono (fun b hb => .inl (by simp at hb; simp [hb]))
                · exact Nat.le_trans tS.size (hf2 b hb)
                · have := used_set k hkf ⟨A2, c2, fs1[k].l.take S, S⟩
                  simp only [hlen] at this
                  omega
              refine ⟨k + 1, by omega, by go_num, ?_⟩
              have hvk : crashK ks (view fs) (k + 1) = (view fs1).set k (fs1[k].l.take S, S) := by
                have hk1 : k < (view fs1).length := by simpa [view] using hkf
                have hk2 : k < (crashK ks (view fs) k).length := by rw [← hv1]; exact hk1
                have hk3 : k < (view fs).length := by simpa [crashK] using hk2
                rw [crashK_succ ks (view fs) k hk3, ← crashK_get ks (view fs) k hk2]
                have hgk : (crashK ks (view fs) k)[k] = (fs1[k].l, fs1[k].safe) := by
                  have : (view fs1)[k] = (fs1[k].l, fs1[k].safe) := by simp [view]
                  rw [← this]
                  congr 1
                  exact hv1.symm
                rw [hgk, ← hv1]
                simp only [crashF, HS.out]
                rfl
              rw [hvk]
              exact DStep.trans ht1 hf1 hstep
            case measure => simp [intOf]; omega
        · obtain ⟨N, hN⟩ : ∃ N : Nat, ks[k] = (N : Int) := ⟨ks[k].toNat, by omega⟩
          rw [hN] at hcell hpos hkv Hst
          clear hN
          by_cases hroom : N ≤ fs1[k].l.length - fs1[k].safe
          · obtain ⟨S, hS⟩ : ∃ S, S = fs1[k].safe + N := ⟨_, rfl⟩
            have HS := Lib.hid (show fs1[k].safe + stays ks k (fs1[k].l.length - fs1[k].safe) = S by rw [Hst.out]; omega)
            have hSl : S ≤ fs1[k].l.length := by omega
            have hr1 : (N : Int) ≤ (fs1[k].l.length : Int) - fs1[k].safe := by omega
            have HS1 := Lib.hid hS; clear hS Hst
            go_wp2
            go_region
            go_wp2
            obtain ⟨wS, hwS⟩ : ∃ wS, wS = wr.setCell ⟨g, k * 2 + 1, none⟩ (.int .i64 ((fs1[k].safe : Int) + N)) := ⟨_, rfl⟩
            rw [← hwS]
            rw [show (((fs1[k].safe : Int) + N : Int)) = ((S : Nat) : Int) by rw [HS1.out]; try omega] at hwS
            have blkS : wS.heap[g]? = some (.cells (dcells (fs1.set k ⟨fs1[k].A, fs1[k].c, fs1[k].l, S⟩) r) 72 (0, 0)) := by
              have := set_blk hd1.blk (k * 2 + 1) (.int .i64 (S : Nat))
              rw [dcells_set_s h4 k hkf ⟨fs1[k].A, fs1[k].c, fs1[k].l, S⟩ rfl] at this
              rw [hwS]; exact this
            have tS : Touch [g] wr wS := by rw [hwS]; exact (Touch.refl [g] wr).setCell (.inl (by simp)) _
            have hkS : k < (fs1.set k ⟨fs1[k].A, fs1[k].c, fs1[k].l, S⟩).length := by simpa using hkf
            have h4S : (fs1.set k ⟨fs1[k].A, fs1[k].c, fs1[k].l, S⟩).length = 4 := by simpa using h4
            have cvS := cell_blk blkS (dcells_v h4S k hkS)
            have csS := cell_blk blkS (dcells_s h4S k hkS)
            rw [List.getElem_set_self] at cvS csS
            have zvS := free_blk blkS (k * 2)
            unfold DF.v at cvS
            simp only at cvS csS
            have hleS := (hd1.ok k hkf).1.le
            have hS1 : (S : Int) ≤ fs1[k].l.length := by omega
            have hS2 : (S : Int) ≤ fs1[k].c := by omega
            have hS0 : (0 : Int) ≤ S := by omega
            have hgA := (hd1.ok k hkf).2.2
            have ownS : OwnB wS fs1[k].A fs1[k].c fs1[k].l := (hd1.ok k hkf).1.touch tS (fun b hb hm => hgA ((by simpa using hm : b = g) ▸ hb))
            have hrdS := ownS.rd.take S
            clear hwS hcell cv cs zs zv hwr
            go_region_law (first | (go_simp; go_at_call 36; refine (clone_len fs1[k].A S fs1[k].c (fs1[k].l.take S) (by simp; omega) _ (by exact hrdS) (by omega)).mono ?_; rintro e w2 ⟨A2, c2, rfl, hown2, ht2, hf2⟩; have blk2 := ht2.blk (by exact blkS) (by simp); have cv2 := cell_blk blk2 (dcells_v h4S k hkS); have zv2 := free_blk blk2 (k * 2)))
            all_goals
              go_wp2
              go_roundw
              case rel =>
                have hlen : (fs1[k].l.take S).length = S := by simp; omega
                have blk3 := set_blk blk2 (k * 2) (.slice A2 S c2)
                have hset := dcells_set_v (r := r) h4S k hkS ⟨A2, c2, fs1[k].l.take S, S⟩ (by rw [List.getElem_set_self])
                simp only [DF.v, hlen] at hset
                rw [hset, List.set_set] at blk3
                have hgA2 : g ∉ fpo A2 := fun hm => by
                  have h1 : wS.heap.size ≤ g := hf2 g hm
                  have h2 := lt_of_block blkS
                  omega
                have hstep : DStep g fs1 ((view fs1).set k (fs1[k].l.take S, S)) r wr (w2.setCell ⟨g, k * 2, none⟩ (.slice A2 S c2)) := by
                  refine disk_setFile hd1 k hkf ⟨A2, c2, fs1[k].l.take S, S⟩ blk3 ?_ (by simp only [hlen]; exact Nat.le_refl _) ?_ (fun b hb => .inr ?_) hd1.rok ?_
                  · exact hown2.touch ((Touch.refl [g] w2).setCell (.inl (by simp)) _) (fun b hb hm => hgA2 ((by simpa using hm : b = g) ▸ hb))
                  · exact ((tS.trans0 ⟨ht2.os, ht2.tape, ht2.output, ht2.size, ht2.block⟩).setCell (.inl (by simp)) _).mono (fun b hb => .inl (by simp at hb; simp [hb]))
                  · exact Nat.le_trans tS.size (hf2 b hb)
                  · have := used_set k hkf ⟨A2, c2, fs1[k].l.take S, S⟩
                    simp only [hlen] at this
                    omega
                refine ⟨k + 1, by omega, by go_num, ?_⟩
                have hvk : crashK ks (view fs) (k + 1) = (view fs1).set k (fs1[k].l.take S, S) := by
                  have hk1 : k < (view fs1).length := by simpa [view] using hkf
                  have hk2 : k < (crashK ks (view fs) k).length := by rw [← hv1]; exact hk1
                  have hk3 : k < (view fs).length := by simpa [crashK] using hk2
                  rw [crashK_succ ks (view fs) k hk3, ← crashK_get ks (view fs) k hk2]
                  have hgk : (crashK ks (view fs) k)[k] = (fs1[k].l, fs1[k].safe) := by
                    have : (view fs1)[k] = (fs1[k].l, fs1[k].safe) := by simp [view]
                    rw [← this]
                    congr 1
                    exact hv1.symm
                  rw [hgk, ← hv1]
                  simp only [crashF, HS.out]
                  rfl
                rw [hvk]
                exact DStep.trans ht1 hf1 hstep
              case measure => simp [intOf]; omega
          · obtain ⟨S, hS⟩ : ∃ S, S = fs1[k].l.length := ⟨_, rfl⟩
            have HS := Lib.hid (show fs1[k].safe + stays ks k (fs1[k].l.length - fs1[k].safe) = S by rw [Hst.out]; omega)
            have hSl : S ≤ fs1[k].l.length := by omega
            have hr1 : (fs1[k].l.length : Int) - fs1[k].safe < (N : Int) := by omega
            have hr2 : (fs1[k].l.length : Int) - fs1[k].safe ≤ (N : Int) := by omega
            have HS1 := Lib.hid hS; clear hS Hst
            go_wp2
            go_region
            go_wp2
            obtain ⟨wS, hwS⟩ : ∃ wS, wS = wr.setCell ⟨g, k * 2 + 1, none⟩ (.int .i64 ((fs1[k].safe : Int) + ((fs1[k].l.length : Int) - fs1[k].safe))) := ⟨_, rfl⟩
            rw [← hwS]
            rw [show (((fs1[k].safe : Int) + ((fs1[k].l.length : Int) - fs1[k].safe) : Int)) = ((S : Nat) : Int) by rw [HS1.out]; try omega] at hwS
            have blkS : wS.heap[g]? = some (.cells (dcells (fs1.set k ⟨fs1[k].A, fs1[k].c, fs1[k].l, S⟩) r) 72 (0, 0)) := by
              have := set_blk hd1.blk (k * 2 + 1) (.int .i64 (S : Nat))
              rw [dcells_set_s h4 k hkf ⟨fs1[k].A, fs1[k].c, fs1[k].l, S⟩ rfl] at this
              rw [hwS]; exact this
            have tS : Touch [g] wr wS := by rw [hwS]; exact (Touch.refl [g] wr).setCell (.inl (by simp)) _
            have hkS : k < (fs1.set k ⟨fs1[k].A, fs1[k].c, fs1[k].l, S⟩).length := by simpa using hkf
            have h4S : (fs1.set k ⟨fs1[k].A, fs1[k].c, fs1[k].l, S⟩).length = 4 := by simpa using h4
            have cvS := cell_blk blkS (dcells_v h4S k hkS)
            have csS := cell_blk blkS (dcells_s h4S k hkS)
            rw [List.getElem_set_self] at cvS csS
            have zvS := free_blk blkS (k * 2)
            unfold DF.v at cvS
            simp only at cvS csS
            have hleS := (hd1.ok k hkf).1.le
            have hS1 : (S : Int) ≤ fs1[k].l.length := by omega
            have hS2 : (S : Int) ≤ fs1[k].c := by omega
            have hS0 : (0 : Int) ≤ S := by omega
            have hgA := (hd1.ok k hkf).2.2
            have ownS : OwnB wS fs1[k].A fs1[k].c fs1[k].l := (hd1.ok k hkf).1.touch tS (fun b hb hm => hgA ((by simpa using hm : b = g) ▸ hb))
            have hrdS := ownS.rd.take S
            clear hwS hcell cv cs zs zv hwr
            go_region_law (first | (go_simp; go_at_call 36; refine (clone_len fs1[k].A S fs1[k].c (fs1[k].l.take S) (by simp; omega) _ (by exact hrdS) (by omega)).mono ?_; rintro e w2 ⟨A2, c2, rfl, hown2, ht2, hf2⟩; have blk2 := ht2.blk (by exact blkS) (by simp); have cv2 := cell_blk blk2 (dcells_v h4S k hkS); have zv2 := free_blk blk2 (k * 2)))
            all_goals
              go_wp2
              go_roundw
              case rel =>
                have hlen : (fs1[k].l.take S).length = S := by simp; omega
                have blk3 := set_blk blk2 (k * 2) (.slice A2 S c2)
                have hset := dcells_set_v (r := r) h4S k hkS ⟨A2, c2, fs1[k].l.take S, S⟩ (by rw [List.getElem_set_self])
                simp only [DF.v, hlen] at hset
                rw [hset, List.set_set] at blk3
                have hgA2 : g ∉ fpo A2 := fun hm => by
                  have h1 : wS.heap.size ≤ g := hf2 g hm
                  have h2 := lt_of_block blkS
                  omega
                have hstep : DStep g fs1 ((view fs1).set k (fs1[k].l.take S, S)) r wr (w2.setCell ⟨g, k * 2, none⟩ (.slice A2 S c2)) := by
                  refine disk_setFile hd1 k hkf ⟨A2, c2, fs1[k].l.take S, S⟩ blk3 ?_ (by simp only [hlen]; exact Nat.le_refl _) ?_ (fun b hb => .inr ?_) hd1.rok ?_
                  · exact hown2.touch ((Touch.refl [g] w2).setCell (.inl (by simp)) _) (fun b hb hm => hgA2 ((by simpa using hm : b = g) ▸ hb))
                  · exact ((tS.trans0 ⟨ht2.os, ht2.tape, ht2.output, ht2.size, ht2.block⟩).setCell (.inl (by simp)) _).mono (fun b hb => .inl (by simp at hb; simp [hb]))
                  · exact Nat.le_trans tS.size (hf2 b hb)
                  · have := used_set k hkf ⟨A2, c2, fs1[k].l.take S, S⟩
                    simp only [hlen] at this
                    omega
                refine ⟨k + 1, by omega, by go_num, ?_⟩
                have hvk : crashK ks (view fs) (k + 1) = (view fs1).set k (fs1[k].l.take S, S) := by
                  have hk1 : k < (view fs1).length := by simpa [view] using hkf
                  have hk2 : k < (crashK ks (view fs) k).length := by rw [← hv1]; exact hk1
                  have hk3 : k < (view fs).length := by simpa [crashK] using hk2
                  rw [crashK_succ ks (view fs) k hk3, ← crashK_get ks (view fs) k hk2]
                  have hgk : (crashK ks (view fs) k)[k] = (fs1[k].l, fs1[k].safe) := by
                    have : (view fs1)[k] = (fs1[k].l, fs1[k].safe) := by simp [view]
                    rw [← this]
                    congr 1
                    exact hv1.symm
                  rw [hgk, ← hv1]
                  simp only [crashF, HS.out]
                  rfl
                rw [hvk]
                exact DStep.trans ht1 hf1 hstep
              case measure => simp [intOf]; omega
      · obtain ⟨S, hS⟩ : ∃ S, S = fs1[k].safe := ⟨_, rfl⟩
        have HS := Lib.hid (show fs1[k].safe + stays ks k (fs1[k].l.length - fs1[k].safe) = S by unfold stays; rw [if_neg hin]; omega)
        have hSl : S ≤ fs1[k].l.length := by omega
        have HS1 := Lib.hid hS; clear hS
        go_wp2
        obtain ⟨wS, hwS⟩ : ∃ wS, wS = wr.setCell ⟨g, k * 2 + 1, none⟩ (.int .i64 ((fs1[k].safe : Nat))) := ⟨_, rfl⟩
        rw [← hwS]
        rw [show (((fs1[k].safe : Nat) : Int)) = ((S : Nat) : Int) by rw [HS1.out]; try omega] at hwS
        have blkS : wS.heap[g]? = some (.cells (dcells (fs1.set k ⟨fs1[k].A, fs1[k].c, fs1[k].l, S⟩) r) 72 (0, 0)) := by
          have := set_blk hd1.blk (k * 2 + 1) (.int .i64 (S : Nat))
          rw [dcells_set_s h4 k hkf ⟨fs1[k].A, fs1[k].c, fs1[k].l, S⟩ rfl] at this
          rw [hwS]; exact this
        have tS : Touch [g] wr wS := by rw [hwS]; exact (Touch.refl [g] wr).setCell (.inl (by simp)) _
        have hkS : k < (fs1.set k ⟨fs1[k].A, fs1[k].c, fs1[k].l, S⟩).length := by simpa using hkf
        have h4S : (fs1.set k ⟨fs1[k].A, fs1[k].c, fs1[k].l, S⟩).length = 4 := by simpa using h4
        have cvS := cell_blk blkS (dcells_v h4S k hkS)
        have csS := cell_blk blkS (dcells_s h4S k hkS)
        rw [List.getElem_set_self] at cvS csS
        have zvS := free_blk blkS (k * 2)
        unfold DF.v at cvS
        simp only at cvS csS
        have hleS := (hd1.ok k hkf).1.le
        have hS1 : (S : Int) ≤ fs1[k].l.length := by omega
        have hS2 : (S : Int) ≤ fs1[k].c := by omega
        have hS0 : (0 : Int) ≤ S := by omega
        have hgA := (hd1.ok k hkf).2.2
        have ownS : OwnB wS fs1[k].A fs1[k].c fs1[k].l := (hd1.ok k hkf).1.touch tS (fun b hb hm => hgA ((by simpa using hm : b = g) ▸ hb))
        have hrdS := ownS.rd.take S
        clear hwS cv cs zs zv hwr
        go_region_law (first | (go_simp; go_at_call 36; refine (clone_len fs1[k].A S fs1[k].c (fs1[k].l.take S) (by simp; omega) _ (by exact hrdS) (by omega)).mono ?_; rintro e w2 ⟨A2, c2, rfl, hown2, ht2, hf2⟩; have blk2 := ht2.blk (by exact blkS) (by simp); have cv2 := cell_blk blk2 (dcells_v h4S k hkS); have zv2 := free_blk blk2 (k * 2)))
        all_goals
          go_wp2
          go_roundw
          case rel =>
            have hlen : (fs1[k].l.take S).length = S := by simp; omega
            have blk3 := set_blk blk2 (k * 2) (.slice A2 S c2)
            have hset := dcells_set_v (r := r) h4S k hkS ⟨A2, c2, fs1[k].l.take S, S⟩ (by rw [List.getElem_set_self])
            simp only [DF.v, hlen] at hset
            rw [hset, List.set_set] at blk3
            have hgA2 : g ∉ fpo A2 := fun hm => by
              have h1 : wS.heap.size ≤ g := hf2 g hm
              have h2 := lt_of_block blkS
              omega
            have hstep : DStep g fs1 ((view fs1).set k (fs1[k].l.take S, S)) r wr (w2.setCell ⟨g, k * 2, none⟩ (.slice A2 S c2)) := by
              refine disk_setFile hd1 k hkf ⟨A2, c2, fs1[k].l.take S, S⟩ blk3 ?_ (by simp only [hlen]; exact Nat.le_refl _) ?_ (fun b hb => .inr ?_) hd1.rok ?_
              · exact hown2.touch ((Touch.refl [g] w2).setCell (.inl (by simp)) _) (fun b hb hm => hgA2 ((by simpa using hm : b = g) ▸ hb))
              · exact ((tS.trans0 ⟨ht2.os, ht2.tape, ht2.output, ht2.size, ht2.block⟩).setCell (.inl (by simp)) _).mono (fun b hb => .inl (by simp at hb; simp [hb]))
              · exact Nat.le_trans tS.size (hf2 b hb)
              · have := used_set k hkf ⟨A2, c2, fs1[k].l.take S, S⟩
                simp only [hlen] at this
                omega
            refine ⟨k + 1, by omega, by go_num, ?_⟩
            have hvk : crashK ks (view fs) (k + 1) = (view fs1).set k (fs1[k].l.take S, S) := by
              have hk1 : k < (view fs1).length := by simpa [view] using hkf
              have hk2 : k < (crashK ks (view fs) k).length := by rw [← hv1]; exact hk1
              have hk3 : k < (view fs).length := by simpa [crashK] using hk2
              rw [crashK_succ ks (view fs) k hk3, ← crashK_get ks (view fs) k hk2]
              have hgk : (crashK ks (view fs) k)[k] = (fs1[k].l, fs1[k].safe) := by
                have : (view fs1)[k] = (fs1[k].l, fs1[k].safe) := by simp [view]
                rw [← this]
                congr 1
                exact hv1.symm
              rw [hgk, ← hv1]
              simp only [crashF, HS.out]
              rfl
            rw [hvk]
            exact DStep.trans ht1 hf1 hstep
          case measure => simp [intOf]; omega
    · obtain rfl : k = 4 := by omega
      have h4 := hd1.len
      have c9 := cell_blk hd1.blk (dcells_r h4).2.1
      have c11 := cell_blk hd1.blk (dcells_r h4).2.2.2
      have z9 := free_blk hd1.blk 9
      have z11 := free_blk hd1.blk 11
      obtain ⟨k1, k2, k3, k4, k5, k6⟩ := hd1.rok
      go_wp2
      go_end0
      have b1 := set_blk (set_blk hd1.blk 9 (.int .i64 (-1))) 11 (.bool false)
      rw [(dcells_set_r h4).2.1, (dcells_set_r h4).2.2.2] at b1
      have hs := disk_setR hd1 b1 (((Touch.refl [g] wr).setCell (.inl (by simp)) _).setCell (.inl (by simp)) _) ⟨k1, k2, by simp, by simp, k5, k6⟩
      have hv : view fs1 = crashK ks (view fs) 4 := hv1
      rw [hv] at hs
      exact ⟨rfl, DStep.trans ht1 hf1 hs⟩
end Go.Proofs.Ytgpadejkmpfafaa
