/- disk.Disk.Cut: the walk where the file gets shorter. -/
import Derived.Test.YtgpadejkmpfafaaDiskMore
namespace Go.Proofs.Ytgpadejkmpfafaa
open Go.RowKit

set_option maxHeartbeats 1600000 in
theorem cut_ok (g : Nat) (fs : List DF) (r : DR) (n size : Nat) (w : World) (hd : DiskAt w g fs r) (hn : n < fs.length) (hdn : r.down = false) (hs : size ≤ fs[n].l.length) (hdone : r.done < 1073741824) :
    Calls Try.prog 20 #[.pointer (some ⟨g, 0, none⟩), .int .i64 n, .int .i64 size] w fun e w' => e = .returned (.int .i64 (cmdE r)) ∧
      DStep g fs (if cmdE r = 0 then (view fs).set n (fs[n].l.take size, size) else view fs) (cmdR r) w w' := by
  have h4 := hd.len
  have c11 : w.cell? ⟨g, 11, none⟩ = some (.bool r.down) := cell_blk hd.blk (dcells_r h4).2.2.2
  have hck : checkI r.down n = 0 := by simp only [checkI, hdn]; simp; omega
  have cv0 := cell_blk hd.blk (dcells_v h4 n hn)
  unfold DF.v at cv0
  obtain ⟨k1, k2, k3, k4, k5, k6⟩ := hd.rok
  have hn4 : (n : Int) < 4 := by omega
  have hn0 : (0 : Int) ≤ n := by omega
  have hrk := cmdR_ok hd.rok hdone
  have hlu := used_ge n hn
  have hus := hd.used
  have hle := (hd.ok n hn).1.le
  have hgA := (hd.ok n hn).2.2
  go_enter Try.func20, Try.ntmps20
  by_cases he : cmdE r = 0
  · have hif : ∀ {V V' : List (List UInt8 × Nat)}, (if cmdE r = 0 then V else V') = V := if_pos he
    rw [hif]
    have hs0 : (0 : Int) ≤ size := by omega
    have hs1 : (size : Int) ≤ fs[n].l.length := by omega
    have hs2 : (size : Int) ≤ fs[n].c := by omega
    go_wp2_with (first
      | (go_at_call 34; refine (check_any g r.down _ _ c11).mono ?_; rintro e w' ⟨rfl, rfl⟩; rw [hck])
      | (go_at_call 35; refine (command_any g fs r _ hd.blk h4 k3 k4 k5 (by omega)).mono ?_; rintro e w1 ⟨rfl, hc1, ht1⟩; have cv := cell_blk hc1 (dcells_v h4 n hn); have cs := cell_blk hc1 (dcells_s h4 n hn); have zs := free_blk hc1 (n * 2 + 1); have zv := free_blk hc1 (n * 2); rw [he]))
    unfold DF.v at cv
    have hrd := ((hd.ok n hn).1.touch ht1 (fun b hb hm => hgA ((by simpa using hm : b = g) ▸ hb))).rd.take size
    go_region_law (first | (go_simp; go_at_call 36; refine (clone_len fs[n].A size fs[n].c (fs[n].l.take size) (by simp; omega) _ (by exact hrd) (by omega)).mono ?_; rintro e w2 ⟨A2, c2, rfl, hown2, ht2, hf2⟩; have blk2 := ht2.blk hc1 (by simp); have cv2 := cell_blk blk2 (dcells_v h4 n hn); have cs2 := cell_blk blk2 (dcells_s h4 n hn); have zs2 := free_blk blk2 (n * 2 + 1); have zv2 := free_blk blk2 (n * 2)))
    go_wp2
    go_ret
    have hlen : (fs[n].l.take size).length = size := by simp; omega
    have blk3 := set_blk (set_blk blk2 (n * 2) (.slice A2 size c2)) (n * 2 + 1) (.int .i64 (size : Nat))
    have hset := dcells_set_f (r := cmdR r) h4 n hn ⟨A2, c2, fs[n].l.take size, size⟩
    simp only [DF.v, hlen] at hset
    rw [hset] at blk3
    have hgA2 : g ∉ fpo A2 := fun hm => by
      have h1 : w1.heap.size ≤ g := hf2 g hm
      have h2 := lt_of_block hc1
      omega
    refine ⟨ret_int he.symm, disk_setFile hd n hn ⟨A2, c2, fs[n].l.take size, size⟩ blk3 ?_ (by simp only [hlen]; exact Nat.le_refl _) ?_ (fun b hb => .inr ?_) hrk ?_⟩
    · exact hown2.touch (((Touch.refl [g] w2).setCell (.inl (by simp)) _).setCell (.inl (by simp)) _) (fun b hb hm => hgA2 ((by simpa using hm : b = g) ▸ hb))
    · exact ((((ht1.drew).trans0 ht2).setCell (.inl (by simp)) _).setCell (.inl (by simp)) _).mono (fun b hb => .inl (by simp at hb; simp [hb]))
    · exact Nat.le_trans ht1.size (hf2 b hb)
    · have := used_set n hn ⟨A2, c2, fs[n].l.take size, size⟩
      simp only [hlen] at this
      omega
  · have hif : ∀ {V V' : List (List UInt8 × Nat)}, (if cmdE r = 0 then V else V') = V' := if_neg he
    rw [hif]
    have hne : (cmdE r == 0) = false := by rw [beq_eq_false_iff_ne]; exact he
    obtain ⟨q, hq⟩ : ∃ q, q = cmdE r := ⟨_, rfl⟩
    rw [← hq] at hne he ⊢
    have Hq := Lib.hid hq; clear hq
    go_wp2_with (first
      | (go_at_call 34; refine (check_any g r.down _ _ c11).mono ?_; rintro e w' ⟨rfl, rfl⟩; rw [hck])
      | (go_at_call 35; refine (command_any g fs r _ hd.blk h4 k3 k4 k5 (by omega)).mono ?_; rintro e w1 ⟨rfl, hc1, ht1⟩; rw [← Hq.out]))
    go_ret
    exact ⟨rfl, disk_setR hd hc1 ht1 hrk⟩
end Go.Proofs.Ytgpadejkmpfafaa
