/- disk.Disk.Sync, Safe, Size, Read: the walks. -/
import Derived.Test.YtgpadejkmpfafaaDiskAppend
import Derived.RegionTactic
import Derived.BigRegion
namespace Go.Proofs.Ytgpadejkmpfafaa
open Go.RowKit

set_option maxHeartbeats 800000 in
theorem sync_bad (g : Nat) (down : Bool) (n : Int) (w : World) (c11 : w.cell? ⟨g, 11, none⟩ = some (.bool down)) (hck : checkI down n ≠ 0) :
    Calls Try.prog 11 #[.pointer (some ⟨g, 0, none⟩), .int .i64 n] w fun e w' => e = .returned (.int .i64 (checkI down n)) ∧ w = w' := by
  have hne : (checkI down n == 0) = false := by rw [beq_eq_false_iff_ne]; exact hck
  have hne2 : (checkI down n != 0) = true := by rw [bne_iff_ne]; exact hck
  obtain ⟨q, hq⟩ : ∃ q, q = checkI down n := ⟨_, rfl⟩
  rw [← hq] at hne hne2 hck ⊢
  have Hq := Lib.hid hq; clear hq
  go_enter Try.func11, Try.ntmps11
  go_wp2_with (go_at_call 34; refine (check_any g down _ _ c11).mono ?_; rintro e w' ⟨rfl, rfl⟩; rw [← Hq.out])
  go_ret
  exact ⟨rfl, rfl⟩

theorem disk_setR {w w' : World} {g : Nat} {fs : List DF} {r r' : DR} (hd : DiskAt w g fs r) (blk : w'.heap[g]? = some (.cells (dcells fs r') 72 (0, 0))) (T : Touch [g] w w') (rok : r'.ok) : DStep g fs (view fs) r' w w' := by
  refine ⟨fs, ⟨blk, hd.len, fun i hi => ?_, hd.apart, rok, hd.used⟩, rfl, T.mono (fun b hb => .inl (by simp at hb; simp [dfp, hb])), fun b hb => .inl hb⟩
  obtain ⟨h1, h2, h3⟩ := hd.ok i hi
  exact ⟨h1.touch T (fun b hb hm => h3 ((by simpa using hm : b = g) ▸ hb)), h2, h3⟩
theorem disk_keep {w w' : World} {g : Nat} {fs : List DF} {r : DR} (hd : DiskAt w g fs r) (T : Touch [] w w') : DStep g fs (view fs) r w w' :=
  disk_setR hd (T.blk hd.blk (by simp)) (T.mono (by simp)) hd.rok

set_option maxHeartbeats 800000 in
theorem sync_ok (g : Nat) (fs : List DF) (r : DR) (n : Nat) (w : World) (hd : DiskAt w g fs r) (hn : n < fs.length) (hdn : r.down = false) (hdone : r.done < 1073741824) :
    Calls Try.prog 11 #[.pointer (some ⟨g, 0, none⟩), .int .i64 n] w fun e w' => e = .returned (.int .i64 (cmdE r)) ∧
      DStep g fs (if cmdE r = 0 then (view fs).set n (fs[n].l, fs[n].l.length) else view fs) (cmdR r) w w' := by
  have h4 := hd.len
  have c11 : w.cell? ⟨g, 11, none⟩ = some (.bool r.down) := cell_blk hd.blk (dcells_r h4).2.2.2
  have hck : checkI r.down n = 0 := by simp only [checkI, hdn]; simp; omega
  obtain ⟨k1, k2, k3, k4, k5, k6⟩ := hd.rok
  have hn4 : (n : Int) < 4 := by omega
  have hn0 : (0 : Int) ≤ n := by omega
  have hrk := cmdR_ok hd.rok hdone
  go_enter Try.func11, Try.ntmps11
  by_cases he : cmdE r = 0
  · have hif : ∀ {V V' : List (List UInt8 × Nat)}, (if cmdE r = 0 then V else V') = V := if_pos he
    rw [hif]
    go_wp2_with (first
      | (go_at_call 34; refine (check_any g r.down _ _ c11).mono ?_; rintro e w' ⟨rfl, rfl⟩; rw [hck])
      | (go_at_call 35; refine (command_any g fs r _ hd.blk h4 k3 k4 k5 (by omega)).mono ?_; rintro e w1 ⟨rfl, hc1, ht1⟩; have cv := cell_blk hc1 (dcells_v h4 n hn); have cs := cell_blk hc1 (dcells_s h4 n hn); have zs := free_blk hc1 (n * 2 + 1); rw [he]))
    unfold DF.v at cv
    go_region
    all_goals go_wp2
    all_goals go_ret
    have hset := dcells_set_s (r := cmdR r) h4 n hn ⟨fs[n].A, fs[n].c, fs[n].l, fs[n].l.length⟩ rfl
    have blk2 := set_blk hc1 (n * 2 + 1) (.int .i64 (fs[n].l.length : Nat))
    rw [hset] at blk2
    refine ⟨ret_int he.symm, disk_setFile hd n hn ⟨fs[n].A, fs[n].c, fs[n].l, fs[n].l.length⟩ (by exact blk2) ?_ (Nat.le_refl _) ?_ (fun b hb => .inl hb) hrk ?_⟩
    · have hg3 := (hd.ok n hn).2.2
      exact ((hd.ok n hn).1.touch ht1 (fun b hb hm => hg3 ((by simpa using hm : b = g) ▸ hb))).touch (((Touch.refl [g] w1).drew).setCell (.inl (by simp)) _) (fun b hb hm => hg3 ((by simpa using hm : b = g) ▸ hb))
    · exact ((ht1.drew).setCell (.inl (by simp)) _).mono (fun b hb => .inl (by simp at hb; simp [hb]))
    · have := used_set n hn ⟨fs[n].A, fs[n].c, fs[n].l, fs[n].l.length⟩
      simp only at this
      have := hd.used
      omega
  · have hif : ∀ {V V' : List (List UInt8 × Nat)}, (if cmdE r = 0 then V else V') = V' := if_neg he
    rw [hif]
    have hne : (cmdE r == 0) = false := by rw [beq_eq_false_iff_ne]; exact he
    obtain ⟨q, hq⟩ : ∃ q, q = cmdE r := ⟨_, rfl⟩
    rw [← hq] at hne he ⊢
    have Hq := Lib.hid hq; clear hq
    go_wp2_with (first
      | (go_at_call 34; refine (check_any g r.down _ _ c11).mono ?_; rintro e w' ⟨rfl, rfl⟩; rw [hck])
      | (go_at_call 35; refine (command_any g fs r _ hd.blk h4 k3 k4 k5 (by omega)).mono ?_; rintro e w1 ⟨rfl, hc1, ht1⟩; rw [← Hq.out]))
    go_ret
    exact ⟨rfl, disk_setR hd hc1 ht1 hrk⟩

set_option maxHeartbeats 800000 in
theorem safe_any (g : Nat) (fs : List DF) (r : DR) (n : Int) (w : World) (hd : DiskAt w g fs r) :
    Calls Try.prog 15 #[.pointer (some ⟨g, 0, none⟩), .int .i64 n] w fun e w' => e = .returned (.int .i64 (if 0 ≤ n ∧ n < 4 then (((view fs).getD n.toNat ([], 0)).2 : Int) else 0)) ∧ w = w' := by
  have h4 := hd.len
  by_cases hn : 0 ≤ n ∧ n < 4
  · obtain ⟨k, rfl⟩ : ∃ k : Nat, n = k := ⟨n.toNat, by omega⟩
    have hk : k < fs.length := by omega
    have hd1 : decide (0 ≤ (k : Int) ∧ (k : Int) < 4) = true := by simp; omega
    have cs := cell_blk hd.blk (dcells_s h4 k hk)
    have h40 : (k : Int) < 4 := hn.2
    have hv : ((view fs).getD k ([], 0)).2 = fs[k].safe := by simp [view, List.getD, hk]
    rw [if_pos hn, Int.toNat_natCast, hv]
    clear hn hv
    go_enter Try.func15, Try.ntmps15
    go_wp2_with (go_at_call 37; refine (has_any _ _).mono ?_; rintro e w' ⟨rfl, rfl⟩; rw [hd1])
    go_ret
    exact ⟨rfl, rfl⟩
  · have hd1 : decide (0 ≤ n ∧ n < 4) = false := by simp; omega
    rw [if_neg hn]
    go_enter Try.func15, Try.ntmps15
    go_wp2_with (go_at_call 37; refine (has_any _ _).mono ?_; rintro e w' ⟨rfl, rfl⟩; rw [hd1])
    go_ret
    exact ⟨rfl, rfl⟩

set_option maxHeartbeats 800000 in
theorem read_bad (g : Nat) (down : Bool) (n : Int) (w : World) (c11 : w.cell? ⟨g, 11, none⟩ = some (.bool down)) (hck : checkI down n ≠ 0) :
    Calls Try.prog 14 #[.pointer (some ⟨g, 0, none⟩), .int .i64 n] w fun e w' => e = .returned (.tuple #[.slice none 0 0, .int .i64 (checkI down n)]) ∧ w = w' := by
  have hne : (checkI down n == 0) = false := by rw [beq_eq_false_iff_ne]; exact hck
  have hne2 : (checkI down n != 0) = true := by rw [bne_iff_ne]; exact hck
  obtain ⟨q, hq⟩ : ∃ q, q = checkI down n := ⟨_, rfl⟩
  rw [← hq] at hne hne2 hck ⊢
  have Hq := Lib.hid hq; clear hq
  go_enter Try.func14, Try.ntmps14
  go_wp2_with (go_at_call 34; refine (check_any g down _ _ c11).mono ?_; rintro e w' ⟨rfl, rfl⟩; rw [← Hq.out])
  go_ret2
  exact ⟨rfl, rfl⟩

set_option maxHeartbeats 800000 in
theorem read_ok (g : Nat) (fs : List DF) (r : DR) (n : Nat) (w : World) (hd : DiskAt w g fs r) (hn : n < fs.length) (hdn : r.down = false) :
    Calls Try.prog 14 #[.pointer (some ⟨g, 0, none⟩), .int .i64 n] w fun e w' => ∃ A c, e = .returned (.tuple #[.slice A fs[n].l.length c, .int .i64 0]) ∧ CloneAt fs[n].l w w' A c := by
  have h4 := hd.len
  have c11 : w.cell? ⟨g, 11, none⟩ = some (.bool r.down) := cell_blk hd.blk (dcells_r h4).2.2.2
  have hck : checkI r.down n = 0 := by simp only [checkI, hdn]; simp; omega
  have hn4 : (n : Int) < 4 := by omega
  have cv := cell_blk hd.blk (dcells_v h4 n hn)
  have hu := used_ge n hn
  have hus := hd.used
  unfold DF.v at cv
  have hcl := clone_any fs[n].A fs[n].c fs[n].l w (hd.ok n hn).1.rd (by omega)
  have Hcl := Lib.hid hcl; clear hcl
  go_enter Try.func14, Try.ntmps14
  go_wp2_with (first
    | (go_at_call 34; refine (check_any g r.down _ _ c11).mono ?_; rintro e w' ⟨rfl, rfl⟩; rw [hck])
    | (go_at_call 36; refine Hcl.out.mono ?_; rintro e w1 ⟨A1, c1, rfl, h1⟩))
  go_ret2
  exact ⟨A1, c1, rfl, h1⟩
end Go.Proofs.Ytgpadejkmpfafaa
