/- disk.New, Size, Down, Done, Capacity, Arm, Limit, Cut: the walks. -/
import Derived.Test.YtgpadejkmpfafaaDiskSync
namespace Go.Proofs.Ytgpadejkmpfafaa
open Go.RowKit

set_option maxHeartbeats 800000 in
theorem new_bad (n : Int) (w : World) (h : ¬ (0 ≤ n ∧ n ≤ 1073741824)) : Calls Try.prog 9 #[.int .i64 n] w fun e w' => e = .returned (.pointer none) ∧ w = w' := by
  have hd : decide (0 ≤ n ∧ n ≤ 1073741824) = false := by simp; omega
  go_enter Try.func9, Try.ntmps9
  go_wp2_with (go_at_call 33; refine (right_any _ _).mono ?_; rintro e w' ⟨rfl, rfl⟩; rw [hd])
  go_ret
  exact ⟨rfl, rfl⟩

def noFile : DF := ⟨none, 0, [], 0⟩
theorem disk_new (w : World) (n : Int) (h : 0 ≤ n ∧ n ≤ 1073741824) : DiskAt (w.alloc (.cells (dcells [noFile, noFile, noFile, noFile] ⟨n, -1, 0, false⟩) 72)) w.heap.size [noFile, noFile, noFile, noFile] ⟨n, -1, 0, false⟩ := by
  have hok : ∀ i, (hi : i < [noFile, noFile, noFile, noFile].length) → [noFile, noFile, noFile, noFile][i] = noFile := by
    intro i hi
    rcases lt_four hi with rfl | rfl | rfl | rfl <;> rfl
  refine ⟨heap_alloc_new w _, rfl, fun i hi => ?_, fun i j hi hj _ => ?_, ⟨h.1, h.2, by simp, by simp, by simp, by simp⟩, by simp [used, noFile]⟩
  · rw [hok i hi]; exact ⟨OwnB.nil _, Nat.le_refl _, by simp [noFile, fpo]⟩
  · rw [hok i hi]; intro x hx; simp [noFile, fpo] at hx

set_option maxHeartbeats 800000 in
theorem new_ok (n : Int) (w : World) (h : 0 ≤ n ∧ n ≤ 1073741824) : Calls Try.prog 9 #[.int .i64 n] w fun e w' => e = .returned (.pointer (some ⟨w.heap.size, 0, none⟩)) ∧ w' = w.alloc (.cells (dcells [noFile, noFile, noFile, noFile] ⟨n, -1, 0, false⟩) 72) := by
  have hd : decide (0 ≤ n ∧ n ≤ 1073741824) = true := by simp; omega
  go_enter Try.func9, Try.ntmps9
  go_wp2_with (go_at_call 33; refine (right_any _ _).mono ?_; rintro e w' ⟨rfl, rfl⟩; rw [hd])
  go_ret
  exact ⟨rfl, rfl⟩

set_option maxHeartbeats 800000 in
theorem size_any (g : Nat) (fs : List DF) (r : DR) (n : Int) (w : World) (hd : DiskAt w g fs r) :
    Calls Try.prog 22 #[.pointer (some ⟨g, 0, none⟩), .int .i64 n] w fun e w' => e = .returned (.int .i64 (if 0 ≤ n ∧ n < 4 then (((view fs).getD n.toNat ([], 0)).1.length : Int) else 0)) ∧ w = w' := by
  have h4 := hd.len
  by_cases hn : 0 ≤ n ∧ n < 4
  · obtain ⟨k, rfl⟩ : ∃ k : Nat, n = k := ⟨n.toNat, by omega⟩
    have hk : k < fs.length := by omega
    have hd1 : decide (0 ≤ (k : Int) ∧ (k : Int) < 4) = true := by simp; omega
    have cs := cell_blk hd.blk (dcells_v h4 k hk)
    unfold DF.v at cs
    have h40 : (k : Int) < 4 := hn.2
    have hv : ((view fs).getD k ([], 0)).1 = fs[k].l := by simp [view, List.getD, hk]
    rw [if_pos hn, Int.toNat_natCast, hv]
    clear hn hv
    go_enter Try.func22, Try.ntmps22
    go_wp2_with (go_at_call 37; refine (has_any _ _).mono ?_; rintro e w' ⟨rfl, rfl⟩; rw [hd1])
    go_ret
    exact ⟨rfl, rfl⟩
  · have hd1 : decide (0 ≤ n ∧ n < 4) = false := by simp; omega
    rw [if_neg hn]
    go_enter Try.func22, Try.ntmps22
    go_wp2_with (go_at_call 37; refine (has_any _ _).mono ?_; rintro e w' ⟨rfl, rfl⟩; rw [hd1])
    go_ret
    exact ⟨rfl, rfl⟩

set_option maxHeartbeats 400000 in
theorem down_any (g : Nat) (x : Bool) (w : World) (h : w.cell? ⟨g, 11, none⟩ = some (.bool x)) : Calls Try.prog 19 #[.pointer (some ⟨g, 0, none⟩)] w fun e w' => e = .returned (.bool x) ∧ w = w' := by
  go_enter Try.func19, Try.ntmps19
  go_wp2
  go_ret
  exact ⟨rfl, rfl⟩
set_option maxHeartbeats 400000 in
theorem done_any (g : Nat) (x : Int) (w : World) (h : w.cell? ⟨g, 10, none⟩ = some (.int .i64 x)) : Calls Try.prog 21 #[.pointer (some ⟨g, 0, none⟩)] w fun e w' => e = .returned (.int .i64 x) ∧ w = w' := by
  go_enter Try.func21, Try.ntmps21
  go_wp2
  go_ret
  exact ⟨rfl, rfl⟩
set_option maxHeartbeats 400000 in
theorem capacity_any (g : Nat) (x : Int) (w : World) (h : w.cell? ⟨g, 8, none⟩ = some (.int .i64 x)) : Calls Try.prog 25 #[.pointer (some ⟨g, 0, none⟩)] w fun e w' => e = .returned (.int .i64 x) ∧ w = w' := by
  go_enter Try.func25, Try.ntmps25
  go_wp2
  go_ret
  exact ⟨rfl, rfl⟩

set_option maxHeartbeats 400000 in
theorem arm_any (g : Nat) (fs : List DF) (r : DR) (n : Int) (w : World) (hd : DiskAt w g fs r) (hn : n ≤ 9223372036854775807) :
    Calls Try.prog 18 #[.pointer (some ⟨g, 0, none⟩), .int .i64 n] w fun e w' => e = .returned (.tuple #[]) ∧ DStep g fs (view fs) { r with left := max n (-1) } w w' := by
  have h4 := hd.len
  have c9 := cell_blk hd.blk (dcells_r h4).2.1
  have z9 := free_blk hd.blk 9
  obtain ⟨k1, k2, k3, k4, k5, k6⟩ := hd.rok
  go_enter Try.func18, Try.ntmps18
  by_cases h : n < -1
  · have hm : max n (-1) = -1 := by omega
    rw [hm]
    go_wp2
    go_end0
    have := set_blk hd.blk 9 (.int .i64 (-1))
    rw [(dcells_set_r h4).2.1] at this
    exact ⟨rfl, disk_setR hd this ((Touch.refl _ _).setCell (.inl (by simp)) _) ⟨k1, k2, by simp, by simp, k5, k6⟩⟩
  · have h' : -1 ≤ n := by omega
    have hm : max n (-1) = n := by omega
    rw [hm]
    go_wp2
    go_end0
    have := set_blk hd.blk 9 (.int .i64 n)
    rw [(dcells_set_r h4).2.1] at this
    exact ⟨rfl, disk_setR hd this ((Touch.refl _ _).setCell (.inl (by simp)) _) ⟨k1, k2, by simp; omega, hn, k5, k6⟩⟩

set_option maxHeartbeats 400000 in
theorem limit_any (g : Nat) (fs : List DF) (r : DR) (n : Int) (w : World) (hd : DiskAt w g fs r) :
    Calls Try.prog 42 #[.pointer (some ⟨g, 0, none⟩), .int .i64 n] w fun e w' => e = .returned (.tuple #[]) ∧ DStep g fs (view fs) (if 0 ≤ n ∧ n ≤ 1073741824 then { r with cap := n } else r) w w' := by
  have h4 := hd.len
  have c8 := cell_blk hd.blk (dcells_r h4).1
  have z8 := free_blk hd.blk 8
  obtain ⟨k1, k2, k3, k4, k5, k6⟩ := hd.rok
  go_enter Try.func42, Try.ntmps42
  by_cases h : 0 ≤ n ∧ n ≤ 1073741824
  · have hd1 : decide (0 ≤ n ∧ n ≤ 1073741824) = true := by simp; omega
    rw [if_pos h]
    go_wp2_with (go_at_call 33; refine (right_any _ _).mono ?_; rintro e w' ⟨rfl, rfl⟩; rw [hd1])
    go_end0
    have := set_blk hd.blk 8 (.int .i64 n)
    rw [(dcells_set_r h4).1] at this
    exact ⟨rfl, disk_setR hd this ((Touch.refl _ _).setCell (.inl (by simp)) _) ⟨h.1, h.2, k3, k4, k5, k6⟩⟩
  · have hd1 : decide (0 ≤ n ∧ n ≤ 1073741824) = false := by simp; omega
    rw [if_neg h]
    go_wp2_with (go_at_call 33; refine (right_any _ _).mono ?_; rintro e w' ⟨rfl, rfl⟩; rw [hd1])
    go_end0
    exact ⟨rfl, disk_keep hd (Touch.refl _ _)⟩

set_option maxHeartbeats 800000 in
theorem cut_bad (g : Nat) (down : Bool) (n size : Int) (w : World) (c11 : w.cell? ⟨g, 11, none⟩ = some (.bool down)) (hck : checkI down n ≠ 0) :
    Calls Try.prog 20 #[.pointer (some ⟨g, 0, none⟩), .int .i64 n, .int .i64 size] w fun e w' => e = .returned (.int .i64 (checkI down n)) ∧ w = w' := by
  have hne : (checkI down n == 0) = false := by rw [beq_eq_false_iff_ne]; exact hck
  have hne2 : (checkI down n != 0) = true := by rw [bne_iff_ne]; exact hck
  obtain ⟨q, hq⟩ : ∃ q, q = checkI down n := ⟨_, rfl⟩
  rw [← hq] at hne hne2 hck ⊢
  have Hq := Lib.hid hq; clear hq
  go_enter Try.func20, Try.ntmps20
  go_wp2_with (go_at_call 34; refine (check_any g down _ _ c11).mono ?_; rintro e w' ⟨rfl, rfl⟩; rw [← Hq.out])
  go_ret
  exact ⟨rfl, rfl⟩

set_option maxHeartbeats 800000 in
theorem cut_range (g : Nat) (fs : List DF) (r : DR) (n : Nat) (size : Int) (w : World) (hd : DiskAt w g fs r) (hn : n < fs.length) (hdn : r.down = false) (hs : size < 0 ∨ (fs[n].l.length : Int) < size) :
    Calls Try.prog 20 #[.pointer (some ⟨g, 0, none⟩), .int .i64 n, .int .i64 size] w fun e w' => e = .returned (.int .i64 30) ∧ w = w' := by
  have h4 := hd.len
  have c11 : w.cell? ⟨g, 11, none⟩ = some (.bool r.down) := cell_blk hd.blk (dcells_r h4).2.2.2
  have hck : checkI r.down n = 0 := by simp only [checkI, hdn]; simp; omega
  have hn4 : (n : Int) < 4 := by omega
  have cv := cell_blk hd.blk (dcells_v h4 n hn)
  unfold DF.v at cv
  by_cases h0 : size < 0
  all_goals
    go_enter Try.func20, Try.ntmps20
    have hs' : (fs[n].l.length : Int) < size ∨ size < 0 := hs.symm
    try have hs2 : (fs[n].l.length : Int) < size := hs'.resolve_right h0
    clear hs hs'
    go_wp2_with (go_at_call 34; refine (check_any g r.down _ _ c11).mono ?_; rintro e w' ⟨rfl, rfl⟩; rw [hck])
    go_ret
    exact ⟨rfl, rfl⟩
end Go.Proofs.Ytgpadejkmpfafaa
