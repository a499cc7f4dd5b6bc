/- A graph as the memory holds it; has, Nodes, Depth, Deepest. For every graph. -/
import Derived.Test.YtmehdlflhllhdaaGrM
namespace Go.Proofs.Ytmehdlflhllhdaa
open Go.RowKit

/-- where a graph's rows lie -/
structure GX where
  N : Nat
  M : Nat
  P : Nat
  sn : List SL
  sm : List SL
abbrev grC (X : GX) (n : Nat) : Array Value := #[.slice (some ⟨X.N, 0, none⟩) n n, .slice (some ⟨X.M, 0, none⟩) n n, .slice (some ⟨X.P, 0, none⟩) n n]
def HdAt (w : World) (g : Nat) (X : GX) (n : Nat) : Prop := w.heap[g]? = some (.cells (grC X n) 49 (0, 0))
abbrev gP (g : Nat) : Value := .pointer (some ⟨g, 0, none⟩)
theorem HdAt.cells {w : World} {g : Nat} {X : GX} {n : Nat} (h : HdAt w g X n) : w.cell? ⟨g, 0, none⟩ = some (.slice (some ⟨X.N, 0, none⟩) n n) ∧ w.cell? ⟨g, 1, none⟩ = some (.slice (some ⟨X.M, 0, none⟩) n n) ∧ w.cell? ⟨g, 2, none⟩ = some (.slice (some ⟨X.P, 0, none⟩) n n) :=
  ⟨cell_blk h rfl, cell_blk h rfl, cell_blk h rfl⟩

set_option maxHeartbeats 800000 in
theorem has_any (g : Nat) (X : GX) (n : Nat) (i : Int) (w : World) (h : HdAt w g X n) :
    Calls Try.prog 27 #[gP g, .int .i64 i] w fun e w' => e = .returned (.bool (decide (0 ≤ i ∧ i < n))) ∧ w' = w := by
  obtain ⟨c0, _, _⟩ := h.cells
  go_enter Try.func27, Try.ntmps27
  by_cases h0 : 0 ≤ i
  · by_cases h1 : i < n
    · go_wp2
      go_ret
      simp [h0, h1]
    · have h1' : (i < (n : Int)) = False := by simpa using h1
      go_wp2
      go_ret
      simp
  · have h0' : (0 ≤ i) = False := by simpa using h0
    go_wp2
    go_ret
    simp

theorem nodes_any (g : Nat) (X : GX) (n : Nat) (w : World) (h : HdAt w g X n) :
    Calls Try.prog 13 #[gP g] w fun e w' => e = .returned (.int .i64 n) ∧ w' = w := by
  obtain ⟨c0, _, _⟩ := h.cells
  go_enter Try.func13, Try.ntmps13
  go_wp2
  go_ret
  exact ⟨rfl, rfl⟩

set_option maxHeartbeats 800000 in
theorem depth_any (g : Nat) (X : GX) (ds : List Nat) (n : Nat) (hn : ds.length = n) (i : Int) (w : World) (h : HdAt w g X n) (hp : OwnK 3 1 nE w (some ⟨X.P, 0, none⟩) n ds) :
    Calls Try.prog 19 #[gP g, .int .i64 i] w fun e w' => e = .returned (.int .i64 (if 0 ≤ i ∧ i < n then (ds.getD i.toNat 0 : Nat) else -1)) ∧ w' = w := by
  subst hn
  obtain ⟨_, _, c2⟩ := h.cells
  have hh := has_any g X ds.length i w h
  by_cases h0 : 0 ≤ i ∧ i < ds.length
  · obtain ⟨k, rfl⟩ : ∃ k : Nat, i = k := ⟨i.toNat, by omega⟩
    have hk : k < ds.length := by omega
    have ck := hp.cell1 k hk
    have e1 : decide (0 ≤ (k : Int) ∧ (k : Int) < (ds.length : Int)) = true := by simpa using h0
    rw [e1] at hh
    have Hq : Hid ((if 0 ≤ (k : Int) ∧ (k : Int) < (ds.length : Int) then ((ds.getD (k : Int).toNat 0 : Nat) : Int) else -1) = (ds[k] : Nat)) := Lib.hid (by rw [if_pos h0]; simp [hk])
    rw [Hq.out]
    clear h0 e1 Hq
    go_enter Try.func19, Try.ntmps19
    go_wp2_with fail
    refine hh.mono ?_
    rintro e w1 ⟨rfl, rfl⟩
    clear hh
    go_wp2
    go_ret
    exact ⟨rfl, rfl⟩
  · have e1 : decide (0 ≤ i ∧ i < (ds.length : Int)) = false := by simpa using h0
    rw [e1] at hh
    rw [if_neg h0]
    clear h0 e1
    go_enter Try.func19, Try.ntmps19
    go_wp2_with fail
    refine hh.mono ?_
    rintro e w1 ⟨rfl, rfl⟩
    go_wp2
    go_ret
    exact ⟨rfl, rfl⟩

/-- the greatest of these, -1 if there is none -/
def mostV (ds : List Nat) : Int := ds.foldl (fun (m : Int) (d : Nat) => max m (d : Int)) (-1)
theorem mostV_take (ds : List Nat) (k : Nat) (hk : k < ds.length) : mostV (ds.take (k + 1)) = max (mostV (ds.take k)) (ds[k] : Int) := by
  unfold mostV
  rw [List.take_succ_eq_append_getElem hk, List.foldl_append]; rfl

set_option maxHeartbeats 800000 in
theorem deepest_any (g : Nat) (X : GX) (ds : List Nat) (n : Nat) (hn : ds.length = n) (hm : n ≤ 2000000000) (w : World) (h : HdAt w g X n) (hp : OwnK 3 1 nE w (some ⟨X.P, 0, none⟩) n ds) :
    Calls Try.prog 21 #[gP g] w fun e w' => e = .returned (.int .i64 (mostV ds)) ∧ w' = w := by
  subst hn
  obtain ⟨_, _, c2⟩ := h.cells
  go_enter Try.func21, Try.ntmps21
  go_wp2
  go_loop [3, 11] (fun m i => ∃ k : Nat, k ≤ ds.length ∧ i = .int .i64 k ∧ m = .int .i64 (mostV (ds.take k))) (fun _ i => ds.length - (intOf i).toNat)
  case atStart => exact ⟨0, by omega, rfl, rfl⟩
  case round =>
    obtain ⟨k, hk, rfl, rfl⟩ := hrel
    by_cases hlt : k < ds.length
    · have ck := hp.cell1 k hlt
      have Hm := Lib.hid (mostV_take ds k hlt)
      go_wp2
      go_round
      case rel => exact ⟨k + 1, by omega, by go_num, by rw [Hm.out]; congr 1; split <;> omega⟩
      case measure => simp [intOf]; omega
    · obtain rfl : k = ds.length := by omega
      rw [List.take_length]
      go_wp2
      go_ret
      exact ⟨rfl, rfl⟩
end Go.Proofs.Ytmehdlflhllhdaa
