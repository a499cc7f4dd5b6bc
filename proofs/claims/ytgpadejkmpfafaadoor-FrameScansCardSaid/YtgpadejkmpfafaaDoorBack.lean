/- slices.Backward over bytes: its contract, as an iterator that reads the slice between two rounds. -/
import Derived.RangeFuncBox
import Derived.RangeFuncLeaves
import Derived.RangeFuncNested
import Derived.RangeFuncBound
import Derived.RangeFuncCalls
import Derived.Shelf.Abstract
import Derived.Shelf.RegionOpen
import Derived.WalkKit
import Derived.OwnWalkIn
import Derived.TacticsInMore
import Derived.LoopNIn
import Derived.LoopIn
import Derived.Test.YtgpadejkmpfafaaDoorIn
namespace Go.Proofs.YtgpadejkmpfafaaDoor
open Go.RowKit Go.Shelf

attribute [local go_sem] Oper.semAt_some

def upto {α : Type} (f : Nat → α) (k : Nat) : List α := (List.range k).map f
theorem upto_succ {α : Type} (f : Nat → α) (k : Nat) : upto f (k + 1) = upto f k ++ [f k] := by simp [upto, List.range_succ]
theorem upto_length {α : Type} (f : Nat → α) (k : Nat) : (upto f k).length = k := by simp [upto]

/-- what comes as the k-th: the last but k -/
def backAt (zs : List UInt8) (k : Nat) : Nat × UInt8 := (zs.length - 1 - k, zs[zs.length - 1 - k]?.getD 0)

/-- these blocks lie as they lay -/
def KpB (bs : List Nat) (W W' : World) : Prop := ∀ k ∈ bs, W'.heap[k]? = W.heap[k]?
theorem KpB.refl (bs : List Nat) (W : World) : KpB bs W W := fun _ _ => rfl
theorem KpB.trans {bs : List Nat} {A B C : World} (h : KpB bs A B) (k : KpB bs B C) : KpB bs A C := fun b hb => (k b hb).trans (h b hb)
theorem KpB.cell {bs : List Nat} {W W' : World} (h : KpB bs W W') {a : Addr} (hb : a.block ∈ bs) : W'.cell? a = W.cell? a := by
  unfold World.cell?; rw [h _ hb]
theorem KpB.put {bs : List Nat} {w : World} (hbs : ∀ k ∈ bs, k < w.heap.size) (W : World) (l : Nat) (o o' : Obj) (hl : w.heap.size ≤ l) (_ : W.heap[l]? = some o) (_ : o.isCells = false) (_ : o.isWalk = false) : KpB bs W (W.putObj l o') := fun k hk => by
  have := hbs k hk
  have hne : l ≠ k := by omega
  simp [World.putObj, hne]
theorem KpB.setCell {bs : List Nat} (W : World) (p : Addr) (u : Value) (hp : p.block ∉ bs) : KpB bs W (W.setCell p u) := fun k hk => Below.heap_setCell W p u k (fun e => hp (e ▸ hk))

set_option maxRecDepth 100000 in
set_option maxHeartbeats 2000000 in
theorem back1_in (F : Fence) (n : Nat) (h7 : F.fn 54) (hro : F.round = none) (hn : 1 ≤ n) (l Bs cap : Nat) (ad : Addr) (zs : List UInt8) (hreach : zs.length ≤ 140737488000000) (J Jx : List (Nat × UInt8) → World → Prop)
    (hY : ∀ pre x W, J pre W → pre.length < zs.length → YieldAt F (n - 1) Tryd.prog l #[.int .i64 (x.1 : Int), .int .u8 x.2.toNat] W fun e W' =>
      (e = .returned (.bool true) ∧ J (pre ++ [x]) W' ∧ KpB [Bs, ad.block] W W') ∨ (e = .returned (.bool false) ∧ Jx (pre ++ [x]) W'))
    (W : World) (hBs : W.cell? ⟨Bs, 0, none⟩ = some (.slice (some ad) zs.length cap)) (hc : ∀ j (h : j < zs.length), W.cell? (ad.add j) = some (.int .u8 zs[j].toNat)) (h0 : J [] W) :
    CallsIn F n Tryd.prog 54 #[.func (.yield l) #[] #[], .pointer (some ⟨Bs, 0, none⟩)] W fun e W' => (∃ v, e = .returned v) ∧
      ((∃ ys, ys = upto (backAt zs) zs.length ∧ J ys W') ∨ (∃ pre, (∃ k, k ≤ zs.length ∧ pre = upto (backAt zs) k) ∧ Jx pre W')) := by
  refine callsIn_of_wp Tryd.func54 rfl h7 ?_ hro
  simp only [Tryd.ntmps54, List.size_toArray, List.length_cons, List.length_nil, Nat.reduceAdd, Nat.reduceSub, Array.replicate_succ, Array.replicate_zero, List.push_toArray, List.append_toArray, List.nil_append, List.cons_append]
  gi_wp2
  gi_loopw [3] (fun i wr => ∃ m : Nat, m ≤ zs.length ∧ i = .int .i64 ((m : Int) - 1) ∧ J (upto (backAt zs) (zs.length - m)) wr ∧ KpB [Bs, ad.block] W wr)
    (fun i _ => (intOf i + 1).toNat)
  case atStart => exact ⟨zs.length, Nat.le_refl _, rfl, by rw [Nat.sub_self]; exact h0, KpB.refl _ _⟩
  case round =>
    obtain ⟨m, hm, rfl, hJs, hnx⟩ := hrel
    rcases m with _ | j
    · gi_wp2
      go_end0
      exact ⟨⟨_, rfl⟩, .inl ⟨_, rfl, by simpa using hJs⟩⟩
    · have e1 : ((j + 1 : Nat) : Int) - 1 = (j : Int) := by omega
      rw [e1]
      have hcx := (hnx.cell (a := ad.add j) (by simp [block_of_add])).trans (hc j (by omega))
      have hbx := (hnx.cell (a := ⟨Bs, 0, none⟩) (by simp)).trans hBs
      have hlen : (upto (backAt zs) (zs.length - (j + 1))).length < zs.length := by rw [upto_length]; omega
      obtain ⟨fn, tmps, assign, body, hy, hR⟩ := hY _ (backAt zs (zs.length - (j + 1))) wr hJs hlen
      have e2 : backAt zs (zs.length - (j + 1)) = (j, zs[j]) := by
        have : zs.length - 1 - (zs.length - (j + 1)) = j := by omega
        simp [backAt, this, List.getElem?_eq_getElem (show j < zs.length by omega)]
      have e3 : upto (backAt zs) (zs.length - (j + 1)) ++ [backAt zs (zs.length - (j + 1))] = upto (backAt zs) (zs.length - j) := by
        rw [← upto_succ]; congr 1; omega
      rw [e3] at hR
      rw [e2] at hy
      dsimp only at hy
      obtain ⟨x, hx⟩ : ∃ x, x = zs[j] := ⟨_, rfl⟩
      rw [← hx] at hy hcx
      have hx' := Lib.hid hx; clear hx
      clear e1 e2 e3 hlen
      gi_wp2
      refine hR.mono ?_
      rintro e W3 (⟨rfl, hJ3, hk3⟩ | ⟨rfl, hJx3⟩)
      · gi_wp2
        go_roundw
        case rel => exact ⟨j, by omega, rfl, hJ3, hnx.trans hk3⟩
        case measure => simp [intOf]
      · gi_wp2
        refine bodyPost_ret (results_none rfl _ _ _) rfl ?_
        exact ⟨⟨_, rfl⟩, .inr ⟨_, ⟨zs.length - j, by omega, rfl⟩, hJx3⟩⟩

set_option maxRecDepth 100000 in
set_option maxHeartbeats 1000000 in
theorem back1_nil_in (F : Fence) (n : Nat) (h7 : F.fn 54) (hro : F.round = none) (l Bs cap : Nat) (A : Option Addr) (J : List (Nat × UInt8) → World → Prop) (W : World) (hBs : W.cell? ⟨Bs, 0, none⟩ = some (.slice A 0 cap)) (h0 : J [] W) :
    CallsIn F n Tryd.prog 54 #[.func (.yield l) #[] #[], .pointer (some ⟨Bs, 0, none⟩)] W fun e W' => (∃ v, e = .returned v) ∧ J [] W' := by
  refine callsIn_of_wp Tryd.func54 rfl h7 ?_ hro
  simp only [Tryd.ntmps54, List.size_toArray, List.length_cons, List.length_nil, Nat.reduceAdd, Nat.reduceSub, Array.replicate_succ, Array.replicate_zero, List.push_toArray, List.append_toArray, List.nil_append, List.cons_append]
  gi_wp2
  gi_loopw [3] (fun i wr => i = .int .i64 (-1) ∧ J [] wr) (fun _ _ => 0)
  case atStart => exact ⟨rfl, h0⟩
  case round =>
    obtain ⟨rfl, hJs⟩ := hrel
    gi_wp2
    go_end0
    exact ⟨⟨_, rfl⟩, hJs⟩

/-- slices.Backward: the slice is boxed; the function value holds the box -/
theorem back_in (F : Fence) (n : Nat) (h5 : F.fn 42) (hro : F.round = none) (a : Option Addr) (len cap : Nat) (w : World) :
    CallsIn F n Tryd.prog 42 #[.slice a len cap] w fun e w' => e = .returned (.func (.func 54) #[] #[.pointer (some ⟨w.heap.size, 0, none⟩)]) ∧ w' = w.alloc (.cells #[.slice a len cap] 22) := by
  refine callsIn_of_wp Tryd.func42 rfl h5 ?_ hro
  simp only [Tryd.ntmps42, List.size_toArray, List.length_cons, List.length_nil, Nat.reduceAdd, Nat.reduceSub, Array.replicate_succ, Array.replicate_zero, List.push_toArray, List.append_toArray, List.nil_append, List.cons_append]
  gi_wp2
  go_ret
  exact ⟨rfl, rfl⟩

/-- what the loop's body must let lie: the box, and the bytes -/
def backs (Bs : Nat) (A : Option Addr) (zs : List UInt8) : List Nat := if zs.length = 0 then [Bs] else Bs :: fpo A
theorem back_stops (F : Fence) (n : Nat) (h7 : F.fn 54) (hro : F.round = none) (hn : 1 ≤ n) (Bs : Nat) (A : Option Addr) (cap : Nat) (zs : List UInt8) (hreach : zs.length ≤ 140737488000000) (w : World)
    (hBs : w.cell? ⟨Bs, 0, none⟩ = some (.slice A zs.length cap)) (hr : RdB w A zs) :
    SeqStopsK F n Tryd.prog 54 #[.pointer (some ⟨Bs, 0, none⟩)] (fun x : Nat × UInt8 => #[Value.int .i64 (x.1 : Int), Value.int .u8 x.2.toNat]) (KpB (backs Bs A zs)) (fun ys => ys = upto (backAt zs) zs.length)
      (fun pre => ∃ k, k ≤ zs.length ∧ pre = upto (backAt zs) k) zs.length w := fun l J Jx W hW _ _ hY h0 => by
  have hBl : Bs < w.heap.size := World.block_lt_of_cell? w ⟨Bs, 0, none⟩ hBs
  have hc' := (hW.cell (p := ⟨Bs, 0, none⟩) hBl).trans hBs
  by_cases hz : zs.length = 0
  · obtain rfl := List.eq_nil_of_length_eq_zero hz
    exact (back1_nil_in F n h7 hro l Bs cap A J W hc' h0).mono fun e W' ⟨he, hj⟩ => ⟨he, .inl ⟨_, rfl, hj⟩⟩
  · obtain ⟨ad, rfl, _⟩ := hr.at_ 0 (by omega)
    have hbe : backs Bs (some ad) zs = [Bs, ad.block] := by simp [backs, hz, fpo]
    rw [hbe] at hY
    refine (back1_in F n h7 hro hn l Bs cap ad zs hreach J Jx hY W hc' (fun j hj => ?_) h0).mono ?_
    · obtain ⟨ad', e, hcell⟩ := hr.at_ j hj
      obtain rfl : ad = ad' := by injection e
      have hlt : (ad.add j).block < w.heap.size := World.block_lt_of_cell? w _ hcell
      exact (hW.cell hlt).trans hcell
    · rintro e W' ⟨he, ⟨ys, rfl, hj⟩ | ⟨pre, ⟨k, hk, rfl⟩, hj⟩⟩
      · exact ⟨he, .inl ⟨_, rfl, hj⟩⟩
      · exact ⟨he, .inr ⟨_, ⟨k, hk, rfl⟩, hj⟩⟩
end Go.Proofs.YtgpadejkmpfafaaDoor
