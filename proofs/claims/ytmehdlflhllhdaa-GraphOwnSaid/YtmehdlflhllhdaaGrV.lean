/- slices.Values, slices.AppendSeq, slices.Collect, slices.Sorted at ints. For every slice of ints. -/
import Derived.RangeFuncBox
import Derived.RangeFuncLeaves
import Derived.RangeFuncNested
import Derived.RangeFuncBound
import Derived.RangeFuncCalls
import Derived.Shelf.Abstract
import Derived.Shelf.RegionOpen
import Derived.WalkKit
import Derived.OwnWalkIn
import Derived.TacticsInMore
import Derived.LoopNIn
import Derived.LoopIn
import Derived.Maps.AppendAt
import Derived.Test.YtmehdlflhllhdaaGrM
import Derived.Test.YtmehdlflhllhdaaShelf
namespace Go.Proofs.Ytmehdlflhllhdaa
open Go.RowKit Go.Shelf

attribute [local go_sem] Oper.semAt_some

set_option maxRecDepth 100000 in
set_option maxHeartbeats 2000000 in
theorem values1_in (F : Fence) (n : Nat) (h7 : F.fn 40) (hro : F.round = none) (hn : 1 ≤ n) (l Bs n₀ cap : Nat) (ad : Addr) (zs : List Int) (hreach : zs.length ≤ 1000000000) (hb : ad.block < n₀) (J Jx : List Int → World → Prop)
    (hY : ∀ pre x W, J pre W → pre.length < zs.length → YieldAt F (n - 1) Try.prog l #[.int .i64 x] W fun e W' =>
      (e = .returned (.bool true) ∧ J (pre ++ [x]) W' ∧ Below n₀ W W') ∨ (e = .returned (.bool false) ∧ Jx (pre ++ [x]) W'))
    (W : World) (hBs : W.cell? ⟨Bs, 0, none⟩ = some (.slice (some ad) zs.length cap)) (hc : ∀ j (h : j < zs.length), W.cell? (ad.add j) = some (.int .i64 zs[j])) (h0 : J [] W) :
    CallsIn F n Try.prog 40 #[.func (.yield l) #[] #[], .pointer (some ⟨Bs, 0, none⟩)] W fun e W' => (∃ v, e = .returned v) ∧
      ((∃ ys, ys = zs ∧ J ys W') ∨ (∃ pre, (∃ k, k ≤ zs.length ∧ pre = zs.take k) ∧ Jx pre W')) := by
  refine callsIn_of_wp Try.func40 rfl h7 ?_ hro
  simp only [Try.ntmps40, List.size_toArray, List.length_cons, List.length_nil, Nat.reduceAdd, Nat.reduceSub, Array.replicate_succ, Array.replicate_zero, List.push_toArray, List.append_toArray, List.nil_append, List.cons_append]
  gi_wp2
  gi_loopw [7] (fun i wr => ∃ k : Nat, k ≤ zs.length ∧ i = .int .i64 k ∧ J (zs.take k) wr ∧ Below n₀ W wr)
    (fun i _ => zs.length - (intOf i).toNat)
  case atStart => exact ⟨0, Nat.zero_le _, rfl, h0, Below.refl _ _⟩
  case round =>
    obtain ⟨k, hk, rfl, hJs, hnx⟩ := hrel
    by_cases hlt : k < zs.length
    · have hcx := (hnx.cell (p := ad.add k) (by rw [block_of_add]; exact hb)).trans (hc k hlt)
      obtain ⟨fn, tmps, assign, body, hy, hR⟩ := hY _ zs[k] wr hJs (by rw [List.length_take]; omega)
      have e3 : zs.take k ++ [zs[k]] = zs.take (k + 1) := (List.take_succ_eq_append_getElem hlt).symm
      rw [e3] at hR
      obtain ⟨x, hx⟩ : ∃ x, x = zs[k] := ⟨_, rfl⟩
      rw [← hx] at hy hcx
      clear hx e3
      gi_wp2
      refine hR.mono ?_
      rintro e W3 (⟨rfl, hJ3, hk3⟩ | ⟨rfl, hJx3⟩)
      · gi_wp2
        go_roundw
        case rel => exact ⟨k + 1, by omega, by go_num, hJ3, hnx.trans hk3⟩
        case measure => simp [intOf]; omega
      · gi_wp2
        refine bodyPost_ret (results_none rfl _ _ _) rfl ?_
        exact ⟨⟨_, rfl⟩, .inr ⟨_, ⟨k + 1, by omega, rfl⟩, hJx3⟩⟩
    · obtain rfl : k = zs.length := by omega
      rw [List.take_length] at hJs
      gi_wp2
      go_end0
      exact ⟨⟨_, rfl⟩, .inl ⟨_, rfl, hJs⟩⟩

set_option maxRecDepth 100000 in
set_option maxHeartbeats 1000000 in
theorem values1_nil_in (F : Fence) (n : Nat) (h7 : F.fn 40) (hro : F.round = none) (l Bs cap : Nat) (A : Option Addr) (J : List Int → World → Prop) (W : World) (hBs : W.cell? ⟨Bs, 0, none⟩ = some (.slice A 0 cap)) (h0 : J [] W) :
    CallsIn F n Try.prog 40 #[.func (.yield l) #[] #[], .pointer (some ⟨Bs, 0, none⟩)] W fun e W' => (∃ v, e = .returned v) ∧ J [] W' := by
  refine callsIn_of_wp Try.func40 rfl h7 ?_ hro
  simp only [Try.ntmps40, List.size_toArray, List.length_cons, List.length_nil, Nat.reduceAdd, Nat.reduceSub, Array.replicate_succ, Array.replicate_zero, List.push_toArray, List.append_toArray, List.nil_append, List.cons_append]
  gi_wp2
  gi_loopw [7] (fun i wr => i = .int .i64 0 ∧ J [] wr) (fun _ _ => 0)
  case atStart => exact ⟨rfl, h0⟩
  case round =>
    obtain ⟨rfl, hJs⟩ := hrel
    gi_wp2
    go_end0
    exact ⟨⟨_, rfl⟩, hJs⟩

/-- slices.Values: the slice is boxed; the function value holds the box -/
theorem values_in (F : Fence) (n : Nat) (h5 : F.fn 30) (hro : F.round = none) (a : Option Addr) (len cap : Nat) (w : World) :
    CallsIn F n Try.prog 30 #[.slice a len cap] w fun e w' => e = .returned (.func (.func 40) #[] #[.pointer (some ⟨w.heap.size, 0, none⟩)]) ∧ w' = w.alloc (.cells #[.slice a len cap] 31) := by
  refine callsIn_of_wp Try.func30 rfl h5 ?_ hro
  simp only [Try.ntmps30, List.size_toArray, List.length_cons, List.length_nil, Nat.reduceAdd, Nat.reduceSub, Array.replicate_succ, Array.replicate_zero, List.push_toArray, List.append_toArray, List.nil_append, List.cons_append]
  gi_wp2
  go_ret
  exact ⟨rfl, rfl⟩

theorem values_stops (F : Fence) (n : Nat) (h7 : F.fn 40) (hro : F.round = none) (hn : 1 ≤ n) (Bs : Nat) (A : Option Addr) (cap n₀ : Nat) (zs : List Int) (hreach : zs.length ≤ 1000000000) (w : World) (_hn₀ : n₀ ≤ w.heap.size)
    (hBs : w.cell? ⟨Bs, 0, none⟩ = some (.slice A zs.length cap)) (hr : RdI w A zs) (hA : 0 < zs.length → ∀ b ∈ fpo A, b < n₀) :
    SeqStopsK F n Try.prog 40 #[.pointer (some ⟨Bs, 0, none⟩)] (fun x : Int => #[Value.int .i64 x]) (Below n₀) (fun ys => ys = zs) (fun pre => ∃ k, k ≤ zs.length ∧ pre = zs.take k) zs.length w := fun l J Jx W hW _ _ hY h0 => by
  have hBl : Bs < w.heap.size := World.block_lt_of_cell? w ⟨Bs, 0, none⟩ hBs
  have hc' := (hW.cell (p := ⟨Bs, 0, none⟩) hBl).trans hBs
  by_cases hz : zs.length = 0
  · obtain rfl := List.eq_nil_of_length_eq_zero hz
    exact (values1_nil_in F n h7 hro l Bs cap A J W hc' h0).mono fun e W' ⟨he, hj⟩ => ⟨he, .inl ⟨_, rfl, hj⟩⟩
  · obtain ⟨ad, rfl, _⟩ := hr.at_ 0 (by omega)
    refine (values1_in F n h7 hro hn l Bs n₀ cap ad zs hreach (hA (by omega) _ (by simp [fpo])) J Jx hY W hc' (fun j hj => ?_) h0)
    obtain ⟨ad', e, hcell⟩ := hr.at_ j hj
    obtain rfl : ad = ad' := by injection e
    have hlt : (ad.add j).block < w.heap.size := World.block_lt_of_cell? w _ hcell
    exact (hW.cell hlt).trans hcell

set_option maxRecDepth 100000 in
set_option maxHeartbeats 2000000 in
/-- slices.AppendSeq(nil, slices.Values(zs)) -/
theorem appendSeq_in (n : Nat) (hn : 3 ≤ n) (Bs : Nat) (A : Option Addr) (cap : Nat) (zs : List Int) (hreach : zs.length ≤ 1000000000) (w : World)
    (hBs : w.cell? ⟨Bs, 0, none⟩ = some (.slice A zs.length cap)) (hr : RdI w A zs) :
    CallsIn Fence.wide n Try.prog 43 #[.slice none 0 0, .func (.func 40) #[] #[.pointer (some ⟨Bs, 0, none⟩)]] w fun e W' =>
      ∃ v, e = .returned v ∧ W'.ownsRow w.heap.size 3 1 v zs.length (zs.map iV) ∧ (v = .slice none 0 0 ↔ zs = []) ∧ Below w.heap.size w W' := by
  have h1 : 1 ≤ n := by omega
  obtain ⟨i0, hi, hz0, hz1, hz2⟩ := info_parts info_int
  have hBl : Bs < w.heap.size := World.block_lt_of_cell? w ⟨Bs, 0, none⟩ hBs
  refine callsIn_of_wp_marks Try.func43 rfl trivial ?_ rfl
  simp only [Try.ntmps43, List.size_toArray, List.length_cons, List.length_nil, Nat.reduceAdd, Nat.reduceSub, Array.replicate_succ, Array.replicate_zero, List.push_toArray, List.append_toArray, List.nil_append, List.cons_append]
  gi_wp2
  have bO := Boxed.new w 31 (.slice none 0 0)
  have hB0 : Below w.heap.size w (w.alloc (.cells #[.slice none 0 0] 31)) := (Below.refl _ w).alloc (Nat.le_refl _) _
  have ta := (Touch.refl [] w).alloc (.cells #[.slice none 0 0] 31)
  refine wpIn_rangeFunc_ownG rfl h1 (gf := 40) (lb := #[.pointer (some ⟨Bs, 0, none⟩)]) rfl trivial (enters_of Try.func40 (by kernel_rfl) rfl)
    (values_stops Fence.wide (n - 1) trivial rfl (by omega) Bs A cap w.heap.size zs hreach (w.alloc (.cells #[.slice none 0 0] 31)) (by simp) (ta.cell hBs (by simp)) (Rd.touch0 hr ta) (fun h0 => Rd.lt hr (by simpa using h0)))
    belowK_t (belowK_b (by simp)) (Below.refl _ _) (fun _ => rfl)
    (fun pre W => (∃ v, Boxed W w.heap.size 31 v ∧ W.ownsRow w.heap.size 3 1 v pre.length (pre.map iV) ∧ (v = .slice none 0 0 ↔ pre = [])) ∧ Below w.heap.size w W)
    (fun _ _ _ => False)
    (OwnFrom.and (Own.from (holdsRow_own w.heap.size w.heap.size 31 3 1 (fun pre : List Int => pre.length) (fun pre : List Int => pre.map iV) (fun pre v => v = .slice none 0 0 ↔ pre = [])) _) (ownFrom_below (Nat.le_refl _) (by simp)))
    (fun _ _ _ _ _ hs _ _ => hs)
    ⟨⟨_, bO, World.ownsRow_nil _ _ _ _, by simp⟩, hB0⟩
    (fun x => { tmps := #[.slice none 0 0, .func (.func 40) #[] #[.pointer (some ⟨Bs, 0, none⟩)], .pointer (some ⟨w.heap.size, 0, none⟩), undef, .slice none 0 0, .int .i64 x, .func (.func 40) #[] #[.pointer (some ⟨Bs, 0, none⟩)], .int .i64 x, undef, undef, undef, undef, undef], defers := [] }) ?assign ?body ?done ?stop
  case assign =>
    intro l x W K hK
    gi_wp2
    exact hK
  case body =>
    rintro l pre x W ⟨⟨v, hv, hrow, hnil⟩, hB⟩ hlt
    have hc := hv.cell
    gi_wp2_with (gi_at_builtin; refine wpListIn_append_own _ rfl _ _ 31 rfl w.heap.size 3 i0 (.int .i64 0) 1 8 Try.underlying31 hi hz0 hz1 hz2 rfl (by decide) _ _ _ rfl (hrow.alloc _) ⟨W.heap.size, 0, none⟩ 1 1 [.int .i64 x] rfl rfl (cell_one_new _ _ _) (by simp [Value.oneCell']) (by unfold maxLen; omega) (by omega) (by have := hB.size; simp; omega) ?_; intro v' w1 hown' hgrow _; obtain ⟨g', cap', rfl⟩ := ownsRow_succ hown'; obtain ⟨hv1, hv2, hr2, hk2, hb2⟩ := hv.appended (by decide) hrow hB.size (Nat.le_refl _) hown' hgrow; have hc1 := hv1.cell; have hf1 := hv1.frozen)
    exact ⟨hk2.from _, hb2, ⟨_, hv2, by simpa using hr2, by simp⟩, hB.trans hb2⟩
  case done =>
    rintro D ys W hD rfl ⟨⟨v, hv, hrow, hnil⟩, hB⟩ hK
    have hc := hv.cell
    gi_wp2
    refine ⟨by simp, .inl ⟨_, _, rfl, run_takeDeferred hK, ?_⟩⟩
    exact ⟨_, results_tmp rfl _ _ _, v, rfl, ownsRow_putObj hrow _ hK rfl, hnil, hB.trans (belowK_b (w := w) (Nat.le_refl _) W D _ _ (by simp at hD; omega) hK rfl rfl)⟩
  case stop =>
    rintro D c pre W _ _ h _
    exact h.elim
end Go.Proofs.Ytmehdlflhllhdaa
