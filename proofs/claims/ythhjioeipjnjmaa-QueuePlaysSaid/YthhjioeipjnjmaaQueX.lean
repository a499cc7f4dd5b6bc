/- queue.New: the walk. For every items. -/
import Derived.Test.YthhjioeipjnjmaaQueV
namespace Go.Proofs.Ythhjioeipjnjmaa
open Go.RowKit

/-- the list behind the first k items -/
def newQ (xs : List QE) : Nat → List QE
  | 0 => []
  | k + 1 => match xs[k]? with
    | some x => insQ (dropQ (newQ xs k) x.asset x.index) { x with put := ((k + 1 : Nat) : Int) }
    | none => newQ xs k
theorem newQ_succ {xs : List QE} {k : Nat} (h : k < xs.length) : newQ xs (k + 1) = insQ (dropQ (newQ xs k) xs[k].asset xs[k].index) { xs[k] with put := ((k + 1 : Nat) : Int) } := by
  show (match xs[k]? with | some x => _ | none => _) = _
  rw [List.getElem?_eq_getElem h]
theorem newQ_len (xs : List QE) (k : Nat) : (newQ xs k).length ≤ k := by
  induction k with
  | zero => exact Nat.le_refl _
  | succ k ih =>
    unfold newQ
    split
    · have h1 := (insQ_perm (dropQ (newQ xs k) (by assumption : QE).asset (by assumption : QE).index) { (by assumption : QE) with put := ((k + 1 : Nat) : Int) }).length_eq
      rw [h1, List.length_cons]
      have h2 : (dropQ (newQ xs k) (by assumption : QE).asset (by assumption : QE).index).length ≤ (newQ xs k).length := List.length_filter_le _ _
      omega
    · omega

theorem QIs.fresh (w : World) : QIs ((w.alloc (.map #[] 0)).alloc (.cells #[.slice none 0 0, .map (some w.heap.size), .int .i64 0] 53)) (w.heap.size + 1) [w.heap.size + 1, w.heap.size] [] 0 := by
  have hb := heap_alloc_new (w.alloc (.map #[] 0)) (.cells #[.slice none 0 0, .map (some w.heap.size), .int .i64 0] 53)
  rw [World.size_alloc] at hb
  refine ⟨w.heap.size, none, 0, [], [], rfl, ⟨⟨hb, EsAt.nil _, by simp [efp, fpo]⟩, ?_, by simp, by omega, by simp [efp, fpo], fun k h0 h1 => by simp at h1, by simp, InOrd.nil _, by simp, by simp⟩⟩
  exact (MapAt.made w).touch ((Touch.refl [] _).alloc _) (by simp)

/-- what a call of New hands out -/
def NewPost (xs : List QE) (w : World) (e : Ending) (w' : World) : Prop := ∃ g fp, e = .returned (.pointer (some ⟨g, 0, none⟩)) ∧ QIs w' g fp (newQ xs xs.length) xs.length ∧ Touch [] w w' ∧ ∀ b ∈ fp, w.heap.size ≤ b

set_option maxRecDepth 20000 in
set_option maxHeartbeats 3200000 in
theorem new_any (A : Option Addr) (c n : Nat) (xs : List QE) (hn : xs.length = n) (hl : n ≤ 50000) (hok : ∀ x ∈ xs, x.Ok) (w : World) (hr : RdK itE w A xs) :
    Calls Try.prog 8 #[.slice A n c] w (NewPost xs w) := by
  subst hn
  have hf := QIs.fresh w
  have t0 := ((Touch.refl [] w).alloc (.map #[] 0)).alloc (.cells #[.slice none 0 0, .map (some w.heap.size), .int .i64 0] 53)
  have Hf := Lib.hid hf
  have Hr := Lib.hid hr
  have Hok := Lib.hid hok
  clear hf hr hok
  have hmk : ∀ W : World, (Instr.makeMap 49 none).run Try.prog W = .ok (.map (some W.heap.size)) (W.alloc (.map #[] 0)) := fun W => by simp [Instr.makeMap, Result.andThen]
  go_enter Try.func8, Try.ntmps8
  go_wp2_with fail
  go_loopw [11] (fun i wr => ∃ (k : Nat) (fp : List Nat), k ≤ xs.length ∧ i = .int .i64 k ∧ QIs wr (w.heap.size + 1) fp (newQ xs k) k ∧ Touch [] w wr ∧ ∀ b ∈ fp, w.heap.size ≤ b) (fun i _ => xs.length - (intOf i).toNat)
  case atStart => exact ⟨0, _, by omega, rfl, Hf.out, t0, fun b hb => by simp at hb; omega⟩
  case round =>
    obtain ⟨k, fp, hk, rfl, hq, ht, hfp⟩ := hrel
    by_cases hlt : k < xs.length
    · obtain ⟨ad, b, off, rfl, hadd, hbb, hcell⟩ := (Hr.out.touch0 ht).at_ 4 itE_length (by omega) k hlt
      have e0 := hcell 0 (.string xs[k].asset) rfl
      have e1 := hcell 1 (.int .i64 xs[k].index) rfl
      have e2 := hcell 2 (.int .i64 xs[k].due) rfl
      have e3 := hcell 3 (.int .i64 xs[k].rank) rfl
      have hoff : off + 0 = off := by omega
      rw [hoff] at e0
      have hns := newQ_succ hlt
      have hokx := Hok.out xs[k] (List.getElem_mem hlt)
      obtain ⟨x, hx⟩ : ∃ x, x = xs[k] := ⟨_, rfl⟩
      rw [← hx] at e0 e1 e2 e3 hns hokx
      have hlen := newQ_len xs k
      have hkI : (k : Int) < (xs.length : Int) := by omega
      have ta := (Touch.refl [] wr).alloc (.cells #[.string x.asset, .int .i64 x.index, .int .i64 x.due, .int .i64 x.rank] 28)
      have hput := put_any (w.heap.size + 1) fp (newQ xs k) k x hokx (by omega) (by omega) _ (hq.touch0 ta)
      rw [← hns] at hput
      unfold itV at hput
      have Hput := Lib.hid hput
      have H := Lib.hid (And.intro ht (And.intro hfp ta))
      have hws := ht.size
      clear hput hns hx hq ht hfp ta hcell hbb hokx hoff hlen
      go_wp2_with fail
      refine Hput.out.mono ?_
      rintro e w2 ⟨rfl, fp', hq2, t2, hf2⟩
      have H2 := Lib.hid (And.intro hq2 (And.intro t2 hf2))
      clear hq2 t2 hf2
      go_wp2_with fail
      go_roundw
      case rel =>
        obtain ⟨ht, hfp, ta⟩ := H.out
        obtain ⟨hq2, t2, hf2⟩ := H2.out
        refine ⟨k + 1, fp', by omega, by go_num, hq2, (ht.trans0 ta).trans t2 (fun b hb => .inr (hfp b hb)), fun b hb => ?_⟩
        rcases hf2 b hb with h1 | h1
        · exact hfp b h1
        · rw [World.size_alloc] at h1; omega
      case measure => simp [intOf]; omega
    · obtain rfl : k = xs.length := by omega
      have H := Lib.hid (And.intro hq (And.intro ht hfp))
      clear hq ht hfp
      go_wp2_with fail
      go_ret
      exact ⟨_, fp, rfl, H.out.1, H.out.2.1, H.out.2.2⟩
end Go.Proofs.Ythhjioeipjnjmaa
