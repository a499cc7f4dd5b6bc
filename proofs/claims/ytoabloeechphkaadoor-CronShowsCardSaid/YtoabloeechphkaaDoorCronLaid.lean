/- The package variables of layers 9 and 10 as the rows list them; a world that holds them; a spec, a stretch that came in. -/
import Derived.Test.YtoabloeechphkaaDoorCronAwake
import Derived.Test.YtoabloeechphkaaDoorRows
import Derived.ProofKit
import Derived.OpenShut
import Derived.ChangeArms
import Derived.Deep.DeepHandedRow
import Derived.Lib.LaidTab
import Derived.Lib.LaidIn
import GoSem.PinnedTables
namespace Go.Proofs.YtoabloeechphkaaDoor
open Go.ChangeShapes Go.WideShapes Go.ChangeAt Go.RowKit

theorem gLen : Tryd.prog.globalNamed "bywash/calendar.lengths" = some 1 := by kernel_rfl
theorem gLenType : (Tryd.prog.globals[1]?).map (·.type) = some 91 := by kernel_rfl
theorem gBnd : Tryd.prog.globalNamed "bywash/cron.bounds" = some 0 := by kernel_rfl
theorem gBndType : (Tryd.prog.globals[0]?).map (·.type) = some 83 := by kernel_rfl
theorem cellsL : Tryd.prog.cellsOf 91 = 13 := by kernel_rfl
theorem cellsB : Tryd.prog.cellsOf 83 = 10 := by kernel_rfl
theorem cellsB2 : Tryd.prog.cellsOf 82 = 2 := by kernel_rfl
theorem cellsI : Tryd.prog.cellsOf 3 = 1 := by kernel_rfl
theorem cellsU : Tryd.prog.cellsOf 23 = 1 := by kernel_rfl
theorem cellsBo : Tryd.prog.cellsOf 4 = 1 := by kernel_rfl
theorem cellsSp : Tryd.prog.cellsOf 27 = 10 := by kernel_rfl
theorem cellsS5 : Tryd.prog.cellsOf 24 = 5 := by kernel_rfl
theorem cellsA5 : Tryd.prog.cellsOf 25 = 5 := by kernel_rfl

theorem gc_at {W : World} (h : laidMetH Tryd.prog [("unicode/utf8.acceptRanges", Rows.laid_unicode_utf8_acceptRanges), ("bywash/calendar.lengths", Rows.laid_bywash_calendar_lengths), ("bywash/cron.bounds", Rows.laid_bywash_cron_bounds), ("unicode/utf8.first", Rows.laid_unicode_utf8_first)] W) (hsh : W.ShapedOpen Tryd.prog) : Gc W := by
  have h' : laidMet Tryd.prog [("unicode/utf8.acceptRanges", Rows.laid_unicode_utf8_acceptRanges), ("bywash/calendar.lengths", Rows.laid_bywash_calendar_lengths), ("bywash/cron.bounds", Rows.laid_bywash_cron_bounds), ("unicode/utf8.first", Rows.laid_unicode_utf8_first)] W := h
  obtain ⟨ps, ⟨g0, t0, cs0, fuel0, p0, q0, _, _, _, _, ⟨g1, t1, cs1, fuel1, p1, q1, hg, hty, hvar, hd, ⟨g2, t2, cs2, fuel2, p2, q2, hg2, hty2, hvar2, hd2, _⟩, _⟩, _⟩, _⟩ := h'
  obtain rfl := Option.some.inj (gLen.symm.trans hg)
  obtain rfl := Option.some.inj (gLenType.symm.trans hty)
  obtain rfl := Option.some.inj (gBnd.symm.trans hg2)
  obtain rfl := Option.some.inj (gBndType.symm.trans hty2)
  have hc := Lib.cells_of_tab (k := .i64) (zs := [0, 31, 28, 31, 30, 31, 30, 31, 31, 30, 31, 30, 31]) Tryd.underlying91 Tryd.underlying3 cellsI cellsL hd
  have hcell := World.var?_cell gLen hvar
  have hcell2 := World.var?_cell gBnd hvar2
  obtain ⟨xs, m, hm, hx, hcl, hxl, hat⟩ := DataW.trod_array Tryd.underlying83 hd2
  have hx1 : xs.map (·.1) = [.agg [.lit (.int .i64 0), .lit (.int .i64 59)], .agg [.lit (.int .i64 0), .lit (.int .i64 23)], .agg [.lit (.int .i64 1), .lit (.int .i64 31)], .agg [.lit (.int .i64 1), .lit (.int .i64 12)], .agg [.lit (.int .i64 0), .lit (.int .i64 6)]] := by
    have := congrArg Prod.fst hx
    simp only [Rows.laid_bywash_cron_bounds, DataW.agg.injEq] at this
    exact this.symm
  have hb : ∀ i, i < 5 → (cs2.toList.drop (i * 2)).take 2 = [Value.int .i64 (loF i : Nat), Value.int .i64 (hiF i : Nat)] := fun i hi => by
    have h1 := hat i hi
    rw [cellsB2] at h1
    have hi2 : i < xs.length := by omega
    have hxi : (xs.map (·.1))[i]? = some (xs[i].1) := by rw [List.getElem?_map, List.getElem?_eq_getElem hi2]; rfl
    rw [hx1] at hxi
    rw [List.getElem?_eq_getElem hi2] at h1
    obtain ⟨⟨d, pp⟩, hdp⟩ : ∃ q, q = xs[i] := ⟨_, rfl⟩
    rw [← hdp] at hxi h1
    have : i = 0 ∨ i = 1 ∨ i = 2 ∨ i = 3 ∨ i = 4 := by omega
    have key : ∀ (lo hi : Nat), d = .agg [.lit (.int .i64 lo), .lit (.int .i64 hi)] → (cs2.toList.drop (i * 2)).take 2 = [Value.int .i64 lo, Value.int .i64 hi] := fun lo hi e => by
      subst e
      exact Lib.cells_of_tab (k := .i64) (zs := [(lo : Int), (hi : Int)]) Tryd.underlying82 Tryd.underlying3 cellsI cellsB2 h1
    clear hat
    rcases this with rfl | rfl | rfl | rfl | rfl
    · exact key 0 59 (by simpa using hxi.symm)
    · exact key 0 23 (by simpa using hxi.symm)
    · exact key 1 31 (by simpa using hxi.symm)
    · exact key 1 12 (by simpa using hxi.symm)
    · exact key 0 6 (by simpa using hxi.symm)
  have hb0 : ∀ i, i < 5 → ∀ j, j < 2 → cs2[i * 2 + j]? = ([Value.int .i64 (loF i : Nat), Value.int .i64 (hiF i : Nat)] : List Value)[j]? := fun i hi j hj => by
    have := congrArg (fun l : List Value => l[j]?) (hb i hi)
    simp only [List.getElem?_take, List.getElem?_drop, if_pos hj] at this
    rw [← this]
    simp
  refine ⟨fun f hf => ?_, fun f hf => ?_, fun k hk => ?_, cell_of_shapedOpen_int (zero := #[.int .i64 0]) (t := 3) hsh (of_decide_eq_true (by kernel_rfl)) (by kernel_rfl) rfl (by kernel_rfl) (by kernel_rfl) Tryd.underlying3⟩
  · rw [hcell2]; have := hb0 f hf 0 (by omega); simpa using this
  · rw [hcell2]; have := hb0 f hf 1 (by omega); simpa using this
  · rw [hcell]
    have hc' : cs1[k]? = (([0, 31, 28, 31, 30, 31, 30, 31, 31, 30, 31, 30, 31] : List Int).map fun z => Value.int .i64 z)[k]? := by rw [← hc]; simp
    have hk' : k = 0 ∨ k = 1 ∨ k = 2 ∨ k = 3 ∨ k = 4 ∨ k = 5 ∨ k = 6 ∨ k = 7 ∨ k = 8 ∨ k = 9 ∨ k = 10 ∨ k = 11 ∨ k = 12 := by omega
    rcases hk' with rfl | rfl | rfl | rfl | rfl | rfl | rfl | rfl | rfl | rfl | rfl | rfl | rfl <;> simpa [lenM] using hc'

section
variable {H : Type} {enc : TypeId × Value → H} {w : World} {base : Nat} {spare : Nat → Bool} {held : Bool}
set_option maxRecDepth 20000 in
theorem open_spec {v : Value} {r : Reach} {b0 fuel : Nat} {x : DataW H × List MemPlace} (hv : Value.okWide Tryd.prog w r b0 27 v) (h : DataW.trod enc Tryd.prog w base spare held fuel 27 v.cells.toList = some x) : ∃ c : SD, v = c.val ∧ c.Ok := by
  obtain ⟨cs, rfl, hsz⟩ := okWide_struct Tryd.underlying27 hv
  rw [cellsSp] at hsz
  obtain ⟨xs, n, -, -, -, hxl, hf⟩ := DataW.trod_struct Tryd.underlying27 h
  simp only [Value.cells] at hf
  have h0 : DataW.trod enc Tryd.prog w base spare held n 24 ((cs.toList.drop 0).take (Tryd.prog.cellsOf 24)) = xs[0]? := hf 0 _ rfl
  have h1 : DataW.trod enc Tryd.prog w base spare held n 25 ((cs.toList.drop 5).take (Tryd.prog.cellsOf 25)) = xs[1]? := hf 1 _ rfl
  rw [List.getElem?_eq_getElem (by simp at hxl; omega)] at h0 h1
  rw [cellsS5] at h0
  rw [cellsA5] at h1
  obtain ⟨ys, m, -, -, -, hyl, hy⟩ := DataW.trod_array Tryd.underlying24 h0
  obtain ⟨zs, k, -, -, -, hzl, hz⟩ := DataW.trod_array Tryd.underlying25 h1
  rw [cellsU] at hy
  rw [cellsBo] at hz
  have key : ∀ i, i < 5 → ∃ q : Nat, q < 18446744073709551616 ∧ cs[i]? = some (.int .u64 (q : Int)) := fun i hi => by
    have h2 := hy i hi
    rw [List.getElem?_eq_getElem (by omega)] at h2
    obtain ⟨z, hz1, -, hwf⟩ := DataW.trod_int Tryd.underlying23 h2
    have hb : 0 ≤ z ∧ z ≤ 18446744073709551615 := by simpa [Lit.wf, IntKind.min, IntKind.max, IntKind.signed, IntKind.bits] using hwf
    have e := congrArg (fun l : List Value => l[0]?) hz1
    obtain ⟨q, rfl⟩ := Int.eq_ofNat_of_zero_le hb.1
    refine ⟨q, by omega, ?_⟩
    simpa [List.getElem?_take, List.getElem?_drop, hi] using e
  have key2 : ∀ i, i < 5 → ∃ b : Bool, cs[5 + i]? = some (.bool b) := fun i hi => by
    have h2 := hz i hi
    rw [List.getElem?_eq_getElem (by omega)] at h2
    obtain ⟨b, hz1, -⟩ := DataW.trod_bool Tryd.underlying4 h2
    have e := congrArg (fun l : List Value => l[0]?) hz1
    refine ⟨b, ?_⟩
    simpa [List.getElem?_take, List.getElem?_drop, hi] using e
  obtain ⟨q0, l0, e0⟩ := key 0 (by omega)
  obtain ⟨q1, l1, e1⟩ := key 1 (by omega)
  obtain ⟨q2, l2, e2⟩ := key 2 (by omega)
  obtain ⟨q3, l3, e3⟩ := key 3 (by omega)
  obtain ⟨q4, l4, e4⟩ := key 4 (by omega)
  obtain ⟨b0, f0⟩ := key2 0 (by omega)
  obtain ⟨b1, f1⟩ := key2 1 (by omega)
  obtain ⟨b2, f2⟩ := key2 2 (by omega)
  obtain ⟨b3, f3⟩ := key2 3 (by omega)
  obtain ⟨b4, f4⟩ := key2 4 (by omega)
  refine ⟨⟨fun i => if i = 0 then q0 else if i = 1 then q1 else if i = 2 then q2 else if i = 3 then q3 else q4, fun i => if i = 0 then b0 else if i = 1 then b1 else if i = 2 then b2 else if i = 3 then b3 else b4⟩, ?_, fun f hf => ?_⟩
  · unfold SD.val SD.row
    congr 1
    apply Array.ext_getElem?
    intro i
    by_cases hi : i < 10
    · have : i = 0 ∨ i = 1 ∨ i = 2 ∨ i = 3 ∨ i = 4 ∨ i = 5 ∨ i = 6 ∨ i = 7 ∨ i = 8 ∨ i = 9 := by omega
      rcases this with rfl | rfl | rfl | rfl | rfl | rfl | rfl | rfl | rfl | rfl
      · rw [e0]; rfl
      · rw [e1]; rfl
      · rw [e2]; rfl
      · rw [e3]; rfl
      · rw [e4]; rfl
      · rw [f0]; rfl
      · rw [f1]; rfl
      · rw [f2]; rfl
      · rw [f3]; rfl
      · rw [f4]; rfl
    · rw [Array.getElem?_eq_none (by omega), Array.getElem?_eq_none (by simp; omega)]
  · have : f = 0 ∨ f = 1 ∨ f = 2 ∨ f = 3 ∨ f = 4 := by omega
    rcases this with rfl | rfl | rfl | rfl | rfl <;> simpa using by assumption
end

/-- a listed table's cells -/
def cellsOfData : DataW Unit → List Value
  | .agg l => l.flatMap fun d => match d with
    | .lit (.int k z) => [.int k z]
    | .lit (.string s) => [.string ⟨s.toArray⟩]
    | .agg m => m.flatMap fun d => match d with
      | .lit (.int k z) => [.int k z]
      | _ => []
    | _ => []
  | _ => []
/-- a row of cells gets these values -/
def setRow (h : Array Obj) (g : Nat) (cs : List Value) : Array Obj := h.modify g fun o => match o with
  | .cells _ t frozen => .cells cs.toArray t frozen
  | o => o
/-- a world for the witness: the settled one, the variables holding what their initialisers lay -/
noncomputable def laidWorld (os : Os) : World :=
  { World.holding Tryd.prog os ⟨#[], #[], []⟩ with
    heap := setRow (setRow (setRow (setRow (World.holding Tryd.prog os ⟨#[], #[], []⟩).heap 4 (cellsOfData Rows.laid_unicode_utf8_acceptRanges)) 1 (cellsOfData Rows.laid_bywash_calendar_lengths)) 0 (cellsOfData Rows.laid_bywash_cron_bounds)) 3 (cellsOfData Rows.laid_unicode_utf8_first) }
end Go.Proofs.YtoabloeechphkaaDoor
