/- The package variables that CronShows lists: what they hold when a call begins; a world that holds them. -/
import Derived.Test.YtoabloeechphkaaDoorCronLaid
import Derived.Test.YtoabloeechphkaaDoorCronTz
namespace Go.Proofs.YtoabloeechphkaaDoor
open Go.ChangeShapes Go.WideShapes Go.ChangeAt Go.RowKit

theorem gTz : Tryd.prog.globalNamed "math/bits.deBruijn64tab" = some 2 := by kernel_rfl
theorem gTzType : (Tryd.prog.globals[2]?).map (·.type) = some 105 := by kernel_rfl
theorem cellsTz : Tryd.prog.cellsOf 105 = 64 := by kernel_rfl
theorem cellsU8 : Tryd.prog.cellsOf 5 = 1 := by kernel_rfl
set_option maxRecDepth 20000 in
theorem gcz_at {W : World} (h : laidMetH Tryd.prog [("math/bits.deBruijn32tab", Rows.laid_math_bits_deBruijn32tab), ("math/bits.deBruijn64tab", Rows.laid_math_bits_deBruijn64tab), ("internal/strconv.uint64pow10", Rows.laid_internal_strconv_uint64pow10), ("unicode/utf8.acceptRanges", Rows.laid_unicode_utf8_acceptRanges), ("bywash/calendar.lengths", Rows.laid_bywash_calendar_lengths), ("bywash/cron.bounds", Rows.laid_bywash_cron_bounds), ("unicode/utf8.first", Rows.laid_unicode_utf8_first)] W) (hsh : W.ShapedOpen Tryd.prog) : Gc W ∧ Gz W := by
  have h' : laidMet Tryd.prog [("math/bits.deBruijn32tab", Rows.laid_math_bits_deBruijn32tab), ("math/bits.deBruijn64tab", Rows.laid_math_bits_deBruijn64tab), ("internal/strconv.uint64pow10", Rows.laid_internal_strconv_uint64pow10), ("unicode/utf8.acceptRanges", Rows.laid_unicode_utf8_acceptRanges), ("bywash/calendar.lengths", Rows.laid_bywash_calendar_lengths), ("bywash/cron.bounds", Rows.laid_bywash_cron_bounds), ("unicode/utf8.first", Rows.laid_unicode_utf8_first)] W := h
  obtain ⟨ps, ⟨ga, ta, csa, fa, pa, qa, _, _, _, _, ⟨gb, tb, csb, fb, pb, qb, hgb, htyb, hvarb, hdb, ⟨gc, tc, csc, fc, pc, qc, _, _, _, _, ⟨g0, t0, cs0, fuel0, p0, q0, _, _, _, _, ⟨g1, t1, cs1, fuel1, p1, q1, hg, hty, hvar, hd, ⟨g2, t2, cs2, fuel2, p2, q2, hg2, hty2, hvar2, hd2, _⟩, _⟩, _⟩, _⟩, _⟩, _⟩, _⟩ := h'
  obtain rfl := Option.some.inj (gLen.symm.trans hg)
  obtain rfl := Option.some.inj (gLenType.symm.trans hty)
  obtain rfl := Option.some.inj (gBnd.symm.trans hg2)
  obtain rfl := Option.some.inj (gBndType.symm.trans hty2)
  have hc := Lib.cells_of_tab (k := .i64) (zs := [0, 31, 28, 31, 30, 31, 30, 31, 31, 30, 31, 30, 31]) Tryd.underlying91 Tryd.underlying3 cellsI cellsL hd
  have hcell := World.var?_cell gLen hvar
  have hcell2 := World.var?_cell gBnd hvar2
  obtain ⟨xs, m, hm, hx, hcl, hxl, hat⟩ := DataW.trod_array Tryd.underlying83 hd2
  have hx1 : xs.map (·.1) = [.agg [.lit (.int .i64 0), .lit (.int .i64 59)], .agg [.lit (.int .i64 0), .lit (.int .i64 23)], .agg [.lit (.int .i64 1), .lit (.int .i64 31)], .agg [.lit (.int .i64 1), .lit (.int .i64 12)], .agg [.lit (.int .i64 0), .lit (.int .i64 6)]] := by
    have := congrArg Prod.fst hx
    simp only [Rows.laid_bywash_cron_bounds, DataW.agg.injEq] at this
    exact this.symm
  have hb : ∀ i, i < 5 → (cs2.toList.drop (i * 2)).take 2 = [Value.int .i64 (loF i : Nat), Value.int .i64 (hiF i : Nat)] := fun i hi => by
    have h1 := hat i hi
    rw [cellsB2] at h1
    have hi2 : i < xs.length := by omega
    have hxi : (xs.map (·.1))[i]? = some (xs[i].1) := by rw [List.getElem?_map, List.getElem?_eq_getElem hi2]; rfl
    rw [hx1] at hxi
    rw [List.getElem?_eq_getElem hi2] at h1
    obtain ⟨⟨d, pp⟩, hdp⟩ : ∃ q, q = xs[i] := ⟨_, rfl⟩
    rw [← hdp] at hxi h1
    have : i = 0 ∨ i = 1 ∨ i = 2 ∨ i = 3 ∨ i = 4 := by omega
    have key : ∀ (lo hi : Nat), d = .agg [.lit (.int .i64 lo), .lit (.int .i64 hi)] → (cs2.toList.drop (i * 2)).take 2 = [Value.int .i64 lo, Value.int .i64 hi] := fun lo hi e => by
      subst e
      exact Lib.cells_of_tab (k := .i64) (zs := [(lo : Int), (hi : Int)]) Tryd.underlying82 Tryd.underlying3 cellsI cellsB2 h1
    clear hat
    rcases this with rfl | rfl | rfl | rfl | rfl
    · exact key 0 59 (by simpa using hxi.symm)
    · exact key 0 23 (by simpa using hxi.symm)
    · exact key 1 31 (by simpa using hxi.symm)
    · exact key 1 12 (by simpa using hxi.symm)
    · exact key 0 6 (by simpa using hxi.symm)
  have hb0 : ∀ i, i < 5 → ∀ j, j < 2 → cs2[i * 2 + j]? = ([Value.int .i64 (loF i : Nat), Value.int .i64 (hiF i : Nat)] : List Value)[j]? := fun i hi j hj => by
    have := congrArg (fun l : List Value => l[j]?) (hb i hi)
    simp only [List.getElem?_take, List.getElem?_drop, if_pos hj] at this
    rw [← this]
    simp
  obtain rfl := Option.some.inj (gTz.symm.trans hgb)
  obtain rfl := Option.some.inj (gTzType.symm.trans htyb)
  have hcb := Lib.cells_of_tab (k := .u8) (zs := Lib.deBruijn64tab.map fun (n : Nat) => (n : Int)) Tryd.underlying105 Tryd.underlying5 cellsU8 cellsTz hdb
  have hcellb := World.var?_cell gTz hvarb
  refine ⟨?_, fun j hj => ?_⟩
  rotate_left
  · rw [hcellb]
    have h1 : csb[j]? = (((Lib.deBruijn64tab.map fun (n : Nat) => (n : Int)).map fun z => Value.int .u8 z))[j]? := by rw [← hcb]; simp
    have hl : j < Lib.deBruijn64tab.length := by rw [show Lib.deBruijn64tab.length = 64 from rfl]; exact hj
    rw [h1]
    simp [List.getElem?_map, List.getElem?_eq_getElem hl, List.getD]
  refine ⟨fun f hf => ?_, fun f hf => ?_, fun k hk => ?_, cell_of_shapedOpen_int (zero := #[.int .i64 0]) (t := 3) hsh (of_decide_eq_true (by kernel_rfl)) (by kernel_rfl) rfl (by kernel_rfl) (by kernel_rfl) Tryd.underlying3⟩
  · rw [hcell2]; have := hb0 f hf 0 (by omega); simpa using this
  · rw [hcell2]; have := hb0 f hf 1 (by omega); simpa using this
  · rw [hcell]
    have hc' : cs1[k]? = (([0, 31, 28, 31, 30, 31, 30, 31, 31, 30, 31, 30, 31] : List Int).map fun z => Value.int .i64 z)[k]? := by rw [← hc]; simp
    have hk' : k = 0 ∨ k = 1 ∨ k = 2 ∨ k = 3 ∨ k = 4 ∨ k = 5 ∨ k = 6 ∨ k = 7 ∨ k = 8 ∨ k = 9 ∨ k = 10 ∨ k = 11 ∨ k = 12 := by omega
    rcases hk' with rfl | rfl | rfl | rfl | rfl | rfl | rfl | rfl | rfl | rfl | rfl | rfl | rfl <;> simpa [lenM] using hc'


/-- a world for the witness: the settled one, the variables holding what their initialisers lay -/
noncomputable def laidWorld7 (os : Os) : World :=
  { laidWorld os with
    heap := setRow (setRow (setRow (laidWorld os).heap 7 (cellsOfData Rows.laid_math_bits_deBruijn32tab)) 2 (cellsOfData Rows.laid_math_bits_deBruijn64tab)) 6 (cellsOfData Rows.laid_internal_strconv_uint64pow10) }
end Go.Proofs.YtoabloeechphkaaDoor
