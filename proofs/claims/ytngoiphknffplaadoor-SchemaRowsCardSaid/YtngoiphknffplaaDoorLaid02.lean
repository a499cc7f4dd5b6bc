/- The package variables of layer 2 as the rows list them: what they hold when a call begins; a world that holds them. -/
import Derived.Test.YtngoiphknffplaaDoorSchAwake
import Derived.Test.YtngoiphknffplaaDoorRows
import Derived.Deep.DeepHandedRow
import Derived.Lib.LaidTab
import Derived.Lib.LaidIn
import GoSem.PinnedTables
namespace Go.Proofs.YtngoiphknffplaaDoor
open Go.ChangeShapes Go.WideShapes Go.ChangeAt Go.RowKit

/-- an array of texts that reads as these holds these -/
theorem cells_of_strs {H : Type} {enc : TypeId × Value → H} {P : Program} {w : World} {base : Nat} {sp : Nat → Bool} {held : Bool} {fuel : Nat} {t e : TypeId} {n : Nat} {cs : List Value} {ls : List (List UInt8)} {p : List MemPlace}
    (ht : P.underlying t = some (.array n e)) (he : P.underlying e = some .string) (hce : P.cellsOf e = 1) (hct : P.cellsOf t = n)
    (h : DataW.trod enc P w base sp held fuel t cs = some (DataW.agg (ls.map fun l => (DataW.lit (Lit.string l) : DataW H)), p)) : ∀ (i : Nat) (l : List UInt8), ls[i]? = some l → cs[i]? = some (Value.string (S l)) := by
  cases fuel with
  | zero => simp [DataW.trod] at h
  | succ fuel =>
    simp only [DataW.trod, ht, hce, hct, Nat.mul_one] at h
    split at h
    · obtain ⟨xs, hm, hx⟩ := Option.map_eq_some_iff.1 h
      have hxs : xs.map (·.1) = ls.map fun l => (DataW.lit (.string l) : DataW H) := by
        have := congrArg Prod.fst hx
        simpa using this
      have hxl : xs.length = n := by simpa using Lib.mapM_length hm
      intro i l hl
      have hil : i < n := by
        have h1 := (List.getElem?_eq_some_iff.1 hl).1
        have h2 := congrArg List.length hxs
        simp at h2
        omega
      obtain ⟨b, hb, hf⟩ := Lib.mapM_at hm i i (by simp [hil])
      obtain ⟨s, hc, hd, _⟩ := DataW.trod_string he hf
      have h2 : (xs.map (·.1))[i]? = some b.1 := by simp [hb]
      rw [hxs, List.getElem?_map, hl] at h2
      simp only [Option.map_some, Option.some.injEq] at h2
      rw [hd] at h2
      simp only [DataW.lit.injEq, Lit.string.injEq] at h2
      have hcs : cs[i]? = some (.string s) := by
        have := congrArg (·[0]?) hc
        simpa [List.getElem?_take, List.getElem?_drop] using this
      rw [hcs, h2, S_of]
    · cases h

theorem gWords : Tryd.prog.globalNamed "bywash/schema.words" = some 0 := by kernel_rfl
theorem gWordsType : (Tryd.prog.globals[0]?).map (·.type) = some 68 := by kernel_rfl
theorem cellsWords : Tryd.prog.cellsOf 68 = 3 := by kernel_rfl
theorem cellsStr : Tryd.prog.cellsOf 9 = 1 := by kernel_rfl
theorem gs_at {W : World} (h : laidMetH Tryd.prog [("unicode/utf8.acceptRanges", Rows.laid_unicode_utf8_acceptRanges), ("bywash/schema.words", Rows.laid_bywash_schema_words), ("unicode/utf8.first", Rows.laid_unicode_utf8_first)] W) (hsh : W.ShapedOpen Tryd.prog) : Gs W := by
  have h' : laidMet Tryd.prog [("unicode/utf8.acceptRanges", Rows.laid_unicode_utf8_acceptRanges), ("bywash/schema.words", Rows.laid_bywash_schema_words), ("unicode/utf8.first", Rows.laid_unicode_utf8_first)] W := h
  obtain ⟨ps, ⟨g0, t0, cs0, fuel0, p0, q0, _, _, _, _, ⟨g1, t1, cs1, fuel1, p1, q1, hg, hty, hvar, hd, _⟩, _⟩, _⟩ := h'
  obtain rfl := Option.some.inj (gWords.symm.trans hg)
  obtain rfl := Option.some.inj (gWordsType.symm.trans hty)
  have hc := cells_of_strs (ls := [[], [105, 110, 116], [116, 101, 120, 116]]) Tryd.underlying68 Tryd.underlying9 cellsStr cellsWords hd
  have hcell := World.var?_cell gWords hvar
  have hl : ∀ (i : Nat) (l : List UInt8), ([[], [105, 110, 116], [116, 101, 120, 116]] : List (List UInt8))[i]? = some l → W.cell? ⟨0, i, none⟩ = some (Value.string (S l)) := fun i l hi => by
    rw [hcell i]
    have := hc i l hi
    simpa using this
  exact ⟨hl 0 _ rfl, hl 1 _ rfl, hl 2 _ rfl, Tryd.laysM143.s1_3 W hsh⟩

/-- a listed table's cells -/
def cellsOfData : DataW Unit → List Value
  | .agg l => l.flatMap fun d => match d with
    | .lit (.int k z) => [.int k z]
    | .lit (.string s) => [.string ⟨s.toArray⟩]
    | .agg m => m.flatMap fun d => match d with
      | .lit (.int k z) => [.int k z]
      | _ => []
    | _ => []
  | _ => []
/-- a row of cells gets these values -/
def setRow (h : Array Obj) (g : Nat) (cs : List Value) : Array Obj := h.modify g fun o => match o with
  | .cells _ t frozen => .cells cs.toArray t frozen
  | o => o
/-- a world for the witness: the settled one, the variables holding what their initialisers lay -/
noncomputable def laidWorld (os : Os) : World :=
  { World.holding Tryd.prog os ⟨#[], #[], []⟩ with
    heap := setRow (setRow (setRow (World.holding Tryd.prog os ⟨#[], #[], []⟩).heap 3 (cellsOfData Rows.laid_unicode_utf8_acceptRanges)) 0 (cellsOfData Rows.laid_bywash_schema_words)) 2 (cellsOfData Rows.laid_unicode_utf8_first) }
end Go.Proofs.YtngoiphknffplaaDoor
