/- A region that draws its order, reads old cells and calls what only makes memory: one walk in the order of the text. No condition. -/
import Derived.Test.YthhjioeipjnjmaaBase
import Derived.Deep.QuietTactic
import Derived.BigQuiet
namespace Go.Proofs.Ythhjioeipjnjmaa
open Go.RowKit

/-- a world in which all that lay in W lies as it lay -/
structure TW (W : World) where
  w : World
  t : Touch [] W w
instance (W : World) : Nonempty (TW W) := ⟨⟨W, Touch.refl _ _⟩⟩
theorem TW.cell {W : World} {a : Addr} {v : Value} (h : W.cell? a = some v) : ∀ x : TW W, x.w.cell? a = some v := fun x => x.t.cell h (by simp)
theorem Calls.tw {P : Program} {f : FuncId} {args : Array Value} {W : World} {v : Value} (x : TW W) (h : Calls P f args x.w fun e w' => e = .returned v ∧ Touch [] x.w w') :
    Calls P f args x.w fun e w' => e = .returned v ∧ ∃ y : TW W, w' = y.w :=
  h.mono fun _ w' ⟨he, ht⟩ => ⟨he, ⟨w', x.t.trans0 ht⟩, rfl⟩
theorem Calls.tw_same {P : Program} {f : FuncId} {args : Array Value} {W : World} {v : Value} (x : TW W) (h : Calls P f args x.w fun e w' => e = .returned v ∧ x.w = w') :
    Calls P f args x.w fun e w' => e = .returned v ∧ ∃ y : TW W, w' = y.w :=
  h.mono fun _ _ ⟨he, ht⟩ => ⟨he, x, ht.symm⟩
theorem wp_region_tw {P : Program} {id : Nat} {Q : Exit → Act → World → Prop} {a : Act} {w : World} {l : List Oper} (W : World) (hW : Touch [] W w) (hm : P.follows .mixedOrders = true) (hB : Region.lexB .any l.toArray = true)
    (h : wpQuiet P l.toArray (fun w' => ∃ x : TW W, w' = x.w) (fun a' => ∀ w', (∃ x : TW W, w' = x.w) → Q .normal a' w') l a) : (Code.region id l.toArray true).wp P Q a w :=
  wp_region_quiet (C := fun w' => ∃ x : TW W, w' = x.w) hm hB ⟨⟨_, hW.drew⟩, rfl⟩ (by simpa using h)
end Go.Proofs.Ythhjioeipjnjmaa
