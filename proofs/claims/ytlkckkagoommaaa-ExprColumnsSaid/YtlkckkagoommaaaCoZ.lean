/- ExprColumns: the statement, out of the walk of the law. No condition beyond the given statement's. -/
import Derived.Test.YtlkckkagoommaaaCo10
import Derived.Test.YtlkckkagoommaaaRows
import Derived.WalkKit
import Derived.ProofKit
import Derived.OpenShut
import Derived.ShutString
import Derived.ChangeOld
import Derived.Below
import Derived.JoinedCond
namespace Go.Proofs.Ytlkckkagoommaaa.exprColumns
open Go.ChangeShapes Go.WideShapes Go.ChangeAt Go.RowKit
open Go.ChangeMaps (open_string shut_string)
set_option linter.unusedVariables false

theorem own : ownKnob Try.prog.godebug = none := by kernel_rfl
theorem laidOut : laidOutB Try.prog = true := by kernel_rfl

set_option maxRecDepth 100000 in
theorem contract (H : Type) (enc : TypeId × Value → H) (W : World) (base : Nat) (args : Array Value) (ds gs : List (DataW H)) (before : List MemPlace)
    (hval : ∀ (j : Nat) t v, Try.f8.params[j]? = some t → args[j]? = some v → Value.okWide Try.prog W .any base t v)
    (hW : DataW.Whole enc Try.prog Try.f8.params.toList Rows.exprColumnsSpec.vars false W args.toList ds gs before) :
    Calls Try.prog 8 args W fun e W' => ∃ v, e = .returned v ∧ Rows.exprColumnsSpec.post enc Try.prog Try.f8 false true false false W args v W' := by
  have hW' := hW
  obtain ⟨p, q, hA0, hV, rfl, hfz, hnd⟩ := hW
  have hA : DataW.TrodAll enc Try.prog W 0 (fun _ => true) true Try.f8.params.toList args.toList ds p := hA0
  rw [Try.params8] at hA hval
  obtain ⟨v0, vs0, d0, ds0, p0, q0, hargs, rfl, rfl, h0, r0⟩ := trodAll_cons hA
  obtain ⟨rfl, rfl, rfl⟩ := trodAll_nil r0
  obtain rfl : args = #[v0] := by cases args; simp_all
  obtain ⟨rfl, rfl⟩ := trodVars_none hV
  have k0 := h0
  have lt0 : ∀ x ∈ p0, x.block < W.heap.size := by obtain ⟨m, hm⟩ := k0; exact DataW.trod_lt m _ _ _ hm
  obtain ⟨A0, len0, cap0, SA0, sm0, scap0, RA0, na0, rac0, RB0, nb0, rbc0, rfl, ⟨l0, hl0, rd0, ok0, bd0, hk0⟩, ⟨cs0, hs0, rs0, oks0, bs0, hks0⟩, ⟨ra0, ha0, rda0, oka0, ba0, hka0⟩, ⟨rb0, hb0, rdb0, okb0, bb0, hkb0⟩⟩ := (show ∃ (A : Option Addr) (len cap : Nat) (SA : Option Addr) (sm scap : Nat) (RA : Option Addr) (na rac : Nat) (RB : Option Addr) (nb rbc : Nat), v0 = .agg [Value.slice A len cap, .slice SA sm scap, .slice RA na rac, .slice RB nb rbc].toArray ∧ (∃ l : List PL, l.length = len ∧ PlsAt W A l ∧ (∀ c ∈ l, c.Okw) ∧ l.length ≤ 9223372036854775807 ∧ len ≤ cap) ∧ (∃ l : List CD, l.length = sm ∧ ColsAt W SA l ∧ (∀ c ∈ l, c.Okw) ∧ l.length ≤ 9223372036854775807 ∧ sm ≤ scap) ∧ (∃ l : List VD, l.length = na ∧ ValsAt W RA l ∧ (∀ c ∈ l, c.Ok 9223372036854775807) ∧ l.length ≤ 9223372036854775807 ∧ na ≤ rac) ∧ (∃ l : List VD, l.length = nb ∧ ValsAt W RB l ∧ (∀ c ∈ l, c.Ok 9223372036854775807) ∧ l.length ≤ 9223372036854775807 ∧ nb ≤ rbc) by
    obtain ⟨fuel, hf⟩ := h0
    exact open_rows (hval 0 72 v0 rfl rfl) hf)
  clear hA0
  refine (columns_law A0 cap0 len0 l0 hl0 hk0 SA0 scap0 sm0 cs0 hs0 oks0 RA0 rac0 na0 ra0 ha0 oka0 RB0 rbc0 nb0 rb0 hb0 okb0 W rd0 rs0 rda0 rdb0 (by omega) (by omega) (by omega) (by omega)).mono fun e W' ⟨he, tou⟩ => ?_
  have bel := tou.below0
  subst he
  exact ⟨_, rfl, _, _, _, [], _, [], hW', trodAll_mk1 (shut_bool Try.underlying4 _), (trodAll_cons_mk (Below.trod laidOut (by kernel_rfl) (of_decide_eq_true (by kernel_rfl)) k0 bel lt0) trodAll_mk0), rfl, bel.frame _, fun h => by cases h⟩

set_option maxRecDepth 100000 in
theorem lifted (os : Os) (started : os.Started) (H : Type) (enc : TypeId × Value → H) (F : Stop.Interp) :
    ReturnsInHanded {} Try.checked os 8 .any (Rows.exprColumnsSpec.pre6 enc Try.prog Try.f8 Rows.exprColumnsRow.domain false) (Rows.exprColumnsSpec.post enc Try.prog Try.f8 false true false false) := by
  refine returnsInHanded_of_change (C := Try.checked) own started (by kernel_rfl) Try.func8
    (ChangeSpec.witness6 (enc := enc) (C := Try.checked) false ⟨#[], #[.agg #[.slice none 0 0, .slice none 0 0, .slice none 0 0, .slice none 0 0]], []⟩ 8 (by kernel_rfl) (by kernel_rfl) (by kernel_rfl) (by kernel_rfl)) ?_
  intro W base args ds gs before hval hW hcnd _
  exact contract H enc W base args ds gs before hval hW

theorem said : Rows.ExprColumnsSaid :=
  OpenClaim.holds_of_wide 8 Try.f8 rfl rfl rfl rfl rfl rfl rfl ⟨rfl, rfl, rfl, rfl, rfl⟩ rfl rfl rfl rfl rfl (by kernel_rfl) Try.func8 (by kernel_rfl)
    (of_decide_eq_true (by kernel_rfl)) (by unfold Func.isWrapper; first | (rw [if_pos (by decide +kernel)]; kernel_rfl) | (rw [if_neg (by decide +kernel)]; exact ⟨rfl, rfl⟩))
    (fun os started H enc _ => lifted os started H enc (fun _ _ _ => 0))
end Go.Proofs.Ytlkckkagoommaaa.exprColumns
