/- Two rows of fields that are one are equal; a spec that is read is right. -/
import Derived.Test.YtoabloeechphkaaDoorCronRParse
import Derived.DeepKeys
namespace Go.Proofs.YtoabloeechphkaaDoor
open Go.RowKit

theorem key_ref (c : SD) : (keyOf Tryd.prog 34 (.agg (refC c).toArray)).isSome = true := by kernel_rfl
theorem keyTypeF : Tryd.prog.keyTypeAt 5 34 = true := by kernel_rfl
theorem guardF : Tryd.prog.eqGuardType Tryd.prog.depth 34 = false := by kernel_rfl
theorem equal_ref (c : SD) (w : World) : (Op.equal 34 (.agg (refC c).toArray) (.agg (refC c).toArray)).run Tryd.prog w = .ok true w := by
  obtain ⟨l, hl⟩ := Option.isSome_iff_exists.1 (key_ref c)
  obtain ⟨r, hr, hiff⟩ := run_equal_deep w (m := 5) (by omega) keyTypeF (by rw [Tryd.underlying34]) hl hl
  rw [hr, hiff.2 rfl]
theorem wp_neq_ref {o : Oper} {a : Act} {w : World} {K : Act → World → Prop} {Q : Exit → Act → World → Prop} (X : Array Value) (hX : ∃ c : SD, X = (refC c).toArray) (x y : Operand) (t' : TypeId) (ho : o.op = .binOp .neq 34 x y t') (hx : a.eval x = .agg X) (hy : a.eval y = .agg X)
    (h : K (a.put o.dst (.bool false)) w) : o.wp Tryd.prog a w K Q := by
  obtain ⟨c, rfl⟩ := hX
  obtain ⟨X, hX⟩ : ∃ X, X = (refC c).toArray := ⟨_, rfl⟩
  have he := equal_ref c w
  rw [← hX] at hx hy he
  have hrun : (execOp a.eval o).run Tryd.prog w = .ok (.value (.bool false)) w := by
    unfold execOp
    rw [ho]
    simp only [hx, hy, eqGuard, binOp, Sem.run_bind, Sem.run_pure, Result.andThen_ok, run_program, guardF]
    simp [he]
  unfold Oper.wp
  rw [hrun]
  exact h
end Go.Proofs.YtoabloeechphkaaDoor
