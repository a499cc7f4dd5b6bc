/- ExprNulls: what comes of null. No walk. -/
import Derived.Test.YtlkckkagoommaaaOneX
namespace Go.Proofs.Ytlkckkagoommaaa
open Go.RowKit

def treeN (op : ByteArray) (left : Bool) : TX 2 := (nd4 op, if left = true then [((ndC zeroV, []) : TX 1), ((ndA, []) : TX 1)] else [((ndA, []) : TX 1), ((ndC zeroV, []) : TX 1)])
theorem nulls_sum (s : List UInt8) (h : s ∈ [[43], [45], [42], [47], [37], [61], [33, 61], [60], [60, 61], [62], [62, 61]]) (n : Int) (left : Bool) : topX csA [ofV n] 2 (treeN (S s) left) = (zeroV, 0) := by
  simp only [List.mem_cons, List.not_mem_nil, or_false] at h
  rcases h with rfl | rfl | rfl | rfl | rfl | rfl | rfl | rfl | rfl | rfl | rfl <;> cases left <;> kernel_rfl
theorem nulls_top (op : ByteArray) (n : Int) (left : Bool) (h : (typeX csA 2 (treeN op left)).2 = 0) : topX csA [ofV n] 2 (treeN op left) = evalX csA [ofV n] 2 (treeN op left) := by
  unfold topX
  rw [if_neg (by rw [h]; simp), if_pos (by kernel_rfl)]
theorem tru_of (n : Int) : VD.tru (ofV n) = decide (n ≠ 0) := rfl
theorem lazy_and (d : ND) (v : VD) (h : d.op = wAnd) : lazyV d v = (if v.tru = true then some (.inr 1) else some (.inl (ofV 0))) := if_pos h
theorem lazy_or (d : ND) (v : VD) (h0 : d.op ≠ wAnd) (h : d.op = wOr) : lazyV d v = (if v.tru = true then some (.inl (ofV 1)) else some (.inr 1)) := (if_neg h0).trans (if_pos h)
theorem formV_none (d : ND) (n : Nat) (h1 : d.kind ≠ 1) (h2 : d.kind ≠ 2) (hr : ruleV d = none) : formV d n = false := by
  unfold formV
  rw [if_neg h1, if_neg h2, hr]; rfl
theorem typedX_form {cs : List CD} {n d : Nat} {e : TX (n + 1)} (h : d ≤ 32) (hf : formV e.1 e.2.length = false) : typedX cs (n + 1) d e = (0, 20) := by rw [typedX_succ, if_neg (by omega), if_pos hf]
theorem nulls_and (n : Int) (left : Bool) : topX csA [ofV n] 2 (treeN wAnd left) = (ofV 0, 0) := by
  cases left
  · by_cases h : n = 0
    · subst h; kernel_rfl
    · rw [nulls_top _ _ _ (by kernel_rfl), evalX_at _ _ _ _ (by decide) (by decide) (by decide)]
      rw [if_neg (by show ¬ ((0 : Int) ≠ 0); simp)]
      have h1 : lazyX (evalX csA [ofV n] 1) (treeN wAnd false).1 (treeN wAnd false).2 (evalX csA [ofV n] 1 (treeN wAnd false).2[0]).1 = some (ofV 0, 0) := by
        have h2 : lazyV (treeN wAnd false).1 (evalX csA [ofV n] 1 (treeN wAnd false).2[0]).1 = some (.inr 1) := (lazy_and _ _ rfl).trans (if_pos (show VD.tru (ofV n) = true by rw [tru_of]; simpa using h))
        unfold lazyX
        rw [h2]
        rfl
      rw [h1]
  · kernel_rfl
theorem nulls_or (n : Int) (left : Bool) : topX csA [ofV n] 2 (treeN wOr left) = (bitV (decide (n ≠ 0)), 0) := by
  by_cases h : n = 0
  · subst h; cases left <;> kernel_rfl
  have h' : decide (n ≠ 0) = true := by simpa using h
  rw [h', nulls_top _ _ _ (by cases left <;> kernel_rfl), evalX_at _ _ _ _ (by cases left <;> decide) (by cases left <;> decide) (by cases left <;> decide)]
  cases left
  · rw [if_neg (by show ¬ ((0 : Int) ≠ 0); simp)]
    have h1 : lazyX (evalX csA [ofV n] 1) (treeN wOr false).1 (treeN wOr false).2 (evalX csA [ofV n] 1 (treeN wOr false).2[0]).1 = some (ofV 1, 0) := by
      have h2 : lazyV (treeN wOr false).1 (evalX csA [ofV n] 1 (treeN wOr false).2[0]).1 = some (.inl (ofV 1)) := (lazy_or _ _ (show wOr ≠ wAnd from S_ne (by decide)) rfl).trans (if_pos (show VD.tru (ofV n) = true by rw [tru_of]; exact h'))
      unfold lazyX
      rw [h2]
    rw [h1]; rfl
  · rw [if_neg (by show ¬ ((0 : Int) ≠ 0); simp)]
    have h1 : lazyX (evalX csA [ofV n] 1) (treeN wOr true).1 (treeN wOr true).2 (evalX csA [ofV n] 1 (treeN wOr true).2[0]).1 = some (bitIf 4 (ofV n, 0)) := rfl
    rw [h1, bitIf_4, tru_of, h']
theorem nulls_else (op : ByteArray) (h : ∀ r ∈ rulesV 4, r.name ≠ op) (n : Int) (left : Bool) : topX csA [ofV n] 2 (treeN op left) = (zeroV, 20) := by
  have hr : ruleV (nd4 op) = none := by
    have : ruleI (nd4 op) = none := by
      unfold ruleI
      rw [List.findIdx?_eq_none_iff]
      intro r hr
      exact decide_eq_false (h r hr)
    unfold ruleV
    rw [this]
  have ht : typeX csA 2 (treeN op left) = (0, 20) := by
    unfold typeX
    rw [if_pos (by kernel_rfl), if_neg (show ¬ 256 < sizeX 2 (treeN op left) by rw [show sizeX 2 (treeN op left) = 3 by cases left <;> rfl]; decide)]
    exact typedX_form (by omega) (formV_none (nd4 op) _ (show (4 : Int) ≠ 1 by decide) (show (4 : Int) ≠ 2 by decide) hr)
  unfold topX
  rw [ht]; rfl
end Go.Proofs.Ytlkckkagoommaaa
