/- Part 10 of the texts of this proof, one behind the other; each begins with its own sentence. No condition beyond those that its theorems state. -/
import Derived.Test.YtlkckkagoommaaaEv9
/- bywashlaw04.whole says yes to what an expression that fits comes to, by the values of its Args. For every operation and call. -/
namespace Go.Proofs.Ytlkckkagoommaaa
open Go.RowKit

theorem arith_null {f : VD} (hr : f.right = true) : (if f.kind = 0 then (f, 0) else arithV 45 (ofV 0) f) = arithV 45 (ofV 0) f := by
  by_cases h : f.kind = 0
  · rw [if_pos h, zero_of hr h]; rfl
  · rw [if_neg h]
/-- what whole is asked for, and says -/
def WholeSaid (x : XC) (vs : List VD) (r : VD × Int) : Prop := ∀ (g bc : Nat) (w : World), ValsAt w (some ⟨g, 0, none⟩) vs → Calls Try.prog 43 #[x.val, .slice (some ⟨g, 0, none⟩) vs.length bc, r.1.val, .int .i64 r.2] w fun e w' => e = .returned (.bool true) ∧ Touch [] w w'
section
variable {cs : List CD} {row : List VD} {n : Nat} (v : VD) (A : Option Addr) (m c : Nat)
theorem wx_neg (a : TX n) (h1 : (evalX cs row n a).2 = 0 ∧ (evalX cs row n a).1.right = true) : WholeSaid ⟨⟨3, S [], v, S [45]⟩, A, m, c⟩ [(evalX cs row n a).1] (evalX cs row (n + 1) (⟨3, S [], v, S [45]⟩, [a])) := by
  intro g bc w h
  rw [ev1 cs row n ⟨3, S [], v, S [45]⟩ a (show (3 : Int) ≠ 1 by decide) (show (3 : Int) ≠ 2 by decide) (lazy_none _ _ _ _ (S_ne (by decide)) (S_ne (by decide)) (S_ne (by decide)) (S_ne (by decide))), if_neg (by rw [h1.1]; simp)]
  rw [alone_neg, arith_null h1.2]
  exact whole_neg v.kind v.num v.text (evalX cs row n a).1.kind (evalX cs row n a).1.num (evalX cs row n a).1.text _ _ _ _ A m c g bc w h rfl
theorem wx_not (a : TX n) (h1 : (evalX cs row n a).2 = 0 ∧ (evalX cs row n a).1.right = true) : WholeSaid ⟨⟨3, S [], v, wNot⟩, A, m, c⟩ [(evalX cs row n a).1] (evalX cs row (n + 1) (⟨3, S [], v, wNot⟩, [a])) := by
  intro g bc w h
  rw [ev1 cs row n ⟨3, S [], v, wNot⟩ a (show (3 : Int) ≠ 1 by decide) (show (3 : Int) ≠ 2 by decide) (lazy_none _ _ _ _ (S_ne (by decide)) (S_ne (by decide)) (S_ne (by decide)) (S_ne (by decide))), if_neg (by rw [h1.1]; simp)]
  rw [alone_not]
  exact whole_not v.kind v.num v.text (evalX cs row n a).1.kind (evalX cs row n a).1.num (evalX cs row n a).1.text _ _ _ A m c g bc w h rfl
theorem wx_isnull (a : TX n) (h1 : (evalX cs row n a).2 = 0 ∧ (evalX cs row n a).1.right = true) : WholeSaid ⟨⟨5, wIsnull, v, S []⟩, A, m, c⟩ [(evalX cs row n a).1] (evalX cs row (n + 1) (⟨5, wIsnull, v, S []⟩, [a])) := by
  intro g bc w h
  rw [ev1 cs row n ⟨5, wIsnull, v, S []⟩ a (show (5 : Int) ≠ 1 by decide) (show (5 : Int) ≠ 2 by decide) (lazy_none _ _ _ _ (S_ne (by decide)) (S_ne (by decide)) (S_ne (by decide)) (S_ne (by decide))), if_neg (by rw [h1.1]; simp)]
  rw [alone_isnull]
  exact whole_isnull v.kind v.num v.text (evalX cs row n a).1.kind (evalX cs row n a).1.num (evalX cs row n a).1.text _ _ _ A m c g bc w h rfl
theorem wx_len (a : TX n) (h1 : (evalX cs row n a).2 = 0 ∧ (evalX cs row n a).1.right = true) : WholeSaid ⟨⟨5, wLen, v, S []⟩, A, m, c⟩ [(evalX cs row n a).1] (evalX cs row (n + 1) (⟨5, wLen, v, S []⟩, [a])) := by
  intro g bc w h
  rw [ev1 cs row n ⟨5, wLen, v, S []⟩ a (show (5 : Int) ≠ 1 by decide) (show (5 : Int) ≠ 2 by decide) (lazy_none _ _ _ _ (S_ne (by decide)) (S_ne (by decide)) (S_ne (by decide)) (S_ne (by decide))), if_neg (by rw [h1.1]; simp)]
  rw [alone_len]
  by_cases hp : (evalX cs row n a).1.kind = 0
  · rw [if_pos hp]
    have hz := zero_of h1.2 hp
    exact whole_lenN v.kind v.num v.text (evalX cs row n a).1.kind (evalX cs row n a).1.num (evalX cs row n a).1.text hp _ _ _ A m c g bc w h hz
  · rw [if_neg hp]
    exact whole_len v.kind v.num v.text (evalX cs row n a).1.kind (evalX cs row n a).1.num (evalX cs row n a).1.text hp _ _ _ A m c g bc w h rfl
theorem wx_abs (a : TX n) (h1 : (evalX cs row n a).2 = 0 ∧ (evalX cs row n a).1.right = true) : WholeSaid ⟨⟨5, wAbs, v, S []⟩, A, m, c⟩ [(evalX cs row n a).1] (evalX cs row (n + 1) (⟨5, wAbs, v, S []⟩, [a])) := by
  intro g bc w h
  rw [ev1 cs row n ⟨5, wAbs, v, S []⟩ a (show (5 : Int) ≠ 1 by decide) (show (5 : Int) ≠ 2 by decide) (lazy_none _ _ _ _ (S_ne (by decide)) (S_ne (by decide)) (S_ne (by decide)) (S_ne (by decide))), if_neg (by rw [h1.1]; simp)]
  rw [alone_abs]
  by_cases hp : (evalX cs row n a).1.kind = 0
  · rw [if_pos hp]
    have hz := zero_of h1.2 hp
    exact whole_absN v.kind v.num v.text (evalX cs row n a).1.kind (evalX cs row n a).1.num (evalX cs row n a).1.text hp _ _ _ A m c g bc w h hz
  rw [if_neg hp]
  by_cases hs : 0 ≤ (evalX cs row n a).1.num
  · rw [if_pos hs]
    exact whole_absP v.kind v.num v.text (evalX cs row n a).1.kind (evalX cs row n a).1.num (evalX cs row n a).1.text hp (by omega) _ _ _ A m c g bc w h rfl
  · rw [if_neg hs]
    exact whole_absM v.kind v.num v.text (evalX cs row n a).1.kind (evalX cs row n a).1.num (evalX cs row n a).1.text hp (by omega) _ _ _ _ A m c g bc w h rfl
theorem wx_ari0 (a b : TX n) (h1 : (evalX cs row n a).2 = 0 ∧ (evalX cs row n a).1.right = true) (h2 : (evalX cs row n b).2 = 0 ∧ (evalX cs row n b).1.right = true) : WholeSaid ⟨⟨4, S [], v, S [43]⟩, A, m, c⟩ [(evalX cs row n a).1, (evalX cs row n b).1] (evalX cs row (n + 1) (⟨4, S [], v, S [43]⟩, [a, b])) := by
  intro g bc w h
  rw [ev2 cs row n ⟨4, S [], v, S [43]⟩ a b (show (4 : Int) ≠ 1 by decide) (show (4 : Int) ≠ 2 by decide) (lazy_none _ _ _ _ (S_ne (by decide)) (S_ne (by decide)) (S_ne (by decide)) (S_ne (by decide))), if_neg (by rw [h1.1]; simp), if_neg (by rw [h2.1]; simp)]
  rw [both_ari 43 _ _ _ (by decide)]
  exact whole_ari0 v.kind v.num v.text (evalX cs row n a).1.kind (evalX cs row n a).1.num (evalX cs row n a).1.text (evalX cs row n b).1.kind (evalX cs row n b).1.num (evalX cs row n b).1.text _ _ _ _ A m c g bc w h rfl
theorem wx_ari1 (a b : TX n) (h1 : (evalX cs row n a).2 = 0 ∧ (evalX cs row n a).1.right = true) (h2 : (evalX cs row n b).2 = 0 ∧ (evalX cs row n b).1.right = true) : WholeSaid ⟨⟨4, S [], v, S [45]⟩, A, m, c⟩ [(evalX cs row n a).1, (evalX cs row n b).1] (evalX cs row (n + 1) (⟨4, S [], v, S [45]⟩, [a, b])) := by
  intro g bc w h
  rw [ev2 cs row n ⟨4, S [], v, S [45]⟩ a b (show (4 : Int) ≠ 1 by decide) (show (4 : Int) ≠ 2 by decide) (lazy_none _ _ _ _ (S_ne (by decide)) (S_ne (by decide)) (S_ne (by decide)) (S_ne (by decide))), if_neg (by rw [h1.1]; simp), if_neg (by rw [h2.1]; simp)]
  rw [both_ari 45 _ _ _ (by decide)]
  exact whole_ari1 v.kind v.num v.text (evalX cs row n a).1.kind (evalX cs row n a).1.num (evalX cs row n a).1.text (evalX cs row n b).1.kind (evalX cs row n b).1.num (evalX cs row n b).1.text _ _ _ _ A m c g bc w h rfl
theorem wx_ari2 (a b : TX n) (h1 : (evalX cs row n a).2 = 0 ∧ (evalX cs row n a).1.right = true) (h2 : (evalX cs row n b).2 = 0 ∧ (evalX cs row n b).1.right = true) : WholeSaid ⟨⟨4, S [], v, S [42]⟩, A, m, c⟩ [(evalX cs row n a).1, (evalX cs row n b).1] (evalX cs row (n + 1) (⟨4, S [], v, S [42]⟩, [a, b])) := by
  intro g bc w h
  rw [ev2 cs row n ⟨4, S [], v, S [42]⟩ a b (show (4 : Int) ≠ 1 by decide) (show (4 : Int) ≠ 2 by decide) (lazy_none _ _ _ _ (S_ne (by decide)) (S_ne (by decide)) (S_ne (by decide)) (S_ne (by decide))), if_neg (by rw [h1.1]; simp), if_neg (by rw [h2.1]; simp)]
  rw [both_ari 42 _ _ _ (by decide)]
  exact whole_ari2 v.kind v.num v.text (evalX cs row n a).1.kind (evalX cs row n a).1.num (evalX cs row n a).1.text (evalX cs row n b).1.kind (evalX cs row n b).1.num (evalX cs row n b).1.text _ _ _ _ A m c g bc w h rfl
theorem wx_ari3 (a b : TX n) (h1 : (evalX cs row n a).2 = 0 ∧ (evalX cs row n a).1.right = true) (h2 : (evalX cs row n b).2 = 0 ∧ (evalX cs row n b).1.right = true) : WholeSaid ⟨⟨4, S [], v, S [47]⟩, A, m, c⟩ [(evalX cs row n a).1, (evalX cs row n b).1] (evalX cs row (n + 1) (⟨4, S [], v, S [47]⟩, [a, b])) := by
  intro g bc w h
  rw [ev2 cs row n ⟨4, S [], v, S [47]⟩ a b (show (4 : Int) ≠ 1 by decide) (show (4 : Int) ≠ 2 by decide) (lazy_none _ _ _ _ (S_ne (by decide)) (S_ne (by decide)) (S_ne (by decide)) (S_ne (by decide))), if_neg (by rw [h1.1]; simp), if_neg (by rw [h2.1]; simp)]
  rw [both_ari 47 _ _ _ (by decide)]
  exact whole_ari3 v.kind v.num v.text (evalX cs row n a).1.kind (evalX cs row n a).1.num (evalX cs row n a).1.text (evalX cs row n b).1.kind (evalX cs row n b).1.num (evalX cs row n b).1.text _ _ _ _ A m c g bc w h rfl
theorem wx_ari4 (a b : TX n) (h1 : (evalX cs row n a).2 = 0 ∧ (evalX cs row n a).1.right = true) (h2 : (evalX cs row n b).2 = 0 ∧ (evalX cs row n b).1.right = true) : WholeSaid ⟨⟨4, S [], v, S [37]⟩, A, m, c⟩ [(evalX cs row n a).1, (evalX cs row n b).1] (evalX cs row (n + 1) (⟨4, S [], v, S [37]⟩, [a, b])) := by
  intro g bc w h
  rw [ev2 cs row n ⟨4, S [], v, S [37]⟩ a b (show (4 : Int) ≠ 1 by decide) (show (4 : Int) ≠ 2 by decide) (lazy_none _ _ _ _ (S_ne (by decide)) (S_ne (by decide)) (S_ne (by decide)) (S_ne (by decide))), if_neg (by rw [h1.1]; simp), if_neg (by rw [h2.1]; simp)]
  rw [both_ari 37 _ _ _ (by decide)]
  exact whole_ari4 v.kind v.num v.text (evalX cs row n a).1.kind (evalX cs row n a).1.num (evalX cs row n a).1.text (evalX cs row n b).1.kind (evalX cs row n b).1.num (evalX cs row n b).1.text _ _ _ _ A m c g bc w h rfl
theorem wx_cmp0 (a b : TX n) (h1 : (evalX cs row n a).2 = 0 ∧ (evalX cs row n a).1.right = true) (h2 : (evalX cs row n b).2 = 0 ∧ (evalX cs row n b).1.right = true) : WholeSaid ⟨⟨4, S [], v, S [61]⟩, A, m, c⟩ [(evalX cs row n a).1, (evalX cs row n b).1] (evalX cs row (n + 1) (⟨4, S [], v, S [61]⟩, [a, b])) := by
  intro g bc w h
  rw [ev2 cs row n ⟨4, S [], v, S [61]⟩ a b (show (4 : Int) ≠ 1 by decide) (show (4 : Int) ≠ 2 by decide) (lazy_none _ _ _ _ (S_ne (by decide)) (S_ne (by decide)) (S_ne (by decide)) (S_ne (by decide))), if_neg (by rw [h1.1]; simp), if_neg (by rw [h2.1]; simp)]
  rw [both_cmp _ _ _ _ (by decide)]
  exact whole_cmp0 v.kind v.num v.text (evalX cs row n a).1.kind (evalX cs row n a).1.num (evalX cs row n a).1.text (evalX cs row n b).1.kind (evalX cs row n b).1.num (evalX cs row n b).1.text _ _ _ A m c g bc w h rfl
theorem wx_cmp1 (a b : TX n) (h1 : (evalX cs row n a).2 = 0 ∧ (evalX cs row n a).1.right = true) (h2 : (evalX cs row n b).2 = 0 ∧ (evalX cs row n b).1.right = true) : WholeSaid ⟨⟨4, S [], v, S [33, 61]⟩, A, m, c⟩ [(evalX cs row n a).1, (evalX cs row n b).1] (evalX cs row (n + 1) (⟨4, S [], v, S [33, 61]⟩, [a, b])) := by
  intro g bc w h
  rw [ev2 cs row n ⟨4, S [], v, S [33, 61]⟩ a b (show (4 : Int) ≠ 1 by decide) (show (4 : Int) ≠ 2 by decide) (lazy_none _ _ _ _ (S_ne (by decide)) (S_ne (by decide)) (S_ne (by decide)) (S_ne (by decide))), if_neg (by rw [h1.1]; simp), if_neg (by rw [h2.1]; simp)]
  rw [both_cmp _ _ _ _ (by decide)]
  exact whole_cmp1 v.kind v.num v.text (evalX cs row n a).1.kind (evalX cs row n a).1.num (evalX cs row n a).1.text (evalX cs row n b).1.kind (evalX cs row n b).1.num (evalX cs row n b).1.text _ _ _ A m c g bc w h rfl
theorem wx_cmp2 (a b : TX n) (h1 : (evalX cs row n a).2 = 0 ∧ (evalX cs row n a).1.right = true) (h2 : (evalX cs row n b).2 = 0 ∧ (evalX cs row n b).1.right = true) : WholeSaid ⟨⟨4, S [], v, S [60]⟩, A, m, c⟩ [(evalX cs row n a).1, (evalX cs row n b).1] (evalX cs row (n + 1) (⟨4, S [], v, S [60]⟩, [a, b])) := by
  intro g bc w h
  rw [ev2 cs row n ⟨4, S [], v, S [60]⟩ a b (show (4 : Int) ≠ 1 by decide) (show (4 : Int) ≠ 2 by decide) (lazy_none _ _ _ _ (S_ne (by decide)) (S_ne (by decide)) (S_ne (by decide)) (S_ne (by decide))), if_neg (by rw [h1.1]; simp), if_neg (by rw [h2.1]; simp)]
  rw [both_cmp _ _ _ _ (by decide)]
  exact whole_cmp2 v.kind v.num v.text (evalX cs row n a).1.kind (evalX cs row n a).1.num (evalX cs row n a).1.text (evalX cs row n b).1.kind (evalX cs row n b).1.num (evalX cs row n b).1.text _ _ _ A m c g bc w h rfl
theorem wx_cmp3 (a b : TX n) (h1 : (evalX cs row n a).2 = 0 ∧ (evalX cs row n a).1.right = true) (h2 : (evalX cs row n b).2 = 0 ∧ (evalX cs row n b).1.right = true) : WholeSaid ⟨⟨4, S [], v, S [60, 61]⟩, A, m, c⟩ [(evalX cs row n a).1, (evalX cs row n b).1] (evalX cs row (n + 1) (⟨4, S [], v, S [60, 61]⟩, [a, b])) := by
  intro g bc w h
  rw [ev2 cs row n ⟨4, S [], v, S [60, 61]⟩ a b (show (4 : Int) ≠ 1 by decide) (show (4 : Int) ≠ 2 by decide) (lazy_none _ _ _ _ (S_ne (by decide)) (S_ne (by decide)) (S_ne (by decide)) (S_ne (by decide))), if_neg (by rw [h1.1]; simp), if_neg (by rw [h2.1]; simp)]
  rw [both_cmp _ _ _ _ (by decide)]
  exact whole_cmp3 v.kind v.num v.text (evalX cs row n a).1.kind (evalX cs row n a).1.num (evalX cs row n a).1.text (evalX cs row n b).1.kind (evalX cs row n b).1.num (evalX cs row n b).1.text _ _ _ A m c g bc w h rfl
theorem wx_cmp4 (a b : TX n) (h1 : (evalX cs row n a).2 = 0 ∧ (evalX cs row n a).1.right = true) (h2 : (evalX cs row n b).2 = 0 ∧ (evalX cs row n b).1.right = true) : WholeSaid ⟨⟨4, S [], v, S [62]⟩, A, m, c⟩ [(evalX cs row n a).1, (evalX cs row n b).1] (evalX cs row (n + 1) (⟨4, S [], v, S [62]⟩, [a, b])) := by
  intro g bc w h
  rw [ev2 cs row n ⟨4, S [], v, S [62]⟩ a b (show (4 : Int) ≠ 1 by decide) (show (4 : Int) ≠ 2 by decide) (lazy_none _ _ _ _ (S_ne (by decide)) (S_ne (by decide)) (S_ne (by decide)) (S_ne (by decide))), if_neg (by rw [h1.1]; simp), if_neg (by rw [h2.1]; simp)]
  rw [both_cmp _ _ _ _ (by decide)]
  exact whole_cmp4 v.kind v.num v.text (evalX cs row n a).1.kind (evalX cs row n a).1.num (evalX cs row n a).1.text (evalX cs row n b).1.kind (evalX cs row n b).1.num (evalX cs row n b).1.text _ _ _ A m c g bc w h rfl
theorem wx_cmp5 (a b : TX n) (h1 : (evalX cs row n a).2 = 0 ∧ (evalX cs row n a).1.right = true) (h2 : (evalX cs row n b).2 = 0 ∧ (evalX cs row n b).1.right = true) : WholeSaid ⟨⟨4, S [], v, S [62, 61]⟩, A, m, c⟩ [(evalX cs row n a).1, (evalX cs row n b).1] (evalX cs row (n + 1) (⟨4, S [], v, S [62, 61]⟩, [a, b])) := by
  intro g bc w h
  rw [ev2 cs row n ⟨4, S [], v, S [62, 61]⟩ a b (show (4 : Int) ≠ 1 by decide) (show (4 : Int) ≠ 2 by decide) (lazy_none _ _ _ _ (S_ne (by decide)) (S_ne (by decide)) (S_ne (by decide)) (S_ne (by decide))), if_neg (by rw [h1.1]; simp), if_neg (by rw [h2.1]; simp)]
  rw [both_cmp _ _ _ _ (by decide)]
  exact whole_cmp5 v.kind v.num v.text (evalX cs row n a).1.kind (evalX cs row n a).1.num (evalX cs row n a).1.text (evalX cs row n b).1.kind (evalX cs row n b).1.num (evalX cs row n b).1.text _ _ _ A m c g bc w h rfl
theorem wx_and (a b : TX n) (h1 : (evalX cs row n a).2 = 0 ∧ (evalX cs row n a).1.right = true) (h2 : (evalX cs row n b).2 = 0 ∧ (evalX cs row n b).1.right = true) (ht : (evalX cs row n a).1.tru = true) : WholeSaid ⟨⟨4, S [], v, wAnd⟩, A, m, c⟩ [(evalX cs row n a).1, (evalX cs row n b).1] (evalX cs row (n + 1) (⟨4, S [], v, wAnd⟩, [a, b])) := by
  intro g bc w h
  rw [ev_and, if_neg (by rw [h1.1]; simp), if_pos ht]
  have hbi : bitIf 4 (evalX cs row n b) = (bitV (evalX cs row n b).1.tru, 0) := by unfold bitIf; rw [if_pos ⟨h2.1, rfl⟩]
  rw [hbi]
  exact whole_and v.kind v.num v.text (evalX cs row n a).1.kind (evalX cs row n a).1.num (evalX cs row n a).1.text (evalX cs row n b).1.kind (evalX cs row n b).1.num (evalX cs row n b).1.text _ _ _ A m c g bc w h rfl
theorem wx_or (a b : TX n) (h1 : (evalX cs row n a).2 = 0 ∧ (evalX cs row n a).1.right = true) (h2 : (evalX cs row n b).2 = 0 ∧ (evalX cs row n b).1.right = true) (ht : ¬ (evalX cs row n a).1.tru = true) : WholeSaid ⟨⟨4, S [], v, wOr⟩, A, m, c⟩ [(evalX cs row n a).1, (evalX cs row n b).1] (evalX cs row (n + 1) (⟨4, S [], v, wOr⟩, [a, b])) := by
  intro g bc w h
  rw [ev_or, if_neg (by rw [h1.1]; simp), if_neg ht]
  have hbi : bitIf 4 (evalX cs row n b) = (bitV (evalX cs row n b).1.tru, 0) := by unfold bitIf; rw [if_pos ⟨h2.1, rfl⟩]
  rw [hbi]
  exact whole_or v.kind v.num v.text (evalX cs row n a).1.kind (evalX cs row n a).1.num (evalX cs row n a).1.text (evalX cs row n b).1.kind (evalX cs row n b).1.num (evalX cs row n b).1.text _ _ _ A m c g bc w h rfl
theorem wx_either (a b : TX n) (h1 : (evalX cs row n a).2 = 0 ∧ (evalX cs row n a).1.right = true) (h2 : (evalX cs row n b).2 = 0 ∧ (evalX cs row n b).1.right = true) (ht : (evalX cs row n a).1.kind = 0) : WholeSaid ⟨⟨5, wEither, v, S []⟩, A, m, c⟩ [(evalX cs row n a).1, (evalX cs row n b).1] (evalX cs row (n + 1) (⟨5, wEither, v, S []⟩, [a, b])) := by
  intro g bc w h
  rw [ev_either, if_neg (by rw [h1.1]; simp), if_pos ht, h2.1]
  exact whole_either v.kind v.num v.text (evalX cs row n a).1.kind (evalX cs row n a).1.num (evalX cs row n a).1.text (evalX cs row n b).1.kind (evalX cs row n b).1.num (evalX cs row n b).1.text ht _ _ _ A m c g bc w h rfl
theorem wx_cat (a b : TX n) (h1 : (evalX cs row n a).2 = 0 ∧ (evalX cs row n a).1.right = true) (h2 : (evalX cs row n b).2 = 0 ∧ (evalX cs row n b).1.right = true) : WholeSaid ⟨⟨5, wCat, v, S []⟩, A, m, c⟩ [(evalX cs row n a).1, (evalX cs row n b).1] (evalX cs row (n + 1) (⟨5, wCat, v, S []⟩, [a, b])) := by
  intro g bc w h
  rw [ev2 cs row n ⟨5, wCat, v, S []⟩ a b (show (5 : Int) ≠ 1 by decide) (show (5 : Int) ≠ 2 by decide) (lazy_none _ _ _ _ (S_ne (by decide)) (S_ne (by decide)) (S_ne (by decide)) (S_ne (by decide))), if_neg (by rw [h1.1]; simp), if_neg (by rw [h2.1]; simp)]
  rw [both_cat]
  unfold catV
  by_cases hp : (evalX cs row n a).1.kind = 0
  · rw [if_pos (.inl hp)]
    exact whole_catN v.kind v.num v.text (evalX cs row n a).1.kind (evalX cs row n a).1.num (evalX cs row n a).1.text (evalX cs row n b).1.kind (evalX cs row n b).1.num (evalX cs row n b).1.text hp _ _ _ A m c g bc w h rfl
  by_cases hq : (evalX cs row n b).1.kind = 0
  · rw [if_pos (.inr hq)]
    exact whole_catM v.kind v.num v.text (evalX cs row n a).1.kind (evalX cs row n a).1.num (evalX cs row n a).1.text (evalX cs row n b).1.kind (evalX cs row n b).1.num (evalX cs row n b).1.text hp hq _ _ _ A m c g bc w h rfl
  rw [if_neg (fun q => by rcases q with q | q; exact hp q; exact hq q)]
  have z1 := right_size h1.2
  have z2 := right_size h2.2
  by_cases h64 : 64 < (evalX cs row n a).1.text.size + (evalX cs row n b).1.text.size
  · rw [if_pos h64]
    exact whole_catO v.kind v.num v.text (evalX cs row n a).1.kind (evalX cs row n a).1.num (evalX cs row n a).1.text (evalX cs row n b).1.kind (evalX cs row n b).1.num (evalX cs row n b).1.text hp hq z1 z2 h64 _ _ _ A m c g bc w h rfl
  · rw [if_neg h64]
    exact whole_catT v.kind v.num v.text (evalX cs row n a).1.kind (evalX cs row n a).1.num (evalX cs row n a).1.text (evalX cs row n b).1.kind (evalX cs row n b).1.num (evalX cs row n b).1.text hp hq z1 z2 h64 _ _ _ A m c g bc w h rfl
end
/-- for every operation and call whose Args are all asked -/
theorem wholeX {cs : List CD} {row : List VD} {n : Nat} (d : ND) (args : List (TX n)) (hf : formV d args.length = true) (h1 : d.kind ≠ 1) (h2 : d.kind ≠ 2) (hok : ∀ a ∈ args, (evalX cs row n a).2 = 0 ∧ (evalX cs row n a).1.right = true)
    (hA : ∀ a r, args = a :: r → d.op = wAnd → (evalX cs row n a).1.tru = true) (hO : ∀ a r, args = a :: r → d.op = wOr → ¬ (evalX cs row n a).1.tru = true) (hE : ∀ a r, args = a :: r → d.name = wEither → (evalX cs row n a).1.kind = 0) (hI : d.name ≠ wIf)
    (x : XC) (hx : x.nd = d) : WholeSaid x (args.map fun a => (evalX cs row n a).1) (evalX cs row (n + 1) (d, args)) := by
  have hs := shape hf h1 h2
  obtain ⟨nd, A, m, c⟩ := x
  have hx : nd = d := hx
  subst hx
  obtain ⟨k, nm, v, op⟩ := nd
  simp only at hs hA hO hE hI
  rcases hs with ⟨hk, hl, hn, ho⟩ | ⟨hk, hl, hn, ho⟩ | ⟨hk, ho, hn⟩
  · obtain ⟨a, rfl⟩ := list1 hl
    have ha := hok a List.mem_cons_self
    subst hk hn
    rcases ho with rfl | rfl
    · exact wx_neg v A m c a ha
    · exact wx_not v A m c a ha
  · obtain ⟨a, b, rfl⟩ := list2 hl
    have ha := hok a List.mem_cons_self
    have hb := hok b (List.mem_cons_of_mem _ List.mem_cons_self)
    subst hk hn
    rcases ho with rfl | rfl | rfl | rfl | rfl | rfl | rfl | rfl | rfl | rfl | rfl | rfl | rfl
    · exact wx_ari0 v A m c a b ha hb
    · exact wx_ari1 v A m c a b ha hb
    · exact wx_ari2 v A m c a b ha hb
    · exact wx_ari3 v A m c a b ha hb
    · exact wx_ari4 v A m c a b ha hb
    · exact wx_cmp0 v A m c a b ha hb
    · exact wx_cmp1 v A m c a b ha hb
    · exact wx_cmp2 v A m c a b ha hb
    · exact wx_cmp3 v A m c a b ha hb
    · exact wx_cmp4 v A m c a b ha hb
    · exact wx_cmp5 v A m c a b ha hb
    · exact wx_and v A m c a b ha hb (hA a [b] rfl rfl)
    · exact wx_or v A m c a b ha hb (hO a [b] rfl rfl)
  · subst hk ho
    rcases hn with ⟨hl, hn⟩ | ⟨hl, hn⟩ | ⟨hl, rfl⟩
    · obtain ⟨a, rfl⟩ := list1 hl
      have ha := hok a List.mem_cons_self
      rcases hn with rfl | rfl | rfl
      · exact wx_len v A m c a ha
      · exact wx_abs v A m c a ha
      · exact wx_isnull v A m c a ha
    · obtain ⟨a, b, rfl⟩ := list2 hl
      have ha := hok a List.mem_cons_self
      have hb := hok b (List.mem_cons_of_mem _ List.mem_cons_self)
      rcases hn with rfl | rfl
      · exact wx_cat v A m c a b ha hb
      · exact wx_either v A m c a b ha hb (hE a [b] rfl rfl)
    · exact absurd rfl hI
end Go.Proofs.Ytlkckkagoommaaa

/- bywashlaw04.args: the values of an expression's Args that are asked, or the first error. For every expression that fits. -/
namespace Go.Proofs.Ytlkckkagoommaaa
open Go.RowKit
attribute [local go_sem ↓] Go.wp_at_zero Go.wp_at_succ

theorem info_val4 : (Try.prog.info? 30).map (fun i => (i.zero, i.size, i.bytes)) = some (some (.agg #[.int .i64 0, .int .i64 0, .string ⟨#[]⟩]), 3, 32) := by kernel_rfl
/-- what args tells -/
def Args4 (cs : List CD) (row : List VD) (n : Nat) (args : List (TX n)) (m : Nat) (w : World) (r : Ending) (w' : World) : Prop :=
  Touch [] w w' ∧ ((∃ a, args.find? (fun a => decide ((evalX cs row n a).2 ≠ 0)) = some a ∧ r = .returned (.tuple #[.slice none 0 0, .int .i64 (evalX cs row n a).2])) ∨
    ((∀ a ∈ args, (evalX cs row n a).2 = 0) ∧ ∃ B c, r = .returned (.tuple #[.slice B m c, .int .i64 0]) ∧ Made 30 3 vdE (args.map fun a => (evalX cs row n a).1) B c w w'))

set_option maxRecDepth 20000 in
set_option maxHeartbeats 6400000 in
theorem args4_any (cs : List CD) (row : List VD) (n : Nat) (args : List (TX n)) (hsub : ∀ a ∈ args, topX cs row n a = evalX cs row n a) (x : XC) (hn : x.n = args.length) (A : Option Addr) (cap m : Nat) (hm : cs.length = m) (hok : ∀ c ∈ cs, c.Ok) (B : Option Addr) (rc rm : Nat) (hrm : row.length = rm) (hvk : ∀ v ∈ row, v.Ok 9223372036854775807)
    (w : World) (hx : ArgsP xcE anyB n w x.A args) (hcs : ColsAt w A cs) (hrow : ValsAt w B row) (hmb : m ≤ 140737000000000) (hrb : rm ≤ 140737000000000) (hs : sumX n args ≤ 1000000) (hall : ∀ a ∈ args, allX (fun q => q.v.text.size ≤ 140737000000000) n a) :
    Calls Try.prog 42 #[x.val, .slice A m cap, .slice B rm rc] w fun r w' => Args4 cs row n args x.n w r w' := by
  obtain ⟨⟨k, nm, ⟨vk, vn, vt⟩, op⟩, XA, xm, c⟩ := x
  dsimp only at hn hx
  simp only [XC.val]
  have Hn := Lib.hid hn
  have hlen := len_le_sum n args
  rw [← hn] at hlen
  have t0 := (Touch.refl [] w).alloc (.cells #[.int .i64 k, .string nm, .int .i64 vk, .int .i64 vn, .string vt, .string op, .slice XA xm c] 33)
  have Hsub := Lib.hid hsub; have Hall := Lib.hid hall
  clear hn hsub hall
  go_enter Try.func42, Try.ntmps42
  go_wp2_with fail
  go_loopw [8, 16] (fun v i wr => ∃ (j : Nat) (D : Option Addr) (cD : Nat), j ≤ xm ∧ i = .int .i64 j ∧ v = .slice D j cD ∧ Made 30 3 vdE ((args.take j).map fun a => (evalX cs row n a).1) D cD w wr ∧ Hid (∀ a ∈ args.take j, (evalX cs row n a).2 = 0)) (fun _ i _ => xm - (intOf i).toNat)
  case atStart => exact ⟨0, none, 0, by omega, rfl, rfl, (Made.nil _ _ _ w).touch0 t0, Lib.hid (by simp)⟩
  case round =>
    obtain ⟨j, D, cD, hj, rfl, rfl, hmd, Hno⟩ := hrel
    have T2 := hmd.t
    by_cases hlt : j < xm
    · have hlt' : j < args.length := by rw [← Hn.out]; exact hlt
      obtain ⟨ad, b, off, y, rfl, hadd, hy, hcell⟩ := (hx.touch0 T2).at_ xcE_length j hlt'
      have hsn := List.take_succ_eq_append_getElem hlt'
      have hms := size_mem (List.getElem_mem hlt')
      have hay := Hall.out _ (List.getElem_mem hlt')
      have hay2 := Hsub.out _ (List.getElem_mem hlt')
      have hfd := find_hit (p := fun a => decide ((evalX cs row n a).2 ≠ 0)) hlt'
      obtain ⟨a, hae⟩ : ∃ a, a = args[j] := ⟨_, rfl⟩
      rw [← hae] at hy hsn hms hay hay2 hfd
      have ta := (Touch.refl [] wr).alloc (.cells #[.int .i64 y.nd.kind, .string y.nd.name, .int .i64 y.nd.v.kind, .int .i64 y.nd.v.num, .string y.nd.v.text, .string y.nd.op, .slice y.A y.n y.c] 33)
      have hc := topB_any n a y A cap m cs hm hok B rc rm row hrm hvk _ (hy.touch0 ta) (hcs.touch0 (T2.trans0 ta)) (hrow.touch0 (T2.trans0 ta)) hmb hrb (by omega) hay
      rw [hay2] at hc
      have Htl := Lib.hid (show ((args.take j).map fun a => (evalX cs row n a).1).length = j by rw [List.length_map, List.length_take]; omega)
      have c0 := hcell 0 _ rfl; have c1 := hcell 1 _ rfl; have c2 := hcell 2 _ rfl; have c3 := hcell 3 _ rfl; have c4 := hcell 4 _ rfl; have c5 := hcell 5 _ rfl; have c6 := hcell 6 _ rfl
      rw [Nat.add_zero] at c0
      have Hsn := Lib.hid hsn; have Hfd := Lib.hid hfd
      clear hsn hae hcell hms hay hay2 hfd hlt'
      obtain ⟨⟨k2, nm2, ⟨vk2, vn2, vt2⟩, op2⟩, A2, m2, c2'⟩ := y
      simp only [XC.val] at hc
      simp only at c0 c1 c2 c3 c4 c5 c6 ta
      obtain ⟨⟨⟨ek, en, et⟩, er⟩, hev⟩ : ∃ r, r = evalX cs row n a := ⟨_, rfl⟩
      rw [← hev] at hc
      simp only [VD.val] at hc
      have Hc := Lib.hid hc
      have Hev := Lib.hid hev
      clear hc hev
      have hjI : (j : Int) < (xm : Int) := by omega
      by_cases he0 : er = 0
      · have Hno2 := Lib.hid (show ∀ a ∈ args.take (j + 1), (evalX cs row n a).2 = 0 from fun a' ha' => by
          rw [Hsn.out] at ha'
          rcases List.mem_append.1 ha' with q | q
          · exact Hno.out a' q
          · rw [List.mem_singleton] at q; rw [q, ← Hev.out, he0])
        subst he0
        go_wp2_with fail
        refine Hc.out.mono ?_
        rintro e w2 ⟨rfl, t2⟩
        have tb := ((Touch.refl [] w2).alloc (.cells #[.int .i64 ek, .int .i64 en, .string et] 30)).alloc (.cells #[.int .i64 ek, .int .i64 en, .string et] 30)
        have hmd2 := ((hmd.touch0 ta).touch0 t2).touch0 tb
        have hone : RdK vdE ((w2.alloc (.cells #[.int .i64 ek, .int .i64 en, .string et] 30)).alloc (.cells #[.int .i64 ek, .int .i64 en, .string et] 30)) (some ⟨w2.heap.size + 1, 0, none⟩) [⟨ek, en, et⟩] := by
          have := RdK.one (enc := vdE) (w2.alloc (.cells #[.int .i64 ek, .int .i64 en, .string et] 30)) 30 ⟨ek, en, et⟩ #[.int .i64 ek, .int .i64 en, .string et] rfl
          rwa [World.size_alloc] at this
        go_wp2_with (at_builtin; refine stop ?_)
        refine go ?_
        refine wpList_appK rfl (.tmp 30) (.tmp 32) 25 rfl 30 _ 3 32 info_val4 Try.underlying25 rfl (by omega) vdE_length vdE_one D j cD _ Htl.out rfl hmd2.own
          (some ⟨w2.heap.size + 1, 0, none⟩) 1 1 [⟨ek, en, et⟩] rfl rfl hone (by omega) (by omega) ?_
        intro B5 cB5 w5 hown5 ht5 hf5
        go_wp2
        go_roundw
        case rel => exact ⟨j + 1, B5, cB5, by omega, by go_num, rfl, by rw [Hsn.out, List.map_append]; simp only [List.map_cons, List.map_nil]; rw [← Hev.out]; exact hmd2.step hown5 ht5 hf5, Hno2⟩
        case measure => simp [intOf]; omega
      · have e0 : (er != 0) = true := by simpa using he0
        have Hne := Lib.hid he0
        clear he0
        go_wp2_with fail
        refine Hc.out.mono ?_
        rintro e w2 ⟨rfl, t2⟩
        have tb := (Touch.refl [] w2).alloc (.cells #[.int .i64 ek, .int .i64 en, .string et] 30)
        go_wp2_with fail
        go_ret2
        refine ⟨((T2.trans0 ta).trans0 t2).trans0 tb, .inl ⟨a, Hfd.out (by rw [← Hev.out]; simpa using Hne.out) (fun b hb => by simpa using Hno.out b hb), by rw [← Hev.out]; rfl⟩⟩
    · obtain rfl : j = xm := by omega
      have htk : args.take j = args := by rw [Hn.out, List.take_length]
      rw [htk] at hmd Hno
      have Hmd := Lib.hid hmd
      go_wp2_with fail
      go_ret2
      exact ⟨Hmd.out.t, .inr ⟨Hno.out, D, cD, rfl, Hmd.out⟩⟩
end Go.Proofs.Ytlkckkagoommaaa

/- bywashlaw04.step says yes to what an expression that fits comes to. For every expression, schema and row. -/
namespace Go.Proofs.Ytlkckkagoommaaa
open Go.RowKit
attribute [local go_sem ↓] Go.wp_at_zero Go.wp_at_succ

/-- the error of what is not settled by the first Arg is that of the Args -/
theorem err_eq {cs : List CD} {row : List VD} {n : Nat} (d : ND) (args : List (TX n)) (hf : formV d args.length = true) (h1 : d.kind ≠ 1) (h2 : d.kind ≠ 2) (a : TX n) (r : List (TX n)) (hr : args = a :: r) (ha : (evalX cs row n a).2 = 0)
    (hA : d.op = wAnd → (evalX cs row n a).1.tru = true) (hO : d.op = wOr → ¬ (evalX cs row n a).1.tru = true) (hE : d.name = wEither → (evalX cs row n a).1.kind = 0) (hI : d.name ≠ wIf) (b : TX n) (hb : args.find? (fun a => decide ((evalX cs row n a).2 ≠ 0)) = some b) :
    (evalX cs row (n + 1) (d, args)).2 = (evalX cs row n b).2 := by
  have hs := shape hf h1 h2
  obtain ⟨k, nm, v, op⟩ := d
  subst hr
  simp only at hs hA hO hE hI
  have hbe : (evalX cs row n b).2 ≠ 0 := by simpa using List.find?_some hb
  have hr1 : r.find? (fun a => decide ((evalX cs row n a).2 ≠ 0)) = some b := by
    rw [List.find?_cons_of_neg (by simp [ha])] at hb
    exact hb
  rcases hs with ⟨hk, hl, hn, ho⟩ | ⟨hk, hl, hn, ho⟩ | ⟨hk, ho, hn⟩
  · have : r = [] := List.eq_nil_of_length_eq_zero (by simpa using hl)
    rw [this] at hr1; cases hr1
  · obtain ⟨b', rfl⟩ : ∃ b', r = [b'] := list1 (by simpa using hl)
    have e : b' = b := by
      by_cases q : (evalX cs row n b').2 ≠ 0
      · rw [List.find?_cons_of_pos (by simpa using q)] at hr1; exact Option.some.inj hr1
      · rw [List.find?_cons_of_neg (by simpa using q)] at hr1; cases hr1
    subst e
    subst hk hn
    by_cases eA : op = wAnd
    · rw [eA, ev_and, if_neg (by rw [ha]; simp), if_pos (hA eA)]
      unfold bitIf
      rw [if_neg (fun q => hbe q.1)]
    by_cases eO : op = wOr
    · rw [eO, ev_or, if_neg (by rw [ha]; simp), if_neg (hO eO)]
      unfold bitIf
      rw [if_neg (fun q => hbe q.1)]
    rw [ev2 cs row n ⟨4, S [], v, op⟩ a b' (show (4 : Int) ≠ 1 by decide) (show (4 : Int) ≠ 2 by decide) (lazy_none _ _ _ _ eA eO (S_ne (by decide)) (S_ne (by decide))), if_neg (by rw [ha]; simp), if_pos hbe]
  · subst hk ho
    rcases hn with ⟨hl, hn⟩ | ⟨hl, hn⟩ | ⟨hl, rfl⟩
    · have : r = [] := List.eq_nil_of_length_eq_zero (by simpa using hl)
      rw [this] at hr1; cases hr1
    · obtain ⟨b', rfl⟩ : ∃ b', r = [b'] := list1 (by simpa using hl)
      have e : b' = b := by
        by_cases q : (evalX cs row n b').2 ≠ 0
        · rw [List.find?_cons_of_pos (by simpa using q)] at hr1; exact Option.some.inj hr1
        · rw [List.find?_cons_of_neg (by simpa using q)] at hr1; cases hr1
      subst e
      rcases hn with rfl | rfl
      · rw [ev2 cs row n ⟨5, wCat, v, S []⟩ a b' (show (5 : Int) ≠ 1 by decide) (show (5 : Int) ≠ 2 by decide) (lazy_none _ _ _ _ (S_ne (by decide)) (S_ne (by decide)) (S_ne (by decide)) (S_ne (by decide))), if_neg (by rw [ha]; simp), if_pos hbe]
      · rw [ev_either, if_neg (by rw [ha]; simp), if_pos (hE rfl)]
    · exact absurd rfl hI

theorem names_of {d : ND} {n : Nat} (hf : formV d n = true) (h1 : d.kind ≠ 1) (h2 : d.kind ≠ 2) : (d.op = wAnd → d.name = S []) ∧ (d.op = wOr → d.name = S []) ∧ (d.name = wEither → d.op = S []) ∧ (d.name = wIf → d.op = S [] ∧ n = 3 ∧ d.kind = 5) := by
  have c1 : S [] ≠ wEither := S_ne (by decide)
  have c2 : S [] ≠ wIf := S_ne (by decide)
  have c3 : S [] ≠ wAnd := S_ne (by decide)
  have c4 : S [] ≠ wOr := S_ne (by decide)
  rcases shape hf h1 h2 with ⟨_, _, hn, _⟩ | ⟨_, _, hn, _⟩ | ⟨hk5, ho, hn⟩
  · exact ⟨fun _ => hn, fun _ => hn, fun q => absurd (hn.symm.trans q) c1, fun q => absurd (hn.symm.trans q) c2⟩
  · exact ⟨fun _ => hn, fun _ => hn, fun q => absurd (hn.symm.trans q) c1, fun q => absurd (hn.symm.trans q) c2⟩
  · refine ⟨fun q => absurd (ho.symm.trans q) c3, fun q => absurd (ho.symm.trans q) c4, fun _ => ho, fun q => ⟨ho, ?_, hk5⟩⟩
    rcases hn with ⟨_, h | h | h⟩ | ⟨_, h | h⟩ | ⟨h, _⟩
    · exact absurd (h.symm.trans q) (S_ne (by decide))
    · exact absurd (h.symm.trans q) (S_ne (by decide))
    · exact absurd (h.symm.trans q) (S_ne (by decide))
    · exact absurd (h.symm.trans q) (S_ne (by decide))
    · exact absurd (h.symm.trans q) (S_ne (by decide))
    · exact h

set_option maxRecDepth 100000 in
set_option maxHeartbeats 12800000 in
theorem step_ops (cs : List CD) (row : List VD) (n : Nat) (d : ND) (args : List (TX n)) (hck : checkV cs = 0) (hsz : sizeX (n + 1) ((d, args) : TX (n + 1)) ≤ 256) (hfit : fitR cs row = true) (hty : (typedX cs (n + 1) 1 ((d, args) : TX (n + 1))).2 = 0) (hk1 : d.kind ≠ 1) (hk2 : d.kind ≠ 2)
    (x : XC) (A : Option Addr) (cap m : Nat) (hm : cs.length = m) (hok : ∀ c ∈ cs, c.Ok) (B : Option Addr) (rc rm : Nat) (hrm : row.length = rm) (hvk : ∀ v ∈ row, v.Ok 9223372036854775807)
    (w : World) (hx : ExP xcE anyB (n + 1) w x ((d, args) : TX (n + 1))) (hcs : ColsAt w A cs) (hrow : ValsAt w B row) (hmb : m ≤ 140737000000000) (hrb : rm ≤ 140737000000000) (hall : allX (fun q => q.v.text.size ≤ 140737000000000) (n + 1) ((d, args) : TX (n + 1))) :
    Calls Try.prog 17 #[x.val, .slice A m cap, .slice B rm rc, (evalX cs row (n + 1) (d, args)).1.val, .int .i64 (evalX cs row (n + 1) (d, args)).2] w fun r w' => r = .returned (.bool true) ∧ Touch [] w w' := by
  have hsub := sub_top hck hsz hfit hty hk1 hk2
  have hf : formV d args.length = true := (typed_inv hty).1
  obtain ⟨h1, h2, h3⟩ := hx.args
  have hall2 : ∀ a ∈ args, allX (fun q => q.v.text.size ≤ 140737000000000) n a := hall.2
  have hpos := form_args hf hk1 hk2
  have hsum : sumX n args ≤ 1000000 := by have hs' : 1 + sumX n args ≤ 256 := hsz; omega
  have hsnd : ∀ a ∈ args, (evalX cs row n a).2 = 0 → (evalX cs row n a).1.right = true := fun a ha h0 => ((eval_sound hfit n 1 a (hsub a ha).1).1 h0).1
  have hev0 := evalX_at cs row n ((d, args) : TX (n + 1)) hk1 hk2 hpos
  obtain ⟨res, hres⟩ : ∃ r, r = evalX cs row (n + 1) (d, args) := ⟨_, rfl⟩
  have Hres := Lib.hid hres
  rw [← hres] at hev0 ⊢
  clear hres
  have hargs := fun w' (t : Touch [] w w') => args4_any cs row n args (fun a ha => (hsub a ha).2.2) x h2 A cap m hm hok B rc rm hrm hvk w' (h3.touch0 t) (hcs.touch0 t) (hrow.touch0 t) hmb hrb hsum hall2
  have hsub1 := fun a (ha : a ∈ args) (y : XC) w' (t : Touch [] w w') (hy : ExP xcE anyB n w' y a) => topB_any n a y A cap m cs hm hok B rc rm row hrm hvk w' hy (hcs.touch0 t) (hrow.touch0 t) hmb hrb (by have := size_mem ha; omega) (hall2 a ha)
  have Hx1 := Lib.hid h1
  obtain ⟨⟨k, nm, ⟨vk, vn, vt⟩, op⟩, XA, xm, c⟩ := x
  dsimp only at h2 h3
  have hkk : k = d.kind := congrArg ND.kind h1
  have hnm : nm = d.name := congrArg ND.name h1
  have hopp : op = d.op := congrArg ND.op h1
  have q1 : (k == 1) = false := by rw [hkk]; simpa using hk1
  have q2 : (k == 2) = false := by rw [hkk]; simpa using hk2
  simp only [XC.val] at hargs ⊢
  have t0 := ((Touch.refl [] w).alloc (.cells #[.int .i64 k, .string nm, .int .i64 vk, .int .i64 vn, .string vt, .string op, .slice XA xm c] 33))
  obtain ⟨⟨rk, rn, rt⟩, rx⟩ := res
  simp only [VD.val]
  have t1 := t0.alloc (.cells #[.int .i64 rk, .int .i64 rn, .string rt] 30)
  have hE := ((Touch.refl [] (w.alloc (.cells #[.int .i64 k, .string nm, .int .i64 vk, .int .i64 vn, .string vt, .string op, .slice XA xm c] 33))).alloc (.cells #[.int .i64 rk, .int .i64 rn, .string rt] 30)).blk (heap_alloc_new w (.cells #[.int .i64 k, .string nm, .int .i64 vk, .int .i64 vn, .string vt, .string op, .slice XA xm c] 33)) (by simp)
  have hV := heap_alloc_new (w.alloc (.cells #[.int .i64 k, .string nm, .int .i64 vk, .int .i64 vn, .string vt, .string op, .slice XA xm c] 33)) (.cells #[.int .i64 rk, .int .i64 rn, .string rt] 30)
  rw [World.size_alloc] at hV
  obtain ⟨ad, b, off, y, rfl, hadd, hy, hcell⟩ := (h3.touch0 t1).at_ xcE_length 0 hpos
  have hin := List.getElem_mem hpos
  obtain ⟨a0, ha0⟩ : ∃ a, a = args[0] := ⟨_, rfl⟩
  have hev1 : ((⟨⟨rk, rn, rt⟩, rx⟩ : VD × Int)) = if (evalX cs row n a0).2 ≠ 0 then (zeroV, (evalX cs row n a0).2) else match lazyX (evalX cs row n) d args (evalX cs row n a0).1 with
      | some z => z
      | none => if h : 1 < args.length then (if (evalX cs row n args[1]).2 ≠ 0 then (zeroV, (evalX cs row n args[1]).2) else bothV d (evalX cs row n a0).1 (evalX cs row n args[1]).1) else aloneV d (evalX cs row n a0).1 := by rw [ha0]; exact hev0
  clear hev0
  rw [← ha0] at hy hin
  have hc := hsub1 a0 hin y _ t1 hy
  rw [(hsub a0 hin).2.2] at hc
  have c0 := hcell 0 _ rfl; have c1 := hcell 1 _ rfl; have c2 := hcell 2 _ rfl; have c3 := hcell 3 _ rfl; have c4 := hcell 4 _ rfl; have c5 := hcell 5 _ rfl; have c6 := hcell 6 _ rfl
  rw [Nat.add_zero] at c0
  obtain ⟨⟨k2, nm2, ⟨vk2, vn2, vt2⟩, op2⟩, A2, m2, c2'⟩ := y
  simp only [XC.val] at hc
  simp only at c0 c1 c2 c3 c4 c5 c6
  obtain ⟨⟨⟨fk, fn, ft⟩, fe⟩, hfe⟩ : ∃ r, r = evalX cs row n a0 := ⟨_, rfl⟩
  rw [← hfe] at hc hev1
  simp only [VD.val] at hc
  have hxI : (0 : Int) < (xm : Int) := by rw [h2]; omega
  have Hc := Lib.hid hc; have Hev1 := Lib.hid hev1; have Hfe := Lib.hid hfe; have HE := Lib.hid hE; have HV := Lib.hid hV; have Hargs := Lib.hid hargs; have Hsub1 := Lib.hid hsub1
  have Hnm := Lib.hid hnm; have Hop := Lib.hid hopp; have H2 := Lib.hid h2; have Ha0 := Lib.hid ha0
  have Hcons := Lib.hid (show args = a0 :: args.drop (0 + 1) by rw [ha0]; exact List.drop_eq_getElem_cons hpos)
  clear hc hev1 hfe hE hV hcell hargs hsub1 hkk hnm hopp h2 ha0 h1
  by_cases hf0 : fe ≠ 0
  · have hx := Hev1.out
    rw [if_pos hf0] at hx
    simp only [Prod.mk.injEq] at hx
    obtain ⟨_, rfl⟩ := hx
    have q3 : (rx != 0) = true := by simpa using hf0
    clear hf0
    go_enter Try.func17, Try.ntmps17
    go_wp2_with fail
    refine Hc.out.mono ?_
    rintro e w1 ⟨rfl, u1⟩
    have tF := (Touch.refl [] w1).alloc (.cells #[.int .i64 fk, .int .i64 fn, .string ft] 30)
    go_wp2_with fail
    go_ret
    exact ⟨rfl, (t1.trans0 u1).trans0 tF⟩
  have hf0' : fe = 0 := by omega
  subst hf0'
  have hev2 := Hev1.out
  rw [if_neg hf0] at hev2
  have Hev2 := Lib.hid hev2
  clear hev2 Hev1 hf0
  obtain ⟨nA, nO, nE, nI⟩ := names_of hf hk1 hk2
  have qA := beq_S op [97, 110, 100]
  have qO := beq_S op [111, 114]
  have qE := beq_S nm [101, 105, 116, 104, 101, 114]
  have qI := beq_S nm [105, 102]
  rw [Hop.out] at qA qO
  rw [Hnm.out] at qE qI
  skip
  obtain ⟨bt, hbt⟩ : ∃ b, b = VD.tru ⟨fk, fn, ft⟩ := ⟨_, rfl⟩
  have Htr := Lib.hid fun w' => true_any ⟨fk, fn, ft⟩ w'
  rw [← hbt] at Htr
  simp only [VD.val] at Htr
  have Hbt := Lib.hid hbt
  clear hbt
  by_cases eA : d.op = wAnd
  · have hn := nA eA
    have eO : ¬ d.op = wOr := fun q => absurd (eA.symm.trans q) (S_ne (by decide))
    have eE : ¬ d.name = wEither := fun q => absurd (hn.symm.trans q) (S_ne (by decide))
    have hI : ¬ d.name = wIf := fun q => absurd (hn.symm.trans q) (S_ne (by decide))
    rw [decide_eq_true (p := d.op = S [97, 110, 100]) eA] at qA
    rw [decide_eq_false (p := d.op = S [111, 114]) eO] at qO
    rw [decide_eq_false (p := d.name = S [101, 105, 116, 104, 101, 114]) eE] at qE
    rw [decide_eq_false (p := d.name = S [105, 102]) hI] at qI
    rw [← Hop.out] at qA qO
    rw [← Hnm.out] at qE qI
    rcases bt with _ | _
    · have h2 := Hev2.out
      simp only at h2
      rw [lazyX_val _ _ _ _ (ofV 0) (by unfold lazyV; rw [if_pos eA, if_neg (by rw [← Hbt.out]; simp)])] at h2
      obtain ⟨h4, rfl⟩ := Prod.mk.inj h2
      have Hof := Lib.hid fun w' => of_any 0 w'
      rw [← h4] at Hof
      simp only [VD.val] at Hof
      clear h2 h4 eA eO eE hI hn nA nO nE nI
      have heq := fun w' => eqIn_val ⟨rk, rn, rt⟩ ⟨rk, rn, rt⟩ w'
      rw [(eqV3_iff _ _).2 rfl] at heq
      simp only at heq
      have hgd := guard_val
      go_enter Try.func17, Try.ntmps17
      go_wp2_with fail
      refine Hc.out.mono ?_
      rintro e w1 ⟨rfl, u1⟩
      have hE1 : (w1.alloc (.cells #[.int .i64 fk, .int .i64 fn, .string ft] 30)).heap[w.heap.size]? = some (.cells #[.int .i64 k, .string nm, .int .i64 vk, .int .i64 vn, .string vt, .string op, .slice (some ad) xm c] 33) := ((Touch.refl [] w1).alloc _).blk (u1.blk HE.out (by simp)) (by simp)
      have hV1 : (w1.alloc (.cells #[.int .i64 fk, .int .i64 fn, .string ft] 30)).heap[w.heap.size + 1]? = some (.cells #[.int .i64 rk, .int .i64 rn, .string rt] 30) := ((Touch.refl [] w1).alloc _).blk (u1.blk HV.out (by simp)) (by simp)
      have hF1 : (w1.alloc (.cells #[.int .i64 fk, .int .i64 fn, .string ft] 30)).heap[w1.heap.size]? = some (.cells #[.int .i64 fk, .int .i64 fn, .string ft] 30) := heap_alloc_new w1 _
      have tR := (t1.trans0 u1).trans0 ((Touch.refl [] w1).alloc (.cells #[.int .i64 fk, .int .i64 fn, .string ft] 30))
      obtain ⟨e0, e1, e2, e3, e4, e5, e6, _⟩ := blk7 hE1
      obtain ⟨v0, v1, v2, _⟩ := blk3 hV1
      obtain ⟨f0, f1, f2, _⟩ := blk3 hF1
      go_wp2_with fail
      clear e0 e1 e2 e3 e4 e5 e6 v0 v1 v2 f0 f1 f2
      refine (Htr.out _).mono ?_
      rintro e w2 ⟨rfl, u2⟩
      obtain ⟨e0, e1, e2, e3, e4, e5, e6, _⟩ := blk7 (u2.blk hE1 (by simp))
      obtain ⟨v0, v1, v2, _⟩ := blk3 (u2.blk hV1 (by simp))
      obtain ⟨f0, f1, f2, _⟩ := blk3 (u2.blk hF1 (by simp))
      go_wp2_with fail
      clear e0 e1 e2 e3 e4 e5 e6 v0 v1 v2 f0 f1 f2
      obtain ⟨v0', v1', v2', _⟩ := blk3 (u2.blk hV1 (by simp))
      have v0 := TW.cell v0'
      have v1 := TW.cell v1'
      have v2 := TW.cell v2'
      clear v0' v1' v2'
      refine wp_region_tw w2 (Touch.refl _ _) (by kernel_rfl) (by kernel_rfl) ?_
      repeat (go_big_quiet_step (((go_at_call 23; exact Calls.tw _ (Hof.out _)))))
      refine wpQuiet_nil ?_
      rintro _ ⟨y, rfl⟩
      go_wp2_with fail
      go_ret
      exact ⟨rfl, (tR.trans0 u2).trans0 y.t⟩
    · have hA : d.op = wAnd → VD.tru ⟨fk, fn, ft⟩ = true := fun q => Hbt.out.symm
      have hO : d.op = wOr → ¬ VD.tru ⟨fk, fn, ft⟩ = true := fun q => absurd q eO
      have hE : d.name = wEither → fk = 0 := fun q => absurd q eE
      clear eA eO eE hn nA nO nE nI
      go_enter Try.func17, Try.ntmps17
      go_wp2_with fail
      refine Hc.out.mono ?_
      rintro e w1 ⟨rfl, u1⟩
      have hE1 : (w1.alloc (.cells #[.int .i64 fk, .int .i64 fn, .string ft] 30)).heap[w.heap.size]? = some (.cells #[.int .i64 k, .string nm, .int .i64 vk, .int .i64 vn, .string vt, .string op, .slice (some ad) xm c] 33) := ((Touch.refl [] w1).alloc _).blk (u1.blk HE.out (by simp)) (by simp)
      have hV1 : (w1.alloc (.cells #[.int .i64 fk, .int .i64 fn, .string ft] 30)).heap[w.heap.size + 1]? = some (.cells #[.int .i64 rk, .int .i64 rn, .string rt] 30) := ((Touch.refl [] w1).alloc _).blk (u1.blk HV.out (by simp)) (by simp)
      have hF1 : (w1.alloc (.cells #[.int .i64 fk, .int .i64 fn, .string ft] 30)).heap[w1.heap.size]? = some (.cells #[.int .i64 fk, .int .i64 fn, .string ft] 30) := heap_alloc_new w1 _
      have tR := (t1.trans0 u1).trans0 ((Touch.refl [] w1).alloc (.cells #[.int .i64 fk, .int .i64 fn, .string ft] 30))
      obtain ⟨e0, e1, e2, e3, e4, e5, e6, _⟩ := blk7 hE1
      obtain ⟨v0, v1, v2, _⟩ := blk3 hV1
      obtain ⟨f0, f1, f2, _⟩ := blk3 hF1
      go_wp2_with fail
      clear e0 e1 e2 e3 e4 e5 e6 v0 v1 v2 f0 f1 f2
      refine (Htr.out _).mono ?_
      rintro e w2 ⟨rfl, u2⟩
      obtain ⟨e0, e1, e2, e3, e4, e5, e6, _⟩ := blk7 (u2.blk hE1 (by simp))
      obtain ⟨v0, v1, v2, _⟩ := blk3 (u2.blk hV1 (by simp))
      obtain ⟨f0, f1, f2, _⟩ := blk3 (u2.blk hF1 (by simp))
      go_wp2_with fail
      clear e0 e1 e2 e3 e4 e5 e6 v0 v1 v2 f0 f1 f2
      have HEt := Lib.hid fun w' (t : Touch [] w2 w') => t.blk (u2.blk hE1 (by simp)) (by simp)
      have HVt := Lib.hid fun w' (t : Touch [] w2 w') => t.blk (u2.blk hV1 (by simp)) (by simp)
      refine (Hargs.out _ (tR.trans0 u2)).mono ?_
      rintro e w3 ⟨u3, hpost⟩
      have T3 : Touch [] w w3 := (tR.trans0 u2).trans0 u3
      rcases hpost with ⟨b', hfind, rfl⟩ | ⟨hz, Bv, cv, rfl, hmd⟩
      · have hre := err_eq d args hf hk1 hk2 a0 (args.drop (0 + 1)) Hcons.out (by rw [← Hfe.out]) (fun q => by rw [← Hfe.out]; exact hA q) (fun q => by rw [← Hfe.out]; exact hO q) (fun q => by rw [← Hfe.out]; exact hE q) hI b' hfind
        rw [← Hres.out] at hre
        have hne : (evalX cs row n b').2 ≠ 0 := by simpa using List.find?_some hfind
        obtain ⟨eb, heb⟩ : ∃ r, r = (evalX cs row n b').2 := ⟨_, rfl⟩
        rw [← heb] at hre hne ⊢
        have hre : rx = eb := hre
        subst hre
        have q3 : (rx != 0) = true := by simpa using hne
        clear hne heb hfind
        go_wp2_with fail
        go_ret
        exact ⟨rfl, T3⟩
      · have hlen : (args.map fun a => (evalX cs row n a).1).length = xm := by rw [List.length_map, H2.out]
        obtain ⟨g, rfl⟩ : ∃ g, Bv = some ⟨g, 0, none⟩ := by
          rcases hmd.own.head with ⟨_, q, _⟩ | ⟨g, q⟩
          · have := congrArg List.length q; rw [List.length_map, List.length_nil] at this; omega
          · exact ⟨g, q⟩
        have hw := fun w' (t : Touch [] w3 w') => wholeX d args hf hk1 hk2 (fun a ha => ⟨hz a ha, hsnd a ha (hz a ha)⟩) (fun a r q q' => by rw [← (List.cons.inj (Hcons.out.symm.trans q)).1, ← Hfe.out]; exact hA q') (fun a r q q' => by rw [← (List.cons.inj (Hcons.out.symm.trans q)).1, ← Hfe.out]; exact hO q') (fun a r q q' => by rw [← (List.cons.inj (Hcons.out.symm.trans q)).1, ← Hfe.out]; exact hE q') hI ⟨⟨k, nm, ⟨vk, vn, vt⟩, op⟩, some ad, xm, c⟩ Hx1.out g cv w' (hmd.own.rd.touch0 t)
        rw [hlen, ← Hres.out] at hw
        simp only [XC.val, VD.val] at hw
        have Hw := Lib.hid hw
        clear hw hlen hmd
        have hE3 := HEt.out w3 u3
        have hV3 := HVt.out w3 u3
        obtain ⟨e0, e1, e2, e3, e4, e5, e6, _⟩ := blk7 hE3
        obtain ⟨v0, v1, v2, _⟩ := blk3 hV3
        go_wp2_with fail
        refine (Hw.out _ (Touch.refl _ _)).mono ?_
        rintro e w4 ⟨rfl, u4⟩
        go_wp2_with fail
        go_ret
        exact ⟨rfl, T3.trans0 u4⟩
  by_cases eO : d.op = wOr
  · have hn := nO eO
    have eE : ¬ d.name = wEither := fun q => absurd (hn.symm.trans q) (S_ne (by decide))
    have hI : ¬ d.name = wIf := fun q => absurd (hn.symm.trans q) (S_ne (by decide))
    rw [decide_eq_false (p := d.op = S [97, 110, 100]) eA] at qA
    rw [decide_eq_true (p := d.op = S [111, 114]) eO] at qO
    rw [decide_eq_false (p := d.name = S [101, 105, 116, 104, 101, 114]) eE] at qE
    rw [decide_eq_false (p := d.name = S [105, 102]) hI] at qI
    rw [← Hop.out] at qA qO
    rw [← Hnm.out] at qE qI
    rcases bt with _ | _
    · have hA : d.op = wAnd → VD.tru ⟨fk, fn, ft⟩ = true := fun q => absurd q eA
      have hO : d.op = wOr → ¬ VD.tru ⟨fk, fn, ft⟩ = true := fun q => by rw [← Hbt.out]; simp
      have hE : d.name = wEither → fk = 0 := fun q => absurd q eE
      clear eA eO eE hn nA nO nE nI
      go_enter Try.func17, Try.ntmps17
      go_wp2_with fail
      refine Hc.out.mono ?_
      rintro e w1 ⟨rfl, u1⟩
      have hE1 : (w1.alloc (.cells #[.int .i64 fk, .int .i64 fn, .string ft] 30)).heap[w.heap.size]? = some (.cells #[.int .i64 k, .string nm, .int .i64 vk, .int .i64 vn, .string vt, .string op, .slice (some ad) xm c] 33) := ((Touch.refl [] w1).alloc _).blk (u1.blk HE.out (by simp)) (by simp)
      have hV1 : (w1.alloc (.cells #[.int .i64 fk, .int .i64 fn, .string ft] 30)).heap[w.heap.size + 1]? = some (.cells #[.int .i64 rk, .int .i64 rn, .string rt] 30) := ((Touch.refl [] w1).alloc _).blk (u1.blk HV.out (by simp)) (by simp)
      have hF1 : (w1.alloc (.cells #[.int .i64 fk, .int .i64 fn, .string ft] 30)).heap[w1.heap.size]? = some (.cells #[.int .i64 fk, .int .i64 fn, .string ft] 30) := heap_alloc_new w1 _
      have tR := (t1.trans0 u1).trans0 ((Touch.refl [] w1).alloc (.cells #[.int .i64 fk, .int .i64 fn, .string ft] 30))
      obtain ⟨e0, e1, e2, e3, e4, e5, e6, _⟩ := blk7 hE1
      obtain ⟨v0, v1, v2, _⟩ := blk3 hV1
      obtain ⟨f0, f1, f2, _⟩ := blk3 hF1
      go_wp2_with fail
      clear e0 e1 e2 e3 e4 e5 e6 v0 v1 v2 f0 f1 f2
      refine (Htr.out _).mono ?_
      rintro e w2 ⟨rfl, u2⟩
      obtain ⟨e0, e1, e2, e3, e4, e5, e6, _⟩ := blk7 (u2.blk hE1 (by simp))
      obtain ⟨v0, v1, v2, _⟩ := blk3 (u2.blk hV1 (by simp))
      obtain ⟨f0, f1, f2, _⟩ := blk3 (u2.blk hF1 (by simp))
      go_wp2_with fail
      clear e0 e1 e2 e3 e4 e5 e6 v0 v1 v2 f0 f1 f2
      have HEt := Lib.hid fun w' (t : Touch [] w2 w') => t.blk (u2.blk hE1 (by simp)) (by simp)
      have HVt := Lib.hid fun w' (t : Touch [] w2 w') => t.blk (u2.blk hV1 (by simp)) (by simp)
      refine (Hargs.out _ (tR.trans0 u2)).mono ?_
      rintro e w3 ⟨u3, hpost⟩
      have T3 : Touch [] w w3 := (tR.trans0 u2).trans0 u3
      rcases hpost with ⟨b', hfind, rfl⟩ | ⟨hz, Bv, cv, rfl, hmd⟩
      · have hre := err_eq d args hf hk1 hk2 a0 (args.drop (0 + 1)) Hcons.out (by rw [← Hfe.out]) (fun q => by rw [← Hfe.out]; exact hA q) (fun q => by rw [← Hfe.out]; exact hO q) (fun q => by rw [← Hfe.out]; exact hE q) hI b' hfind
        rw [← Hres.out] at hre
        have hne : (evalX cs row n b').2 ≠ 0 := by simpa using List.find?_some hfind
        obtain ⟨eb, heb⟩ : ∃ r, r = (evalX cs row n b').2 := ⟨_, rfl⟩
        rw [← heb] at hre hne ⊢
        have hre : rx = eb := hre
        subst hre
        have q3 : (rx != 0) = true := by simpa using hne
        clear hne heb hfind
        go_wp2_with fail
        go_ret
        exact ⟨rfl, T3⟩
      · have hlen : (args.map fun a => (evalX cs row n a).1).length = xm := by rw [List.length_map, H2.out]
        obtain ⟨g, rfl⟩ : ∃ g, Bv = some ⟨g, 0, none⟩ := by
          rcases hmd.own.head with ⟨_, q, _⟩ | ⟨g, q⟩
          · have := congrArg List.length q; rw [List.length_map, List.length_nil] at this; omega
          · exact ⟨g, q⟩
        have hw := fun w' (t : Touch [] w3 w') => wholeX d args hf hk1 hk2 (fun a ha => ⟨hz a ha, hsnd a ha (hz a ha)⟩) (fun a r q q' => by rw [← (List.cons.inj (Hcons.out.symm.trans q)).1, ← Hfe.out]; exact hA q') (fun a r q q' => by rw [← (List.cons.inj (Hcons.out.symm.trans q)).1, ← Hfe.out]; exact hO q') (fun a r q q' => by rw [← (List.cons.inj (Hcons.out.symm.trans q)).1, ← Hfe.out]; exact hE q') hI ⟨⟨k, nm, ⟨vk, vn, vt⟩, op⟩, some ad, xm, c⟩ Hx1.out g cv w' (hmd.own.rd.touch0 t)
        rw [hlen, ← Hres.out] at hw
        simp only [XC.val, VD.val] at hw
        have Hw := Lib.hid hw
        clear hw hlen hmd
        have hE3 := HEt.out w3 u3
        have hV3 := HVt.out w3 u3
        obtain ⟨e0, e1, e2, e3, e4, e5, e6, _⟩ := blk7 hE3
        obtain ⟨v0, v1, v2, _⟩ := blk3 hV3
        go_wp2_with fail
        refine (Hw.out _ (Touch.refl _ _)).mono ?_
        rintro e w4 ⟨rfl, u4⟩
        go_wp2_with fail
        go_ret
        exact ⟨rfl, T3.trans0 u4⟩
    · have h2 := Hev2.out
      simp only at h2
      rw [lazyX_val _ _ _ _ (ofV 1) (by unfold lazyV; rw [if_neg eA, if_pos eO, if_pos Hbt.out.symm])] at h2
      obtain ⟨h4, rfl⟩ := Prod.mk.inj h2
      have Hof := Lib.hid fun w' => of_any 1 w'
      rw [← h4] at Hof
      simp only [VD.val] at Hof
      clear h2 h4 eA eO eE hI hn nA nO nE nI
      have heq := fun w' => eqIn_val ⟨rk, rn, rt⟩ ⟨rk, rn, rt⟩ w'
      rw [(eqV3_iff _ _).2 rfl] at heq
      simp only at heq
      have hgd := guard_val
      go_enter Try.func17, Try.ntmps17
      go_wp2_with fail
      refine Hc.out.mono ?_
      rintro e w1 ⟨rfl, u1⟩
      have hE1 : (w1.alloc (.cells #[.int .i64 fk, .int .i64 fn, .string ft] 30)).heap[w.heap.size]? = some (.cells #[.int .i64 k, .string nm, .int .i64 vk, .int .i64 vn, .string vt, .string op, .slice (some ad) xm c] 33) := ((Touch.refl [] w1).alloc _).blk (u1.blk HE.out (by simp)) (by simp)
      have hV1 : (w1.alloc (.cells #[.int .i64 fk, .int .i64 fn, .string ft] 30)).heap[w.heap.size + 1]? = some (.cells #[.int .i64 rk, .int .i64 rn, .string rt] 30) := ((Touch.refl [] w1).alloc _).blk (u1.blk HV.out (by simp)) (by simp)
      have hF1 : (w1.alloc (.cells #[.int .i64 fk, .int .i64 fn, .string ft] 30)).heap[w1.heap.size]? = some (.cells #[.int .i64 fk, .int .i64 fn, .string ft] 30) := heap_alloc_new w1 _
      have tR := (t1.trans0 u1).trans0 ((Touch.refl [] w1).alloc (.cells #[.int .i64 fk, .int .i64 fn, .string ft] 30))
      obtain ⟨e0, e1, e2, e3, e4, e5, e6, _⟩ := blk7 hE1
      obtain ⟨v0, v1, v2, _⟩ := blk3 hV1
      obtain ⟨f0, f1, f2, _⟩ := blk3 hF1
      go_wp2_with fail
      clear e0 e1 e2 e3 e4 e5 e6 v0 v1 v2 f0 f1 f2
      refine (Htr.out _).mono ?_
      rintro e w2 ⟨rfl, u2⟩
      obtain ⟨e0, e1, e2, e3, e4, e5, e6, _⟩ := blk7 (u2.blk hE1 (by simp))
      obtain ⟨v0, v1, v2, _⟩ := blk3 (u2.blk hV1 (by simp))
      obtain ⟨f0, f1, f2, _⟩ := blk3 (u2.blk hF1 (by simp))
      go_wp2_with fail
      clear e0 e1 e2 e3 e4 e5 e6 v0 v1 v2 f0 f1 f2
      obtain ⟨v0', v1', v2', _⟩ := blk3 (u2.blk hV1 (by simp))
      have v0 := TW.cell v0'
      have v1 := TW.cell v1'
      have v2 := TW.cell v2'
      clear v0' v1' v2'
      refine wp_region_tw w2 (Touch.refl _ _) (by kernel_rfl) (by kernel_rfl) ?_
      repeat (go_big_quiet_step (((go_at_call 23; exact Calls.tw _ (Hof.out _)))))
      refine wpQuiet_nil ?_
      rintro _ ⟨y, rfl⟩
      go_wp2_with fail
      go_ret
      exact ⟨rfl, (tR.trans0 u2).trans0 y.t⟩
  by_cases eE : d.name = wEither
  · have hn := nE eE
    have hI : ¬ d.name = wIf := fun q => absurd (eE.symm.trans q) (S_ne (by decide))
    rw [decide_eq_false (p := d.op = S [97, 110, 100]) eA] at qA
    rw [decide_eq_false (p := d.op = S [111, 114]) eO] at qO
    rw [decide_eq_true (p := d.name = S [101, 105, 116, 104, 101, 114]) eE] at qE
    rw [decide_eq_false (p := d.name = S [105, 102]) hI] at qI
    rw [← Hop.out] at qA qO
    rw [← Hnm.out] at qE qI
    by_cases hk0 : fk = 0
    · have qk : (fk != 0) = false := by simpa using hk0
      have hA : d.op = wAnd → VD.tru ⟨fk, fn, ft⟩ = true := fun q => absurd q eA
      have hO : d.op = wOr → ¬ VD.tru ⟨fk, fn, ft⟩ = true := fun q => absurd q eO
      have Hk0 := Lib.hid hk0
      have hE : d.name = wEither → fk = 0 := fun _ => Hk0.out
      clear eA eO eE hn nA nO nE nI hk0
      go_enter Try.func17, Try.ntmps17
      go_wp2_with fail
      refine Hc.out.mono ?_
      rintro e w1 ⟨rfl, u1⟩
      have hE1 : (w1.alloc (.cells #[.int .i64 fk, .int .i64 fn, .string ft] 30)).heap[w.heap.size]? = some (.cells #[.int .i64 k, .string nm, .int .i64 vk, .int .i64 vn, .string vt, .string op, .slice (some ad) xm c] 33) := ((Touch.refl [] w1).alloc _).blk (u1.blk HE.out (by simp)) (by simp)
      have hV1 : (w1.alloc (.cells #[.int .i64 fk, .int .i64 fn, .string ft] 30)).heap[w.heap.size + 1]? = some (.cells #[.int .i64 rk, .int .i64 rn, .string rt] 30) := ((Touch.refl [] w1).alloc _).blk (u1.blk HV.out (by simp)) (by simp)
      have hF1 : (w1.alloc (.cells #[.int .i64 fk, .int .i64 fn, .string ft] 30)).heap[w1.heap.size]? = some (.cells #[.int .i64 fk, .int .i64 fn, .string ft] 30) := heap_alloc_new w1 _
      have tR := (t1.trans0 u1).trans0 ((Touch.refl [] w1).alloc (.cells #[.int .i64 fk, .int .i64 fn, .string ft] 30))
      obtain ⟨e0, e1, e2, e3, e4, e5, e6, _⟩ := blk7 hE1
      obtain ⟨v0, v1, v2, _⟩ := blk3 hV1
      obtain ⟨f0, f1, f2, _⟩ := blk3 hF1
      go_wp2_with fail
      clear e0 e1 e2 e3 e4 e5 e6 v0 v1 v2 f0 f1 f2
      have HEt := Lib.hid fun w' (t : Touch [] (w1.alloc (.cells #[.int .i64 fk, .int .i64 fn, .string ft] 30)) w') => t.blk (hE1) (by simp)
      have HVt := Lib.hid fun w' (t : Touch [] (w1.alloc (.cells #[.int .i64 fk, .int .i64 fn, .string ft] 30)) w') => t.blk (hV1) (by simp)
      refine (Hargs.out _ tR).mono ?_
      rintro e w3 ⟨u3, hpost⟩
      have T3 : Touch [] w w3 := tR.trans0 u3
      rcases hpost with ⟨b', hfind, rfl⟩ | ⟨hz, Bv, cv, rfl, hmd⟩
      · have hre := err_eq d args hf hk1 hk2 a0 (args.drop (0 + 1)) Hcons.out (by rw [← Hfe.out]) (fun q => by rw [← Hfe.out]; exact hA q) (fun q => by rw [← Hfe.out]; exact hO q) (fun q => by rw [← Hfe.out]; exact hE q) hI b' hfind
        rw [← Hres.out] at hre
        have hne : (evalX cs row n b').2 ≠ 0 := by simpa using List.find?_some hfind
        obtain ⟨eb, heb⟩ : ∃ r, r = (evalX cs row n b').2 := ⟨_, rfl⟩
        rw [← heb] at hre hne ⊢
        have hre : rx = eb := hre
        subst hre
        have q3 : (rx != 0) = true := by simpa using hne
        clear hne heb hfind
        go_wp2_with fail
        go_ret
        exact ⟨rfl, T3⟩
      · have hlen : (args.map fun a => (evalX cs row n a).1).length = xm := by rw [List.length_map, H2.out]
        obtain ⟨g, rfl⟩ : ∃ g, Bv = some ⟨g, 0, none⟩ := by
          rcases hmd.own.head with ⟨_, q, _⟩ | ⟨g, q⟩
          · have := congrArg List.length q; rw [List.length_map, List.length_nil] at this; omega
          · exact ⟨g, q⟩
        have hw := fun w' (t : Touch [] w3 w') => wholeX d args hf hk1 hk2 (fun a ha => ⟨hz a ha, hsnd a ha (hz a ha)⟩) (fun a r q q' => by rw [← (List.cons.inj (Hcons.out.symm.trans q)).1, ← Hfe.out]; exact hA q') (fun a r q q' => by rw [← (List.cons.inj (Hcons.out.symm.trans q)).1, ← Hfe.out]; exact hO q') (fun a r q q' => by rw [← (List.cons.inj (Hcons.out.symm.trans q)).1, ← Hfe.out]; exact hE q') hI ⟨⟨k, nm, ⟨vk, vn, vt⟩, op⟩, some ad, xm, c⟩ Hx1.out g cv w' (hmd.own.rd.touch0 t)
        rw [hlen, ← Hres.out] at hw
        simp only [XC.val, VD.val] at hw
        have Hw := Lib.hid hw
        clear hw hlen hmd
        have hE3 := HEt.out w3 u3
        have hV3 := HVt.out w3 u3
        obtain ⟨e0, e1, e2, e3, e4, e5, e6, _⟩ := blk7 hE3
        obtain ⟨v0, v1, v2, _⟩ := blk3 hV3
        go_wp2_with fail
        refine (Hw.out _ (Touch.refl _ _)).mono ?_
        rintro e w4 ⟨rfl, u4⟩
        go_wp2_with fail
        go_ret
        exact ⟨rfl, T3.trans0 u4⟩
    · have qk : (fk != 0) = true := by simpa using hk0
      have h2 := Hev2.out
      simp only at h2
      rw [lazyX_val _ _ _ _ ⟨fk, fn, ft⟩ (by unfold lazyV; rw [if_neg eA, if_neg eO, if_pos eE, if_neg hk0])] at h2
      obtain ⟨h4, rfl⟩ := Prod.mk.inj h2
      clear h2
      cases h4
      clear eA eO eE hI hn nA nO nE nI hk0
      have heq := fun w' => eqIn_val ⟨rk, rn, rt⟩ ⟨rk, rn, rt⟩ w'
      rw [(eqV3_iff _ _).2 rfl] at heq
      simp only at heq
      have hgd := guard_val
      go_enter Try.func17, Try.ntmps17
      go_wp2_with fail
      refine Hc.out.mono ?_
      rintro e w1 ⟨rfl, u1⟩
      have hE1 : (w1.alloc (.cells #[.int .i64 rk, .int .i64 rn, .string rt] 30)).heap[w.heap.size]? = some (.cells #[.int .i64 k, .string nm, .int .i64 vk, .int .i64 vn, .string vt, .string op, .slice (some ad) xm c] 33) := ((Touch.refl [] w1).alloc _).blk (u1.blk HE.out (by simp)) (by simp)
      have hV1 : (w1.alloc (.cells #[.int .i64 rk, .int .i64 rn, .string rt] 30)).heap[w.heap.size + 1]? = some (.cells #[.int .i64 rk, .int .i64 rn, .string rt] 30) := ((Touch.refl [] w1).alloc _).blk (u1.blk HV.out (by simp)) (by simp)
      have hF1 : (w1.alloc (.cells #[.int .i64 rk, .int .i64 rn, .string rt] 30)).heap[w1.heap.size]? = some (.cells #[.int .i64 rk, .int .i64 rn, .string rt] 30) := heap_alloc_new w1 _
      have tR := (t1.trans0 u1).trans0 ((Touch.refl [] w1).alloc (.cells #[.int .i64 rk, .int .i64 rn, .string rt] 30))
      obtain ⟨e0, e1, e2, e3, e4, e5, e6, _⟩ := blk7 hE1
      obtain ⟨v0, v1, v2, _⟩ := blk3 hV1
      obtain ⟨f0, f1, f2, _⟩ := blk3 hF1
      go_wp2_with fail
      go_ret
      exact ⟨rfl, tR⟩
  by_cases eI : d.name = wIf
  · obtain ⟨_, hn3, hk5⟩ := nI eI
    have hx1I : (1 : Int) < (xm : Int) := by have := H2.out; omega
    have hx2I : (2 : Int) < (xm : Int) := by have := H2.out; omega
    rw [decide_eq_false (p := d.op = S [97, 110, 100]) eA] at qA
    rw [decide_eq_false (p := d.op = S [111, 114]) eO] at qO
    rw [decide_eq_false (p := d.name = S [101, 105, 116, 104, 101, 114]) eE] at qE
    rw [decide_eq_true (p := d.name = S [105, 102]) eI] at qI
    rw [← Hop.out] at qA qO
    rw [← Hnm.out] at qE qI
    rcases bt with _ | _
    · have hj : 2 < args.length := by omega
      have h2 := Hev2.out
      simp only at h2
      rw [lazyX_arg _ _ _ _ 2 (args[2]) (by unfold lazyV; rw [if_neg eA, if_neg eO, if_neg eE, if_pos eI, ← Hbt.out]; rfl) (List.getElem?_eq_getElem hj)] at h2
      have hbi : bitIf d.kind (evalX cs row n args[2]) = evalX cs row n args[2] := by unfold bitIf; rw [if_neg (fun q => by rw [hk5] at q; exact absurd q.2 (by decide))]
      have h5 : ((⟨⟨rk, rn, rt⟩, rx⟩ : VD × Int)) = evalX cs row n args[2] := h2.trans hbi
      have hmj := List.getElem_mem hj
      have hs2 := (hsub _ hmj).2.2
      rw [← h5] at hs2
      have Hs2 := Lib.hid hs2
      clear h2 hbi h5 hs2 eA eO eE eI nA nO nE nI hn3 hk5
      have heq := fun w' => eqIn_val ⟨rk, rn, rt⟩ ⟨rk, rn, rt⟩ w'
      rw [(eqV3_iff _ _).2 rfl] at heq
      simp only at heq
      have hgd := guard_val
      go_enter Try.func17, Try.ntmps17
      go_wp2_with fail
      refine Hc.out.mono ?_
      rintro e w1 ⟨rfl, u1⟩
      have hE1 : (w1.alloc (.cells #[.int .i64 fk, .int .i64 fn, .string ft] 30)).heap[w.heap.size]? = some (.cells #[.int .i64 k, .string nm, .int .i64 vk, .int .i64 vn, .string vt, .string op, .slice (some ad) xm c] 33) := ((Touch.refl [] w1).alloc _).blk (u1.blk HE.out (by simp)) (by simp)
      have hV1 : (w1.alloc (.cells #[.int .i64 fk, .int .i64 fn, .string ft] 30)).heap[w.heap.size + 1]? = some (.cells #[.int .i64 rk, .int .i64 rn, .string rt] 30) := ((Touch.refl [] w1).alloc _).blk (u1.blk HV.out (by simp)) (by simp)
      have hF1 : (w1.alloc (.cells #[.int .i64 fk, .int .i64 fn, .string ft] 30)).heap[w1.heap.size]? = some (.cells #[.int .i64 fk, .int .i64 fn, .string ft] 30) := heap_alloc_new w1 _
      have tR := (t1.trans0 u1).trans0 ((Touch.refl [] w1).alloc (.cells #[.int .i64 fk, .int .i64 fn, .string ft] 30))
      obtain ⟨e0, e1, e2, e3, e4, e5, e6, _⟩ := blk7 hE1
      obtain ⟨v0, v1, v2, _⟩ := blk3 hV1
      obtain ⟨f0, f1, f2, _⟩ := blk3 hF1
      go_wp2_with fail
      clear e0 e1 e2 e3 e4 e5 e6 v0 v1 v2 f0 f1 f2
      refine (Htr.out _).mono ?_
      rintro e w2 ⟨rfl, u2⟩
      obtain ⟨ad1, b1, off1, y1, e1', hadd1, hy1, hcell1⟩ := (h3.touch0 (tR.trans0 u2)).at_ xcE_length 2 hj
      cases e1'
      have d0 := hcell1 0 _ rfl; have d1 := hcell1 1 _ rfl; have d2 := hcell1 2 _ rfl; have d3 := hcell1 3 _ rfl; have d4 := hcell1 4 _ rfl; have d5 := hcell1 5 _ rfl; have d6 := hcell1 6 _ rfl
      rw [Nat.add_zero] at d0
      have hc1 := Hsub1.out _ hmj y1 w2 (tR.trans0 u2) hy1
      rw [Hs2.out] at hc1
      obtain ⟨⟨k4, nm4, ⟨vk4, vn4, vt4⟩, op4⟩, A4, m4, c4'⟩ := y1
      simp only [XC.val, VD.val] at hc1
      simp only at d0 d1 d2 d3 d4 d5 d6
      have Hc1 := Lib.hid hc1
      clear hc1 hcell1 hy1
      obtain ⟨e0, e1, e2, e3, e4, e5, e6, _⟩ := blk7 (u2.blk hE1 (by simp))
      obtain ⟨v0, v1, v2, _⟩ := blk3 (u2.blk hV1 (by simp))
      obtain ⟨f0, f1, f2, _⟩ := blk3 (u2.blk hF1 (by simp))
      go_wp2_with fail
      clear e0 e1 e2 e3 e4 e5 e6 v0 v1 v2 f0 f1 f2
      clear d0 d1 d2 d3 d4 d5 d6
      refine Hc1.out.mono ?_
      rintro e w3 ⟨rfl, u3⟩
      have tG := (Touch.refl [] w3).alloc (.cells #[.int .i64 rk, .int .i64 rn, .string rt] 30)
      obtain ⟨v0, v1, v2, _⟩ := blk3 (tG.blk (u3.blk (u2.blk hV1 (by simp)) (by simp)) (by simp))
      go_wp2_with fail
      go_ret
      exact ⟨rfl, ((tR.trans0 u2).trans0 u3).trans0 tG⟩
    · have hj : 1 < args.length := by omega
      have h2 := Hev2.out
      simp only at h2
      rw [lazyX_arg _ _ _ _ 1 (args[1]) (by unfold lazyV; rw [if_neg eA, if_neg eO, if_neg eE, if_pos eI, ← Hbt.out]; rfl) (List.getElem?_eq_getElem hj)] at h2
      have hbi : bitIf d.kind (evalX cs row n args[1]) = evalX cs row n args[1] := by unfold bitIf; rw [if_neg (fun q => by rw [hk5] at q; exact absurd q.2 (by decide))]
      have h5 : ((⟨⟨rk, rn, rt⟩, rx⟩ : VD × Int)) = evalX cs row n args[1] := h2.trans hbi
      have hmj := List.getElem_mem hj
      have hs2 := (hsub _ hmj).2.2
      rw [← h5] at hs2
      have Hs2 := Lib.hid hs2
      clear h2 hbi h5 hs2 eA eO eE eI nA nO nE nI hn3 hk5
      have heq := fun w' => eqIn_val ⟨rk, rn, rt⟩ ⟨rk, rn, rt⟩ w'
      rw [(eqV3_iff _ _).2 rfl] at heq
      simp only at heq
      have hgd := guard_val
      go_enter Try.func17, Try.ntmps17
      go_wp2_with fail
      refine Hc.out.mono ?_
      rintro e w1 ⟨rfl, u1⟩
      have hE1 : (w1.alloc (.cells #[.int .i64 fk, .int .i64 fn, .string ft] 30)).heap[w.heap.size]? = some (.cells #[.int .i64 k, .string nm, .int .i64 vk, .int .i64 vn, .string vt, .string op, .slice (some ad) xm c] 33) := ((Touch.refl [] w1).alloc _).blk (u1.blk HE.out (by simp)) (by simp)
      have hV1 : (w1.alloc (.cells #[.int .i64 fk, .int .i64 fn, .string ft] 30)).heap[w.heap.size + 1]? = some (.cells #[.int .i64 rk, .int .i64 rn, .string rt] 30) := ((Touch.refl [] w1).alloc _).blk (u1.blk HV.out (by simp)) (by simp)
      have hF1 : (w1.alloc (.cells #[.int .i64 fk, .int .i64 fn, .string ft] 30)).heap[w1.heap.size]? = some (.cells #[.int .i64 fk, .int .i64 fn, .string ft] 30) := heap_alloc_new w1 _
      have tR := (t1.trans0 u1).trans0 ((Touch.refl [] w1).alloc (.cells #[.int .i64 fk, .int .i64 fn, .string ft] 30))
      obtain ⟨e0, e1, e2, e3, e4, e5, e6, _⟩ := blk7 hE1
      obtain ⟨v0, v1, v2, _⟩ := blk3 hV1
      obtain ⟨f0, f1, f2, _⟩ := blk3 hF1
      go_wp2_with fail
      clear e0 e1 e2 e3 e4 e5 e6 v0 v1 v2 f0 f1 f2
      refine (Htr.out _).mono ?_
      rintro e w2 ⟨rfl, u2⟩
      obtain ⟨ad1, b1, off1, y1, e1', hadd1, hy1, hcell1⟩ := (h3.touch0 (tR.trans0 u2)).at_ xcE_length 1 hj
      cases e1'
      have d0 := hcell1 0 _ rfl; have d1 := hcell1 1 _ rfl; have d2 := hcell1 2 _ rfl; have d3 := hcell1 3 _ rfl; have d4 := hcell1 4 _ rfl; have d5 := hcell1 5 _ rfl; have d6 := hcell1 6 _ rfl
      rw [Nat.add_zero] at d0
      have hc1 := Hsub1.out _ hmj y1 w2 (tR.trans0 u2) hy1
      rw [Hs2.out] at hc1
      obtain ⟨⟨k4, nm4, ⟨vk4, vn4, vt4⟩, op4⟩, A4, m4, c4'⟩ := y1
      simp only [XC.val, VD.val] at hc1
      simp only at d0 d1 d2 d3 d4 d5 d6
      have Hc1 := Lib.hid hc1
      clear hc1 hcell1 hy1
      obtain ⟨e0, e1, e2, e3, e4, e5, e6, _⟩ := blk7 (u2.blk hE1 (by simp))
      obtain ⟨v0, v1, v2, _⟩ := blk3 (u2.blk hV1 (by simp))
      obtain ⟨f0, f1, f2, _⟩ := blk3 (u2.blk hF1 (by simp))
      go_wp2_with fail
      clear e0 e1 e2 e3 e4 e5 e6 v0 v1 v2 f0 f1 f2
      clear d0 d1 d2 d3 d4 d5 d6
      refine Hc1.out.mono ?_
      rintro e w3 ⟨rfl, u3⟩
      have tG := (Touch.refl [] w3).alloc (.cells #[.int .i64 rk, .int .i64 rn, .string rt] 30)
      obtain ⟨v0, v1, v2, _⟩ := blk3 (tG.blk (u3.blk (u2.blk hV1 (by simp)) (by simp)) (by simp))
      go_wp2_with fail
      go_ret
      exact ⟨rfl, ((tR.trans0 u2).trans0 u3).trans0 tG⟩
  rw [decide_eq_false (p := d.op = S [97, 110, 100]) eA] at qA
  rw [decide_eq_false (p := d.op = S [111, 114]) eO] at qO
  rw [decide_eq_false (p := d.name = S [101, 105, 116, 104, 101, 114]) eE] at qE
  rw [decide_eq_false (p := d.name = S [105, 102]) eI] at qI
  rw [← Hop.out] at qA qO
  rw [← Hnm.out] at qE qI
  have hA : d.op = wAnd → VD.tru ⟨fk, fn, ft⟩ = true := fun q => absurd q eA
  have hO : d.op = wOr → ¬ VD.tru ⟨fk, fn, ft⟩ = true := fun q => absurd q eO
  have hE : d.name = wEither → fk = 0 := fun q => absurd q eE
  have hI := eI
  clear eA eO eE eI
  go_enter Try.func17, Try.ntmps17
  go_wp2_with fail
  refine Hc.out.mono ?_
  rintro e w1 ⟨rfl, u1⟩
  have hE1 : (w1.alloc (.cells #[.int .i64 fk, .int .i64 fn, .string ft] 30)).heap[w.heap.size]? = some (.cells #[.int .i64 k, .string nm, .int .i64 vk, .int .i64 vn, .string vt, .string op, .slice (some ad) xm c] 33) := ((Touch.refl [] w1).alloc _).blk (u1.blk HE.out (by simp)) (by simp)
  have hV1 : (w1.alloc (.cells #[.int .i64 fk, .int .i64 fn, .string ft] 30)).heap[w.heap.size + 1]? = some (.cells #[.int .i64 rk, .int .i64 rn, .string rt] 30) := ((Touch.refl [] w1).alloc _).blk (u1.blk HV.out (by simp)) (by simp)
  have hF1 : (w1.alloc (.cells #[.int .i64 fk, .int .i64 fn, .string ft] 30)).heap[w1.heap.size]? = some (.cells #[.int .i64 fk, .int .i64 fn, .string ft] 30) := heap_alloc_new w1 _
  have tR := (t1.trans0 u1).trans0 ((Touch.refl [] w1).alloc (.cells #[.int .i64 fk, .int .i64 fn, .string ft] 30))
  obtain ⟨e0, e1, e2, e3, e4, e5, e6, _⟩ := blk7 hE1
  obtain ⟨v0, v1, v2, _⟩ := blk3 hV1
  obtain ⟨f0, f1, f2, _⟩ := blk3 hF1
  go_wp2_with fail
  clear e0 e1 e2 e3 e4 e5 e6 v0 v1 v2 f0 f1 f2
  have HEt := Lib.hid fun w' (t : Touch [] (w1.alloc (.cells #[.int .i64 fk, .int .i64 fn, .string ft] 30)) w') => t.blk (hE1) (by simp)
  have HVt := Lib.hid fun w' (t : Touch [] (w1.alloc (.cells #[.int .i64 fk, .int .i64 fn, .string ft] 30)) w') => t.blk (hV1) (by simp)
  refine (Hargs.out _ tR).mono ?_
  rintro e w3 ⟨u3, hpost⟩
  have T3 : Touch [] w w3 := tR.trans0 u3
  rcases hpost with ⟨b', hfind, rfl⟩ | ⟨hz, Bv, cv, rfl, hmd⟩
  · have hre := err_eq d args hf hk1 hk2 a0 (args.drop (0 + 1)) Hcons.out (by rw [← Hfe.out]) (fun q => by rw [← Hfe.out]; exact hA q) (fun q => by rw [← Hfe.out]; exact hO q) (fun q => by rw [← Hfe.out]; exact hE q) hI b' hfind
    rw [← Hres.out] at hre
    have hne : (evalX cs row n b').2 ≠ 0 := by simpa using List.find?_some hfind
    obtain ⟨eb, heb⟩ : ∃ r, r = (evalX cs row n b').2 := ⟨_, rfl⟩
    rw [← heb] at hre hne ⊢
    have hre : rx = eb := hre
    subst hre
    have q3 : (rx != 0) = true := by simpa using hne
    clear hne heb hfind
    go_wp2_with fail
    go_ret
    exact ⟨rfl, T3⟩
  · have hlen : (args.map fun a => (evalX cs row n a).1).length = xm := by rw [List.length_map, H2.out]
    obtain ⟨g, rfl⟩ : ∃ g, Bv = some ⟨g, 0, none⟩ := by
      rcases hmd.own.head with ⟨_, q, _⟩ | ⟨g, q⟩
      · have := congrArg List.length q; rw [List.length_map, List.length_nil] at this; omega
      · exact ⟨g, q⟩
    have hw := fun w' (t : Touch [] w3 w') => wholeX d args hf hk1 hk2 (fun a ha => ⟨hz a ha, hsnd a ha (hz a ha)⟩) (fun a r q q' => by rw [← (List.cons.inj (Hcons.out.symm.trans q)).1, ← Hfe.out]; exact hA q') (fun a r q q' => by rw [← (List.cons.inj (Hcons.out.symm.trans q)).1, ← Hfe.out]; exact hO q') (fun a r q q' => by rw [← (List.cons.inj (Hcons.out.symm.trans q)).1, ← Hfe.out]; exact hE q') hI ⟨⟨k, nm, ⟨vk, vn, vt⟩, op⟩, some ad, xm, c⟩ Hx1.out g cv w' (hmd.own.rd.touch0 t)
    rw [hlen, ← Hres.out] at hw
    simp only [XC.val, VD.val] at hw
    have Hw := Lib.hid hw
    clear hw hlen hmd
    have hE3 := HEt.out w3 u3
    have hV3 := HVt.out w3 u3
    obtain ⟨e0, e1, e2, e3, e4, e5, e6, _⟩ := blk7 hE3
    obtain ⟨v0, v1, v2, _⟩ := blk3 hV3
    go_wp2_with fail
    refine (Hw.out _ (Touch.refl _ _)).mono ?_
    rintro e w4 ⟨rfl, u4⟩
    go_wp2_with fail
    go_ret
    exact ⟨rfl, T3.trans0 u4⟩
end Go.Proofs.Ytlkckkagoommaaa

/- bywashlaw04.step for columns and constants. For every schema and row. -/
namespace Go.Proofs.Ytlkckkagoommaaa
open Go.RowKit
attribute [local go_sem ↓] Go.wp_at_zero Go.wp_at_succ

set_option maxRecDepth 100000 in
set_option maxHeartbeats 6400000 in
theorem step_const (nd : ND) (hk : nd.kind = 2) (XA : Option Addr) (xm c : Nat) (A : Option Addr) (cap m : Nat) (B : Option Addr) (rc rm : Nat) (w : World) :
    Calls Try.prog 17 #[XC.val ⟨nd, XA, xm, c⟩, .slice A m cap, .slice B rm rc, nd.v.val, .int .i64 0] w fun r w' => r = .returned (.bool true) ∧ Touch [] w w' := by
  obtain ⟨k, nm, ⟨vk, vn, vt⟩, op⟩ := nd
  have hk : k = 2 := hk
  subst hk
  simp only [XC.val, VD.val]
  have heq := fun w' => eqIn_val ⟨vk, vn, vt⟩ ⟨vk, vn, vt⟩ w'
  rw [(eqV3_iff _ _).2 rfl] at heq
  simp only at heq
  have hgd := guard_val
  have t1 := ((Touch.refl [] w).alloc (.cells #[.int .i64 2, .string nm, .int .i64 vk, .int .i64 vn, .string vt, .string op, .slice XA xm c] 33)).alloc (.cells #[.int .i64 vk, .int .i64 vn, .string vt] 30)
  go_enter Try.func17, Try.ntmps17
  go_wp2_with fail
  go_ret
  exact ⟨rfl, t1⟩

set_option maxRecDepth 100000 in
set_option maxHeartbeats 6400000 in
theorem step_col (nd : ND) (hk : nd.kind = 1) (cs : List CD) (row : List VD) (j : Nat) (hj : placeV cs nd.name = some j) (hjl : j < row.length) (XA : Option Addr) (xm c : Nat) (A : Option Addr) (cap m : Nat) (hm : cs.length = m) (B : Option Addr) (rc rm : Nat) (hrm : row.length = rm) (w : World) (hcs : ColsAt w A cs) (hrow : ValsAt w B row) (hmb : m ≤ 140737000000000) :
    Calls Try.prog 17 #[XC.val ⟨nd, XA, xm, c⟩, .slice A m cap, .slice B rm rc, row[j].val, .int .i64 0] w fun r w' => r = .returned (.bool true) ∧ Touch [] w w' := by
  have hfind := fun w' (t : Touch [] w w') => findC_any A cap m cs hm nd.name w' (hcs.touch0 t) hmb
  rw [hj] at hfind
  simp only [Option.getD_some, Option.isSome_some] at hfind
  obtain ⟨k, nm, ⟨vk, vn, vt⟩, op⟩ := nd
  have hk : k = 1 := hk
  subst hk
  simp only at hfind
  have Hfind := Lib.hid hfind
  clear hfind
  have t1 := ((Touch.refl [] w).alloc (.cells #[.int .i64 1, .string nm, .int .i64 vk, .int .i64 vn, .string vt, .string op, .slice XA xm c] 33)).alloc (.cells #[.int .i64 row[j].kind, .int .i64 row[j].num, .string row[j].text] 30)
  have hV := heap_alloc_new (w.alloc (.cells #[.int .i64 1, .string nm, .int .i64 vk, .int .i64 vn, .string vt, .string op, .slice XA xm c] 33)) (.cells #[.int .i64 row[j].kind, .int .i64 row[j].num, .string row[j].text] 30)
  rw [World.size_alloc] at hV
  obtain ⟨rv, hrv⟩ : ∃ r, r = row[j] := ⟨_, rfl⟩
  have Hat := Lib.hid fun w' (t : Touch [] w w') => (hrow.touch0 t).at_ j hjl
  rw [← hrv] at hV t1 Hat ⊢
  obtain ⟨rk, rn, rt⟩ := rv
  simp only [XC.val, VD.val] at hV t1 ⊢
  have HV := Lib.hid hV
  have heq := fun w' => eqIn_val ⟨rk, rn, rt⟩ ⟨rk, rn, rt⟩ w'
  rw [(eqV3_iff _ _).2 rfl] at heq
  simp only at heq
  have hgd := guard_val
  have hjI : (j : Int) < (rm : Int) := by omega
  have hjI0 : (0 : Int) ≤ (j : Int) := by omega
  clear hrv hV
  go_enter Try.func17, Try.ntmps17
  go_wp2_with fail
  refine (Hfind.out _ t1).mono ?_
  rintro e w1 ⟨rfl, u1⟩
  obtain ⟨ad, b, off, rfl, hadd, c0, c1, c2⟩ := Hat.out w1 (t1.trans0 u1)
  obtain ⟨v0', v1', v2', _⟩ := blk3 (u1.blk HV.out (by simp))
  have v0 := TW.cell v0'; have v1 := TW.cell v1'; have v2 := TW.cell v2'
  have d0 := TW.cell c0; have d1 := TW.cell c1; have d2 := TW.cell c2
  clear v0' v1' v2' c0 c1 c2
  go_wp2_with fail
  refine wp_region_tw w1 (Touch.refl _ _) (by kernel_rfl) (by kernel_rfl) ?_
  repeat (go_big_quiet_step (fail))
  refine wpQuiet_nil ?_
  rintro _ ⟨y, rfl⟩
  go_wp2_with fail
  go_ret
  exact ⟨rfl, (t1.trans0 u1).trans0 y.t⟩
end Go.Proofs.Ytlkckkagoommaaa
