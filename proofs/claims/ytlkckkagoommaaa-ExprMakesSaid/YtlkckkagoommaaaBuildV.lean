/- An expression in one list, each with the number of its Args: what is built of it. No walk. -/
import Derived.Test.YtlkckkagoommaaaTree
namespace Go.Proofs.Ytlkckkagoommaaa
open Go.RowKit

/-- bywashlaw04.Plain -/
structure PL where
  nd : ND
  cnt : Int
def plE (p : PL) : List Value := [.int .i64 p.nd.kind, .string p.nd.name, .int .i64 p.nd.v.kind, .int .i64 p.nd.v.num, .string p.nd.v.text, .string p.nd.op, .int .i64 p.cnt]
theorem plE_length (p : PL) : (plE p).length = 7 := rfl
def PlsAt (w : World) (A : Option Addr) (l : List PL) : Prop := RdK plE w A l
def zeroP : PL := ⟨⟨0, S [], ⟨0, 0, S []⟩, S []⟩, 0⟩
/-- so many Args at most, one behind the other; what they take together -/
def kidsX {α : Type} (f : List PL → α × Nat) : Nat → List PL → List α × Nat
  | 0, _ => ([], 0)
  | _ + 1, [] => ([], 0)
  | k + 1, p :: l => ((f (p :: l)).1 :: (kidsX f k ((p :: l).drop (f (p :: l)).2)).1, (f (p :: l)).2 + (kidsX f k ((p :: l).drop (f (p :: l)).2)).2)
theorem kidsX_zero {α : Type} (f : List PL → α × Nat) (l : List PL) : kidsX f 0 l = ([], 0) := by cases l <;> rfl
theorem kidsX_nil {α : Type} (f : List PL → α × Nat) (k : Nat) : kidsX f k [] = ([], 0) := by cases k <;> rfl
theorem kidsX_step {α : Type} (f : List PL → α × Nat) (k : Nat) {l : List PL} (h : l ≠ []) : kidsX f (k + 1) l = ((f l).1 :: (kidsX f k (l.drop (f l).2)).1, (f l).2 + (kidsX f k (l.drop (f l).2)).2) := by
  cases l with
  | nil => exact absurd rfl h
  | cons p l => rfl
/-- what is built, of so many levels more, and how many it takes -/
def buildX : (m : Nat) → List PL → TX (m + 1) × Nat
  | 0, l => ((((l.headD zeroP).nd, []) : TX 1), 1)
  | m + 1, l => ((((l.headD zeroP).nd, (kidsX (buildX m) (l.headD zeroP).cnt.toNat l.tail).1) : TX (m + 2)), 1 + (kidsX (buildX m) (l.headD zeroP).cnt.toNat l.tail).2)
theorem buildX_succ (m : Nat) (l : List PL) : buildX (m + 1) l = ((((l.headD zeroP).nd, (kidsX (buildX m) (l.headD zeroP).cnt.toNat l.tail).1) : TX (m + 2)), 1 + (kidsX (buildX m) (l.headD zeroP).cnt.toNat l.tail).2) := rfl
theorem kidsX_le {α : Type} {f : List PL → α × Nat} (hf : ∀ l, l ≠ [] → (f l).2 ≤ l.length) : ∀ (k : Nat) (l : List PL), (kidsX f k l).2 ≤ l.length
  | 0, l => by rw [kidsX_zero]; exact Nat.zero_le _
  | k + 1, [] => by rw [kidsX_nil]; exact Nat.zero_le _
  | k + 1, p :: l => by
    rw [kidsX_step f k (by simp)]
    have h1 := hf (p :: l) (by simp)
    have h2 := kidsX_le hf k ((p :: l).drop (f (p :: l)).2)
    rw [List.length_drop] at h2
    simp only
    omega
theorem buildX_pos (m : Nat) (l : List PL) : 1 ≤ (buildX m l).2 := by
  cases m with
  | zero => exact Nat.le_refl 1
  | succ m => rw [buildX_succ]; simp only; omega
theorem buildX_le : ∀ (m : Nat) (l : List PL), l ≠ [] → (buildX m l).2 ≤ l.length
  | 0, l => fun h => by
    cases l with
    | nil => exact absurd rfl h
    | cons p l => show 1 ≤ _; simp
  | m + 1, l => fun h => by
    rw [buildX_succ]
    have := kidsX_le (f := buildX m) (fun l h => buildX_le m l h) (l.headD zeroP).cnt.toNat l.tail
    cases l with
    | nil => exact absurd rfl h
    | cons p l => simp only [List.tail_cons, List.length_cons] at this ⊢; omega
/-- as many expressions as it takes -/
theorem kidsX_size {m : Nat} {f : List PL → TX (m + 1) × Nat} (hf : ∀ l, l ≠ [] → sizeX (m + 1) (f l).1 = (f l).2) : ∀ (k : Nat) (l : List PL), sumX (m + 1) (kidsX f k l).1 = (kidsX f k l).2
  | 0, l => by rw [kidsX_zero]; rfl
  | k + 1, [] => by rw [kidsX_nil]; rfl
  | k + 1, p :: l => by
    rw [kidsX_step f k (by simp)]
    have h1 := hf (p :: l) (by simp)
    have h2 := kidsX_size hf k ((p :: l).drop (f (p :: l)).2)
    unfold sumX at h2 ⊢
    simp only [List.map_cons, List.sum_cons]
    omega
theorem buildX_size : ∀ (m : Nat) (l : List PL), sizeX (m + 1) (buildX m l).1 = (buildX m l).2
  | 0, l => rfl
  | m + 1, l => by
    rw [buildX_succ]
    have := kidsX_size (f := buildX m) (fun l _ => buildX_size m l) (l.headD zeroP).cnt.toNat l.tail
    show 1 + sumX (m + 1) _ = 1 + _
    rw [this]
theorem kidsX_all {m : Nat} {q : ND → Prop} {f : List PL → TX (m + 1) × Nat} (hf : ∀ l, l ≠ [] → (∀ p ∈ l, q p.nd) → allX q (m + 1) (f l).1) : ∀ (k : Nat) (l : List PL), (∀ p ∈ l, q p.nd) → ∀ a ∈ (kidsX f k l).1, allX q (m + 1) a
  | 0, l => fun _ a ha => by rw [kidsX_zero] at ha; cases ha
  | k + 1, [] => fun _ a ha => by rw [kidsX_nil] at ha; cases ha
  | k + 1, p :: l => fun h a ha => by
    rw [kidsX_step f k (by simp)] at ha
    rcases List.mem_cons.1 ha with rfl | ha
    · exact hf _ (by simp) h
    · exact kidsX_all hf k _ (fun x hx => h x (List.mem_of_mem_drop hx)) a ha
theorem buildX_all {q : ND → Prop} : ∀ (m : Nat) (l : List PL), l ≠ [] → (∀ p ∈ l, q p.nd) → allX q (m + 1) (buildX m l).1
  | 0, l => fun h hq => by
    cases l with
    | nil => exact absurd rfl h
    | cons p l => exact ⟨hq p List.mem_cons_self, fun a ha => by cases ha⟩
  | m + 1, l => fun h hq => by
    cases l with
    | nil => exact absurd rfl h
    | cons p l =>
      rw [buildX_succ]
      exact ⟨hq p List.mem_cons_self, fun a ha => kidsX_all (fun l h hq => buildX_all m l h hq) _ _ (fun x hx => hq x (List.mem_cons_of_mem _ hx)) a ha⟩
/-- how many there are at most -/
theorem kidsX_len {α : Type} (f : List PL → α × Nat) : ∀ (k : Nat) (l : List PL), (kidsX f k l).1.length ≤ k
  | 0, l => by rw [kidsX_zero]; exact Nat.le_refl _
  | k + 1, [] => by rw [kidsX_nil]; exact Nat.zero_le _
  | k + 1, p :: l => by
    rw [kidsX_step f k (by simp)]
    have := kidsX_len f k ((p :: l).drop (f (p :: l)).2)
    simp only [List.length_cons]; omega
/-- how far the loop has come: these built, so many taken -/
def Come {α : Type} (f : List PL → α × Nat) (k : Nat) (l : List PL) (j t : Nat) (bs : List α) : Prop :=
  bs.length = j ∧ 1 ≤ t ∧ t ≤ l.length ∧ j ≤ k ∧ kidsX f k l.tail = (bs ++ (kidsX f (k - j) (l.drop t)).1, t - 1 + (kidsX f (k - j) (l.drop t)).2)
theorem Come.start {α : Type} (f : List PL → α × Nat) (k : Nat) {l : List PL} (h : l ≠ []) : Come f k l 0 1 [] := by
  cases l with
  | nil => exact absurd rfl h
  | cons p l => exact ⟨rfl, by omega, by simp, by omega, by simp⟩
theorem Come.step {α : Type} {f : List PL → α × Nat} {k : Nat} {l : List PL} {j t : Nat} {bs : List α} (h : Come f k l j t bs) (hj : j < k) (ht : t < l.length) (hf : (f (l.drop t)).2 ≤ (l.drop t).length) :
    Come f k l (j + 1) (t + (f (l.drop t)).2) (bs ++ [(f (l.drop t)).1]) := by
  obtain ⟨h1, h2, h3, h4, h5⟩ := h
  have hne : l.drop t ≠ [] := fun q => by have := congrArg List.length q; rw [List.length_drop] at this; simp at this; omega
  obtain ⟨r, hr⟩ : ∃ r, k - j = r + 1 := ⟨k - j - 1, by omega⟩
  rw [hr, kidsX_step f r hne, List.drop_drop] at h5
  rw [List.length_drop] at hf
  refine ⟨by simp [h1], by omega, by omega, by omega, ?_⟩
  rw [h5, show k - (j + 1) = r by omega]
  exact Prod.ext (by simp) (by simp only; omega)
theorem Come.stop {α : Type} {f : List PL → α × Nat} {k : Nat} {l : List PL} {j t : Nat} {bs : List α} (h : Come f k l j t bs) (hj : k ≤ j ∨ l.length ≤ t) : kidsX f k l.tail = (bs, t - 1) := by
  obtain ⟨_, _, _, h4, h5⟩ := h
  rw [h5]
  rcases hj with hj | hj
  · rw [show k - j = 0 by omega, kidsX_zero]; simp
  · rw [List.drop_of_length_le hj, kidsX_nil]; simp
end Go.Proofs.Ytlkckkagoommaaa
