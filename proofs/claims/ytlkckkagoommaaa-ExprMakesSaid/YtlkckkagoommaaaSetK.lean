/- One cell of a row of structs of the calls' own is set. -/
import Derived.Test.YtlkckkagoommaaaBuildW
import Derived.Test.YtlkckkagoommaaaRdK
namespace Go.Proofs.Ytlkckkagoommaaa
open Go.RowKit

theorem flat_set {α β : Type} (enc : α → List β) (k : Nat) (hk : ∀ x, (enc x).length = k) (v : β) (o : Nat) (ho : o < k) : ∀ (xs : List α) (i : Nat) (hi : i < xs.length) (y : α), enc y = (enc xs[i]).set o v → (xs.set i y).flatMap enc = (xs.flatMap enc).set (i * k + o) v
  | [], i => fun hi => absurd hi (by simp)
  | x :: xs, 0 => fun _ y hy => by
    rw [List.set_cons_zero, List.flatMap_cons, List.flatMap_cons, hy, List.getElem_cons_zero, Nat.zero_mul, Nat.zero_add, List.set_append_left _ _ (by rw [hk]; exact ho)]
  | x :: xs, i + 1 => fun hi y hy => by
    have ih := flat_set enc k hk v o ho xs i (by simpa using hi) y (by simpa using hy)
    have e1 : (i + 1) * k + o = k + (i * k + o) := by rw [Nat.add_mul]; omega
    rw [List.set_cons_succ, List.flatMap_cons, List.flatMap_cons, ih, List.set_append_right _ _ (by rw [hk, e1]; omega), hk, e1, Nat.add_sub_cancel_left]
theorem OwnK.set {α : Type} {t k : Nat} {enc : α → List Value} {w : World} {G c : Nat} {xs : List α} (h : OwnK t k enc w (some ⟨G, 0, none⟩) c xs) (hk : ∀ x, (enc x).length = k) (i : Nat) (hi : i < xs.length) (o : Nat) (ho : o < k) (v : Value) (y : α)
    (hy : enc y = (enc xs[i]).set o v) : OwnK t k enc (w.setCell ⟨G, i * k + o, none⟩ v) (some ⟨G, 0, none⟩) c (xs.set i y) := by
  have := (World.ownsRow.stored h (i * k + o) v).1
  unfold OwnK
  rw [List.length_set, flat_set enc k hk v o ho xs i hi y hy]
  exact this
theorem SameC.set (l : List PL) (i : Nat) (hi : i < l.length) (y : PL) (hy : y.cnt = l[i].cnt) : SameC l (l.set i y) := by
  unfold SameC
  rw [List.map_set, hy]
  refine List.ext_getElem? fun j => ?_
  rw [List.getElem?_set]
  split
  · rename_i h; subst h
    rw [List.length_map, if_pos hi, List.getElem?_map, List.getElem?_eq_getElem hi]; rfl
  · rfl
/-- the list with one element changed makes another expression just if the element is taken -/
theorem build_set (m : Nat) (l : List PL) (i : Nat) (hi : i < l.length) (y : PL) (hc : y.cnt = l[i].cnt) (hn : l[i].nd ≠ y.nd) : eqX (m + 1) (buildX m l).1 (buildX m (l.set i y)).1 = decide ((buildX m l).2 ≤ i) ∧ eqX (m + 1) (buildX m (l.set i y)).1 (buildX m l).1 = decide ((buildX m l).2 ≤ i) := by
  have h := build_other m l (l.set i y) i hi (SameC.set l i hi y hc) (fun j hj => by rw [List.getElem?_set, if_neg (fun h => hj h.symm)]) (fun a b ha hb => by
    rw [List.getElem?_eq_getElem hi] at ha
    rw [List.getElem?_set, if_pos rfl, if_pos hi] at hb
    cases ha; cases hb; exact hn)
  constructor
  · rw [Bool.eq_iff_iff, eqX_iff, decide_eq_true_iff]; exact h
  · rw [Bool.eq_iff_iff, eqX_iff, decide_eq_true_iff]; exact ⟨fun q => h.1 q.symm, fun q => (h.2 q).symm⟩
end Go.Proofs.Ytlkckkagoommaaa
