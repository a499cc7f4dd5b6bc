/- GraphOwn: rows of the law's own that are laid whole, and whose numbers are overwritten. -/
import Derived.Test.YtmehdlflhllhdaaGrTurn
import Derived.Test.YtmehdlflhllhdaaGrOr
namespace Go.Proofs.Ytmehdlflhllhdaa
open Go.RowKit

/-- a row laid whole -/
theorem TuS.put {w0 : World} {Y n k : Nat} {f : Nat → List Int} {sl : List SL} {wr w3 : World} (h : TuS w0 Y n f sl wr) (hk : k < sl.length) (t3 : Touch [] wr w3) {A3 : Option Addr} {c3 q : Nat} {r : List Int} (hq : q = r.length)
    (hown : OwnK 3 1 iE w3 A3 c3 r) (hf : ∀ b ∈ fpo A3, wr.heap.size ≤ b) :
    TuS w0 Y n (fun a => if a = k then r else f a) (sl.set k ⟨A3, q, c3⟩) (w3.setCell ⟨Y, k, none⟩ (.slice A3 q c3)) := by
  have T := (Touch.refl [Y] w3).setCell (p := ⟨Y, k, none⟩) (.inl (by simp)) (.slice A3 q c3)
  have hY := h.own.lt Y (by simp [fpo])
  have h2 := h.touch0 t3
  have hrl : ∀ a (ha : a < sl.length), ∀ x ∈ fpo sl[a].A, x < wr.heap.size := fun a ha x hx => (h.row a ha).2.lt x hx
  have hA3 : ∀ b ∈ fpo A3, b ≠ Y ∧ w0.heap.size ≤ b := fun b hb => by
    have q := hf b hb
    exact ⟨by omega, Nat.le_trans h.t.size q⟩
  have hother : ∀ a (ha : a < sl.length), ∀ x ∈ fpo sl[a].A, x ∉ fpo A3 := fun a ha x hx hm => by
    have := hrl a ha x hx; have := hf x hm; omega
  have ho := h2.own.set1 k hk ⟨A3, q, c3⟩
  refine ⟨ho, by simp [h.len], fun a ha => ?_, fun s hs b hb => ?_, fun a b ha hb hab y hy => ?_, (h.t.trans0 t3).trans T (fun b hb => by simp at hb; subst hb; exact .inr h.ge), h.ge⟩
  · simp only [List.length_set] at ha
    rw [List.getElem_set]
    split
    · rename_i e
      subst e
      rw [if_pos rfl]
      exact ⟨hq, hown.touch T (fun b hb => by simp; exact (hA3 b hb).1)⟩
    · rename_i e
      rw [if_neg (fun q => e q.symm)]
      have hr := h2.row a ha
      exact ⟨hr.1, hr.2.touch T (fun b hb => by simp; exact (h.ne _ (List.getElem_mem ha) b hb).1)⟩
  · rcases List.mem_or_eq_of_mem_set hs with e | rfl
    · exact h.ne s e b hb
    · exact hA3 b hb
  · simp only [List.length_set] at ha hb
    simp only [List.getElem_set] at hy ⊢
    by_cases e1 : k = a
    · rw [if_pos e1] at hy
      rw [if_neg (by omega)]
      exact fun hm => hother b hb y hm hy
    · rw [if_neg e1] at hy
      by_cases e2 : k = b
      · rw [if_pos e2]
        exact hother a ha y hy
      · rw [if_neg e2]
        exact h.dm a b ha hb hab y hy
/-- one number of a row overwritten -/
theorem TuS.put1 {w0 : World} {Y n k j : Nat} {f : Nat → List Int} {sl : List SL} {wr : World} (h : TuS w0 Y n f sl wr) (hk : k < sl.length) {G : Nat} (hG : sl[k].A = some ⟨G, 0, none⟩) (hj : j < (f k).length) (x : Int) :
    TuS w0 Y n (fun a => if a = k then (f k).set j x else f a) sl (wr.setCell ⟨G, j, none⟩ (.int .i64 x)) := by
  have T := (Touch.refl [G] wr).setCell (p := ⟨G, j, none⟩) (.inl (by simp)) (.int .i64 x)
  have hGk : G ∈ fpo sl[k].A := by rw [hG]; simp [fpo]
  have hGe := h.ne _ (List.getElem_mem hk) G hGk
  refine ⟨h.own.touch T (fun b hb => by simp [fpo] at hb; subst hb; simp; exact fun e => hGe.1 e.symm), h.len, fun a ha => ?_, h.ne, h.dm, h.t.trans T (fun b hb => by simp at hb; subst hb; exact .inr hGe.2), h.ge⟩
  have hr := h.row a ha
  by_cases e : a = k
  · subst e
    rw [if_pos rfl]
    refine ⟨by rw [List.length_set]; exact hr.1, ?_⟩
    have h2 := hr.2
    rw [hG] at h2 ⊢
    exact h2.set1 j hj x
  · rw [if_neg e]
    exact ⟨hr.1, hr.2.touch T (fun b hb => by simp; intro q; subst q; exact h.dm a k ha hk e b hb hGk)⟩
/-- what the rows are, but not what stands in them -/
def MyS (w0 : World) (Y n : Nat) (sl : List SL) (wr : World) : Prop := ∃ f, TuS w0 Y n f sl wr
theorem MyS.at_ {w0 : World} {Y n : Nat} {sl : List SL} {wr : World} (h : MyS w0 Y n sl wr) (i : Nat) (hi : i < sl.length) :
    wr.cell? ⟨Y, i, none⟩ = some (.slice sl[i].A sl[i].n sl[i].c) := by
  obtain ⟨f, h⟩ := h
  exact h.own.cell1 i hi
theorem MyS.head {w0 : World} {Y n : Nat} {sl : List SL} {wr : World} (h : MyS w0 Y n sl wr) (i : Nat) (hi : i < sl.length) (j : Nat) (hj : j < sl[i].n) : ∃ G, sl[i].A = some ⟨G, 0, none⟩ ∧ wr.frozen? ⟨G, j, none⟩ = false ∧ (∃ v, wr.cell? ⟨G, j, none⟩ = some (.int .i64 v)) ∧ w0.heap.size ≤ G ∧ G ∈ sl.flatMap (fun s => fpo s.A) ∧ ∀ x, MyS w0 Y n sl (wr.setCell ⟨G, j, none⟩ (.int .i64 x)) := by
  obtain ⟨f, h⟩ := h
  have hr := h.row i hi
  rcases hr.2.head with ⟨_, e, _⟩ | ⟨G, e⟩
  · rw [hr.1, e] at hj; simp at hj
  · have h2 := hr.2
    rw [e] at h2
    have hjl : j < (f i).length := by rw [← hr.1]; exact hj
    have hm : G ∈ fpo sl[i].A := by rw [e]; simp [fpo]
    exact ⟨G, e, h2.free_ j, ⟨_, h2.cell1 j hjl⟩, (h.ne _ (List.getElem_mem hi) G hm).2, List.mem_flatMap.2 ⟨_, List.getElem_mem hi, hm⟩, fun x => ⟨_, h.put1 hi e hjl x⟩⟩
theorem MyS.t {w0 : World} {Y n : Nat} {sl : List SL} {wr : World} (h : MyS w0 Y n sl wr) : Touch [] w0 wr := by
  obtain ⟨f, h⟩ := h
  exact h.t
theorem MyS.len {w0 : World} {Y n : Nat} {sl : List SL} {wr : World} (h : MyS w0 Y n sl wr) : sl.length = n := by
  obtain ⟨f, h⟩ := h
  exact h.len
theorem MyS.touch0 {w0 : World} {Y n : Nat} {sl : List SL} {wr w2 : World} (h : MyS w0 Y n sl wr) (ht : Touch [] wr w2) : MyS w0 Y n sl w2 := by
  obtain ⟨f, h⟩ := h
  exact ⟨f, h.touch0 ht⟩
theorem OwnK.cap_ {α : Type} {t k : Nat} {enc : α → List Value} {w : World} {A : Option Addr} {c : Nat} {xs : List α} (h : OwnK t k enc w A c xs) : c ≤ 9223372036854775807 := by
  rcases h.2 with ⟨hv, _⟩ | ⟨g, cap, cur, hv, _, _, _, hm, _⟩
  · injection hv with _ _ h3; omega
  · injection hv with _ _ h3; unfold maxLen at hm; omega
theorem MyS.small {w0 : World} {Y n : Nat} {sl : List SL} {wr : World} (h : MyS w0 Y n sl wr) (i : Nat) (hi : i < sl.length) : sl[i].n ≤ 9223372036854775807 := by
  obtain ⟨f, h⟩ := h
  have hr := h.row i hi
  have := hr.2.le
  have := hr.2.cap_
  omega
/-- a literal's row -/
theorem OwnK.lit {α : Type} (t : Nat) (val : α → Value) (w : World) (xs : List α) (n : Nat) (hn : xs.length = n) (hl : n ≤ 1000) (cs : Array Value) (hc : cs.toList = xs.map val) : OwnK t 1 (fun x => [val x]) (w.alloc (.cells cs t)) (some ⟨w.heap.size, 0, none⟩) n xs := by
  subst hn
  have hsz : cs.size = xs.length := by rw [← Array.length_toList, hc, List.length_map]
  refine ⟨by rw [flat_one]; simp, .inr ⟨w.heap.size, xs.length, cs, rfl, Nat.zero_le _, heap_alloc_new w _, Nat.le_refl _, by unfold maxLen; omega, by omega, ?_⟩⟩
  rw [hc, flat_one]
  exact List.take_of_length_le (by simp)
/-- four rows that calls have made, in a literal -/
theorem TuS.four {w0 w1 w2 w3 w4 : World} {A1 A2 A3 A4 : Option Addr} {c1 c2 c3 c4 : Nat} {R1 R2 R3 R4 : List Int}
    (o1 : OwnK 3 1 iE w1 A1 c1 R1) (f1 : ∀ b ∈ fpo A1, w0.heap.size ≤ b) (t1 : Touch [] w0 w1) (o2 : OwnK 3 1 iE w2 A2 c2 R2) (f2 : ∀ b ∈ fpo A2, w1.heap.size ≤ b) (t2 : Touch [] w1 w2)
    (o3 : OwnK 3 1 iE w3 A3 c3 R3) (f3 : ∀ b ∈ fpo A3, w2.heap.size ≤ b) (t3 : Touch [] w2 w3) (o4 : OwnK 3 1 iE w4 A4 c4 R4) (f4 : ∀ b ∈ fpo A4, w3.heap.size ≤ b) (t4 : Touch [] w3 w4) :
    MyS w0 w4.heap.size 4 [⟨A1, R1.length, c1⟩, ⟨A2, R2.length, c2⟩, ⟨A3, R3.length, c3⟩, ⟨A4, R4.length, c4⟩] (w4.alloc (.cells #[.slice A1 R1.length c1, .slice A2 R2.length c2, .slice A3 R3.length c3, .slice A4 R4.length c4] 31)) := by
  have tb := (Touch.refl [] w4).alloc (.cells #[.slice A1 R1.length c1, .slice A2 R2.length c2, .slice A3 R3.length c3, .slice A4 R4.length c4] 31)
  have l1 := o1.lt
  have l2 := o2.lt
  have l3 := o3.lt
  have l4 := o4.lt
  have s1 := t1.size
  have s2 := t2.size
  have s3 := t3.size
  have s4 := t4.size
  have cs : ∀ a, a < 4 → a = 0 ∨ a = 1 ∨ a = 2 ∨ a = 3 := fun a h => by omega
  refine ⟨fun a => [R1, R2, R3, R4].getD a [], OwnK.lit 31 SL.val w4 _ 4 rfl (by omega) _ rfl, rfl, fun a ha => ?_, fun s hs b hb => ?_, fun a b ha hb hab y hy hm => ?_, (((t1.trans0 t2).trans0 t3).trans0 t4).trans0 tb, by omega⟩
  · rcases cs a ha with rfl | rfl | rfl | rfl
    · exact ⟨rfl, (((o1.touch0 t2).touch0 t3).touch0 t4).touch0 tb⟩
    · exact ⟨rfl, ((o2.touch0 t3).touch0 t4).touch0 tb⟩
    · exact ⟨rfl, (o3.touch0 t4).touch0 tb⟩
    · exact ⟨rfl, o4.touch0 tb⟩
  · simp only [List.mem_cons, List.not_mem_nil, or_false] at hs
    rcases hs with rfl | rfl | rfl | rfl
    · have := f1 b hb; have := l1 b hb; exact ⟨by omega, by omega⟩
    · have := f2 b hb; have := l2 b hb; exact ⟨by omega, by omega⟩
    · have := f3 b hb; have := l3 b hb; exact ⟨by omega, by omega⟩
    · have := f4 b hb; have := l4 b hb; exact ⟨by omega, by omega⟩
  · rcases cs a ha with rfl | rfl | rfl | rfl <;> rcases cs b hb with rfl | rfl | rfl | rfl <;> first
      | exact hab rfl
      | (have q1 := f1 y hy; have q2 := l1 y hy; first | (have z := f2 y hm; omega) | (have z := f3 y hm; omega) | (have z := f4 y hm; omega))
      | (have q1 := f2 y hy; have q2 := l2 y hy; first | (have z := l1 y hm; omega) | (have z := f3 y hm; omega) | (have z := f4 y hm; omega))
      | (have q1 := f3 y hy; have q2 := l3 y hy; first | (have z := l1 y hm; omega) | (have z := l2 y hm; omega) | (have z := f4 y hm; omega))
      | (have q1 := f4 y hy; have q2 := l4 y hy; first | (have z := l1 y hm; omega) | (have z := l2 y hm; omega) | (have z := l3 y hm; omega))
end Go.Proofs.Ytmehdlflhllhdaa
