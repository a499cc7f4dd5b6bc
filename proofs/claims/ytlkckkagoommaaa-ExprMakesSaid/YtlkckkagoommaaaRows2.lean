/- Slices of values; what a made slice is. For every such slice. -/
import Derived.Test.YtlkckkagoommaaaSchCheck
namespace Go.Proofs.Ytlkckkagoommaaa
open Go.RowKit

/-- a value's cells -/
def vdE (v : VD) : List Value := [.int .i64 v.kind, .int .i64 v.num, .string v.text]
theorem vdE_length (v : VD) : (vdE v).length = 3 := rfl
theorem vdE_one (v : VD) : ∀ u ∈ vdE v, u.oneCell' = true := by
  intro u hu
  simp only [vdE, List.mem_cons, List.not_mem_nil, or_false] at hu
  rcases hu with rfl | rfl | rfl <;> rfl
def ValsAt (w : World) (A : Option Addr) (vs : List VD) : Prop := RdK vdE w A vs
theorem ValsAt.at_ {w : World} {A : Option Addr} {vs : List VD} (h : ValsAt w A vs) (i : Nat) (hi : i < vs.length) :
    ∃ ad b off, A = some ad ∧ ad.add (i * 3) = ⟨b, off, none⟩ ∧ w.cell? ⟨b, off, none⟩ = some (.int .i64 vs[i].kind) ∧ w.cell? ⟨b, off + 1, none⟩ = some (.int .i64 vs[i].num) ∧ w.cell? ⟨b, off + 2, none⟩ = some (.string vs[i].text) := by
  obtain ⟨ad, b, off, h1, h2, _, h3⟩ := RdK.at_ h 3 vdE_length (by omega) i hi
  exact ⟨ad, b, off, h1, h2, h3 0 _ rfl, h3 1 _ rfl, h3 2 _ rfl⟩
theorem ValsAt.touch0 {w w' : World} {A : Option Addr} {vs : List VD} (h : ValsAt w A vs) (ht : Touch [] w w') : ValsAt w' A vs := RdK.touch0 h ht

theorem all_no {α : Type} {p : α → Bool} {l : List α} {k : Nat} (h : k < l.length) (hb : p l[k] = false) : l.all p = false := by
  rw [List.all_eq_false]
  exact ⟨_, List.getElem_mem h, by rw [hb]; simp⟩
theorem all_snoc {α : Type} {p : α → Bool} {l : List α} {k : Nat} (h : k < l.length) (h1 : (l.take k).all p = true) (h2 : p l[k] = true) : (l.take (k + 1)).all p = true := by
  rw [List.take_succ_eq_append_getElem h, List.all_append, h1]; simp [h2]

theorem info_rcol : (Try.prog.info? 103).map (fun i => (i.zero, i.size, i.bytes)) = some (some (.agg #[.string ⟨#[]⟩, .int .i64 0]), 2, 24) := by kernel_rfl

/-- what a made slice is -/
structure Made {α : Type} (t k : Nat) (enc : α → List Value) (xs : List α) (A : Option Addr) (c : Nat) (w w' : World) : Prop where
  own : OwnK t k enc w' A c xs
  t : Touch [] w w'
  f : ∀ b ∈ fpo A, w.heap.size ≤ b
theorem Made.step {α : Type} {t k : Nat} {enc : α → List Value} {xs ys : List α} {A A' : Option Addr} {c c' : Nat} {w w1 w2 : World} (h : Made t k enc xs A c w w1) (h2 : OwnK t k enc w2 A' c' ys) (t2 : Touch (fpo A) w1 w2) (f2 : ∀ b ∈ fpo A', b ∈ fpo A ∨ b = w1.heap.size) : Made t k enc ys A' c' w w2 :=
  ⟨h2, h.t.trans t2 (fun b hb => .inr (h.f b hb)), fun b hb => by
    rcases f2 b hb with e | e
    · exact h.f b e
    · have := h.t.size; omega⟩
theorem Made.touch0 {α : Type} {t k : Nat} {enc : α → List Value} {xs : List α} {A : Option Addr} {c : Nat} {w w1 w2 : World} (h : Made t k enc xs A c w w1) (ht : Touch [] w1 w2) : Made t k enc xs A c w w2 := ⟨h.own.touch0 ht, h.t.trans0 ht, h.f⟩
theorem Made.nil {α : Type} (t k : Nat) (enc : α → List Value) (w : World) : Made t k enc [] none 0 w w := ⟨OwnK.nil _ _ _ _, Touch.refl _ _, by simp [fpo]⟩

end Go.Proofs.Ytlkckkagoommaaa
