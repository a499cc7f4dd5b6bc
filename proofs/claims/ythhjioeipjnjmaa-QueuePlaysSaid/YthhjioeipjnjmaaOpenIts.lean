/- Slices of items that came in, as the walks take them. -/
import Derived.Test.YthhjioeipjnjmaaQueA
import Derived.ProofKit
import Derived.Deep.Slices
import Derived.Deep.Fields
import Derived.ChangeSame
import Derived.ChangeArms
namespace Go.Proofs.Ythhjioeipjnjmaa
open Go.RowKit Go.ChangeShapes Go.WideShapes Go.Deep

section
variable {H : Type} {enc : TypeId × Value → H} {P : Program} {w : World} {base : Nat} {spare : Nat → Bool} {held : Bool}
theorem open_slice_structs {t e : TypeId} {fs : Array Field} {fuel C : Nat} {cs : List Value} {x : DataW H × List MemPlace} (ht : P.underlying t = some (.slice e)) (he : P.underlying e = some (.struct fs)) (hC : P.cellsOf e = C) (h : DataW.trod enc P w base spare held fuel t cs = some x) :
    cs = [.slice none 0 0] ∨
    ∃ (a : Addr) (len cap : Nat), cs = [.slice (some a) len cap] ∧ len ≤ cap ∧ cap ≤ maxLen ∧
      ∀ i, i < len → ∃ (vs : List Value) (n : Nat), vs.length = C ∧ (∀ j, j < C → w.cell? (a.add (i * C + j)) = vs[j]?) ∧
        ∀ (j : Nat) (f : Field), fs[j]? = some f → ∃ y : DataW H × List MemPlace, DataW.trod enc P w base spare held n f.type ((vs.drop f.offset).take (P.cellsOf f.type)) = some y := by
  rcases open_slice ht h with h0 | ⟨a, len, cap, m, n, D, Pl, hcs, hb, hl, hm, hmm, hx, hi⟩
  · exact .inl h0.1
  · refine .inr ⟨a, len, cap, hcs, hl, hm, fun i him => ?_⟩
    have hlm : len ≤ m := by rw [hmm]; split <;> omega
    obtain ⟨cs', hc, ht'⟩ := hi i (by omega)
    rw [hC] at hc
    obtain ⟨ys, n', hn', hy, hlen, hyl, hf⟩ := DataW.trod_struct he ht'
    obtain ⟨_, hcl, hat⟩ := World.cells?_some hc
    refine ⟨cs', n', hcl, fun j hj => ?_, fun j f hj => ?_⟩
    · rw [← Go.Deep.add_add]; exact hat j hj
    · have hjl : j < fs.size := (Array.getElem?_eq_some_iff.1 hj).1
      have hys : ys[j]? = some (ys[j]'(by omega)) := List.getElem?_eq_getElem (by omega)
      exact ⟨_, (hf j f hj).trans hys⟩
end

theorem trod_i64 {H : Type} {enc : TypeId × Value → H} {w : World} {base : Nat} {spare : Nat → Bool} {held : Bool} {n : Nat} {v : Value} {y : DataW H × List MemPlace}
    (h : DataW.trod enc Try.prog w base spare held n 3 [v] = some y) : ∃ k, v = .int .i64 k ∧ -9223372036854775808 ≤ k ∧ k ≤ 9223372036854775807 := by
  obtain ⟨k, e, _, hw⟩ := DataW.trod_int Try.underlying3 h
  simp at e
  exact ⟨k, e, by simpa [Lit.wf, IntKind.min, IntKind.max, IntKind.signed, IntKind.bits] using hw⟩
theorem trod_str {H : Type} {enc : TypeId × Value → H} {w : World} {base : Nat} {spare : Nat → Bool} {held : Bool} {n : Nat} {v : Value} {y : DataW H × List MemPlace}
    (h : DataW.trod enc Try.prog w base spare held n 9 [v] = some y) : ∃ s, v = .string s ∧ s.size ≤ 9223372036854775807 := by
  obtain ⟨s, e, _, hw⟩ := DataW.trod_string Try.underlying9 h
  simp at e
  exact ⟨s, e, by simpa [maxLen] using hw⟩

theorem rdK_of_rows {α : Type} (enc : α → List Value) (k : Nat) (hk : ∀ x, (enc x).length = k) (h0 : 0 < k) (w : World) (a : Addr) (len : Nat) (P : α → Prop)
    (key : ∀ i, i < len → ∃ x : α, P x ∧ ∀ r u, (enc x)[r]? = some u → w.cell? (a.add (i * k + r)) = some u) : ∃ l : List α, l.length = len ∧ RdK enc w (some a) l ∧ ∀ x ∈ l, P x := by
  refine ⟨(List.range len).attach.map fun i => (key i.1 (by simpa using i.2)).choose, by simp, fun _ => ⟨a, rfl, fun j u hu => ?_⟩, fun x hx => ?_⟩
  · have hj := (List.getElem?_eq_some_iff.1 hu).1
    rw [flat_length enc k hk] at hj
    have hi : j / k < ((List.range len).attach.map fun i => (key i.1 (by simpa using i.2)).choose).length := Nat.div_lt_of_lt_mul (by rwa [Nat.mul_comm] at hj)
    have hr : j % k < k := Nat.mod_lt _ h0
    have hjk : j / k * k + j % k = j := Nat.div_add_mod' j k
    rw [← hjk, flat_get enc k hk _ _ _ hi hr] at hu
    have hil : j / k < len := by simpa using hi
    have hs := (key _ hil).choose_spec.2
    rw [← hjk]
    exact hs _ _ (by simpa using hu)
  · simp only [List.mem_map, List.mem_attach, true_and, Subtype.exists] at hx
    obtain ⟨i, hi', rfl⟩ := hx
    exact (key i (by simpa using hi')).choose_spec.1

theorem trod_part {H : Type} {enc : TypeId × Value → H} {w : World} {base : Nat} {spare : Nat → Bool} {held : Bool} {n : Nat} {a b : Value} {y : DataW H × List MemPlace}
    (h : DataW.trod enc Try.prog w base spare held n 26 [a, b] = some y) : ∃ s i, a = .string s ∧ b = .int .i64 i ∧ s.size ≤ 9223372036854775807 ∧ -9223372036854775808 ≤ i ∧ i ≤ 9223372036854775807 := by
  obtain ⟨ys, n', hn', hy, hlen, hyl, hf⟩ := DataW.trod_struct Try.underlying26 h
  have hl3 : ys.length = 2 := hyl
  obtain ⟨y0, y1, rfl⟩ : ∃ y0 y1, ys = [y0, y1] := by
    match ys, hl3 with
    | [a, b], _ => exact ⟨a, b, rfl⟩
  have h0 : DataW.trod enc Try.prog w base spare held n' 9 (List.take (Try.prog.cellsOf 9) (List.drop 0 [a, b])) = some y0 := hf 0 _ rfl
  have h1 : DataW.trod enc Try.prog w base spare held n' 3 (List.take (Try.prog.cellsOf 3) (List.drop 1 [a, b])) = some y1 := hf 1 _ rfl
  rw [str_cells] at h0
  rw [int_cells] at h1
  obtain ⟨s, rfl, hs⟩ := trod_str (y := y0) h0
  obtain ⟨m, rfl, hm⟩ := trod_i64 (y := y1) h1
  exact ⟨s, m, rfl, rfl, hs, hm⟩
theorem trod_item {H : Type} {enc : TypeId × Value → H} {w : World} {base : Nat} {spare : Nat → Bool} {held : Bool} {n : Nat} {a b c d : Value} {y : DataW H × List MemPlace}
    (h : DataW.trod enc Try.prog w base spare held n 28 [a, b, c, d] = some y) : ∃ x : QE, a = .string x.asset ∧ b = .int .i64 x.index ∧ c = .int .i64 x.due ∧ d = .int .i64 x.rank ∧ x.Ok := by
  obtain ⟨ys, n', hn', hy, hlen, hyl, hf⟩ := DataW.trod_struct Try.underlying28 h
  have hl3 : ys.length = 3 := hyl
  obtain ⟨y0, y1, y2, rfl⟩ : ∃ y0 y1 y2, ys = [y0, y1, y2] := by
    match ys, hl3 with
    | [a, b, c], _ => exact ⟨a, b, c, rfl⟩
  have h0 : DataW.trod enc Try.prog w base spare held n' 26 (List.take (Try.prog.cellsOf 26) (List.drop 0 [a, b, c, d])) = some y0 := hf 0 _ rfl
  have h1 : DataW.trod enc Try.prog w base spare held n' 3 (List.take (Try.prog.cellsOf 3) (List.drop 2 [a, b, c, d])) = some y1 := hf 1 _ rfl
  have h2 : DataW.trod enc Try.prog w base spare held n' 3 (List.take (Try.prog.cellsOf 3) (List.drop 3 [a, b, c, d])) = some y2 := hf 2 _ rfl
  rw [part_cells] at h0
  rw [int_cells] at h1 h2
  obtain ⟨s, i, rfl, rfl, hs, hi⟩ := trod_part (y := y0) h0
  obtain ⟨k, rfl, hk⟩ := trod_i64 (y := y1) h1
  obtain ⟨m, rfl, hm⟩ := trod_i64 (y := y2) h2
  exact ⟨⟨s, i, k, m, 0⟩, rfl, rfl, rfl, rfl, ⟨by unfold maxLen; exact hs, hi, hk, hm⟩⟩
set_option maxRecDepth 20000 in
theorem open_its {H : Type} {enc : TypeId × Value → H} {w : World} {base : Nat} {spare : Nat → Bool} {held : Bool} {fuel : Nat} {A : Option Addr} {len cap : Nat} {y : DataW H × List MemPlace}
    (h : DataW.trod enc Try.prog w base spare held fuel 22 [.slice A len cap] = some y) : ∃ l : List QE, l.length = len ∧ RdK itE w A l ∧ (∀ p ∈ l, p.Ok) ∧ l.length ≤ maxLen := by
  rcases open_slice_structs (P := Try.prog) (C := 4) Try.underlying22 Try.underlying28 (by kernel_rfl) h with hcs | ⟨a, l, c, hcs, hl, hm, hi⟩
  · simp at hcs
    obtain ⟨rfl, rfl, rfl⟩ := hcs
    exact ⟨[], rfl, RdK.nil _ _ _, by simp, Nat.zero_le _⟩
  · simp at hcs
    obtain ⟨rfl, rfl, rfl⟩ := hcs
    obtain ⟨l, h1, h2, h3⟩ := rdK_of_rows itE 4 itE_length (by omega) w a len QE.Ok fun i hil => by
      obtain ⟨vs, n, hvl, hat, hf⟩ := hi i hil
      obtain ⟨v0, v1, v2, v3, rfl⟩ : ∃ v0 v1 v2 v3, vs = [v0, v1, v2, v3] := by
        match vs, hvl with
        | [a, b, c, d], _ => exact ⟨a, b, c, d, rfl⟩
      obtain ⟨y0, t0⟩ : ∃ y, DataW.trod enc Try.prog w base spare held n 26 (List.take (Try.prog.cellsOf 26) (List.drop 0 [v0, v1, v2, v3])) = some y := hf 0 _ rfl
      obtain ⟨y1, t1⟩ : ∃ y, DataW.trod enc Try.prog w base spare held n 3 (List.take (Try.prog.cellsOf 3) (List.drop 2 [v0, v1, v2, v3])) = some y := hf 1 _ rfl
      obtain ⟨y2, t2⟩ : ∃ y, DataW.trod enc Try.prog w base spare held n 3 (List.take (Try.prog.cellsOf 3) (List.drop 3 [v0, v1, v2, v3])) = some y := hf 2 _ rfl
      rw [part_cells] at t0
      rw [int_cells] at t1 t2
      obtain ⟨s, i, rfl, rfl, hs, hi⟩ := trod_part (y := y0) t0
      obtain ⟨k, rfl, hk⟩ := trod_i64 (y := y1) t1
      obtain ⟨m, rfl, hm⟩ := trod_i64 (y := y2) t2
      refine ⟨⟨s, i, k, m, 0⟩, ⟨by unfold maxLen; exact hs, hi, hk, hm⟩, fun r u hu => ?_⟩
      have hr : r < 4 := (List.getElem?_eq_some_iff.1 hu).1
      rw [hat r hr]; exact hu
    exact ⟨l, h1, h2, h3, by rw [h1]; omega⟩

/-- a call that a script bids: what, now, most, the item -/
structure QOp where
  kind : Int
  now : Int
  most : Int
  x : QE
def opE (o : QOp) : List Value := [.int .i64 o.kind, .int .i64 o.now, .int .i64 o.most, .string o.x.asset, .int .i64 o.x.index, .int .i64 o.x.due, .int .i64 o.x.rank]
theorem opE_length (o : QOp) : (opE o).length = 7 := rfl
structure QOp.Ok (o : QOp) : Prop where
  k : -9223372036854775808 ≤ o.kind ∧ o.kind ≤ 9223372036854775807
  n : -9223372036854775808 ≤ o.now ∧ o.now ≤ 9223372036854775807
  m : -9223372036854775808 ≤ o.most ∧ o.most ≤ 9223372036854775807
  x : o.x.Ok
set_option maxRecDepth 20000 in
theorem open_ops {H : Type} {enc : TypeId × Value → H} {w : World} {base : Nat} {spare : Nat → Bool} {held : Bool} {fuel : Nat} {A : Option Addr} {len cap : Nat} {y : DataW H × List MemPlace}
    (h : DataW.trod enc Try.prog w base spare held fuel 40 [.slice A len cap] = some y) : ∃ l : List QOp, l.length = len ∧ RdK opE w A l ∧ (∀ p ∈ l, p.Ok) ∧ l.length ≤ maxLen := by
  rcases open_slice_structs (P := Try.prog) (C := 7) Try.underlying40 Try.underlying43 (by kernel_rfl) h with hcs | ⟨a, l, c, hcs, hl, hm, hi⟩
  · simp at hcs
    obtain ⟨rfl, rfl, rfl⟩ := hcs
    exact ⟨[], rfl, RdK.nil _ _ _, by simp, Nat.zero_le _⟩
  · simp at hcs
    obtain ⟨rfl, rfl, rfl⟩ := hcs
    obtain ⟨l, h1, h2, h3⟩ := rdK_of_rows opE 7 opE_length (by omega) w a len QOp.Ok fun i hil => by
      obtain ⟨vs, n, hvl, hat, hf⟩ := hi i hil
      obtain ⟨v0, v1, v2, v3, v4, v5, v6, rfl⟩ : ∃ v0 v1 v2 v3 v4 v5 v6, vs = [v0, v1, v2, v3, v4, v5, v6] := by
        match vs, hvl with
        | [a, b, c, d, e, f, g], _ => exact ⟨a, b, c, d, e, f, g, rfl⟩
      obtain ⟨y0, t0⟩ : ∃ y, DataW.trod enc Try.prog w base spare held n 3 (List.take (Try.prog.cellsOf 3) (List.drop 0 [v0, v1, v2, v3, v4, v5, v6])) = some y := hf 0 _ rfl
      obtain ⟨y1, t1⟩ : ∃ y, DataW.trod enc Try.prog w base spare held n 3 (List.take (Try.prog.cellsOf 3) (List.drop 1 [v0, v1, v2, v3, v4, v5, v6])) = some y := hf 1 _ rfl
      obtain ⟨y2, t2⟩ : ∃ y, DataW.trod enc Try.prog w base spare held n 3 (List.take (Try.prog.cellsOf 3) (List.drop 2 [v0, v1, v2, v3, v4, v5, v6])) = some y := hf 2 _ rfl
      obtain ⟨y3, t3⟩ : ∃ y, DataW.trod enc Try.prog w base spare held n 28 (List.take (Try.prog.cellsOf 28) (List.drop 3 [v0, v1, v2, v3, v4, v5, v6])) = some y := hf 3 _ rfl
      rw [int_cells] at t0 t1 t2
      rw [item_cells] at t3
      obtain ⟨k, rfl, hk⟩ := trod_i64 (y := y0) t0
      obtain ⟨n2, rfl, hn2⟩ := trod_i64 (y := y1) t1
      obtain ⟨m, rfl, hm⟩ := trod_i64 (y := y2) t2
      obtain ⟨x, rfl, rfl, rfl, rfl, hx⟩ := trod_item (y := y3) t3
      refine ⟨⟨k, n2, m, x⟩, ⟨hk, hn2, hm, hx⟩, fun r u hu => ?_⟩
      have hr : r < 7 := (List.getElem?_eq_some_iff.1 hu).1
      rw [hat r hr]; exact hu
    exact ⟨l, h1, h2, h3, by rw [h1]; omega⟩
end Go.Proofs.Ythhjioeipjnjmaa
