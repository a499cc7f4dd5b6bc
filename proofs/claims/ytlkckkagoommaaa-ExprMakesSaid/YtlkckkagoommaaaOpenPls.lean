/- Slices of columns, of values, of texts that came in, as the walks take them. -/
import Derived.Test.YtlkckkagoommaaaSmallX
import Derived.ProofKit
import Derived.Deep.Slices
import Derived.Deep.Fields
import Derived.ChangeSame
import Derived.ChangeArms
namespace Go.Proofs.Ytlkckkagoommaaa
open Go.RowKit Go.ChangeShapes Go.WideShapes Go.Deep

section
variable {H : Type} {enc : TypeId × Value → H} {P : Program} {w : World} {base : Nat} {spare : Nat → Bool} {held : Bool}
theorem open_slice_rows {t e : TypeId} {fs : Array Field} {fuel : Nat} {cs : List Value} {x : DataW H × List MemPlace} (ht : P.underlying t = some (.slice e)) (he : P.underlying e = some (.struct fs))
    (hone : oneCellFields P fs = true) (hC : P.cellsOf e = fs.size) (h : DataW.trod enc P w base spare held fuel t cs = some x) :
    cs = [.slice none 0 0] ∨
    ∃ (a : Addr) (len cap : Nat), cs = [.slice (some a) len cap] ∧ len ≤ cap ∧ cap ≤ maxLen ∧
      ∀ i, i < len → ∃ n : Nat, ∀ (j : Nat) (f : Field), fs[j]? = some f → ∃ (v : Value) (y : DataW H × List MemPlace), w.cell? (a.add (i * fs.size + j)) = some v ∧ DataW.trod enc P w base spare held n f.type [v] = some y := by
  rcases open_slice ht h with h0 | ⟨a, len, cap, m, n, D, Pl, hcs, hb, hl, hm, hmm, hx, hi⟩
  · exact .inl h0.1
  · refine .inr ⟨a, len, cap, hcs, hl, hm, fun i him => ?_⟩
    have hlm : len ≤ m := by rw [hmm]; split <;> omega
    obtain ⟨cs', hc, ht'⟩ := hi i (by omega)
    rw [hC] at hc
    obtain ⟨ys, n', hn', hy, hlen, hyl, hf⟩ := DataW.trod_struct he ht'
    obtain ⟨_, hcl, hat⟩ := World.cells?_some hc
    refine ⟨n', fun j f hj => ?_⟩
    obtain ⟨ho, hk⟩ := hone_of hone j f hj
    have hjl : j < fs.size := (Array.getElem?_eq_some_iff.1 hj).1
    have hcell := hat j hjl
    have hv : cs'[j]? = some (cs'[j]'(by omega)) := List.getElem?_eq_getElem (by omega)
    have h1 := hf j f hj
    rw [ho, hk] at h1
    have hone' : (cs'.drop j).take 1 = [cs'[j]'(by omega)] := by
      rw [List.drop_eq_getElem_cons (by omega)]
      rfl
    rw [hone'] at h1
    have hys : ys[j]? = some (ys[j]'(by omega)) := List.getElem?_eq_getElem (by omega)
    refine ⟨_, _, ?_, h1.trans hys⟩
    rw [← Go.Deep.add_add, hcell, hv]
theorem open_slice_structs {t e : TypeId} {fs : Array Field} {fuel C : Nat} {cs : List Value} {x : DataW H × List MemPlace} (ht : P.underlying t = some (.slice e)) (he : P.underlying e = some (.struct fs)) (hC : P.cellsOf e = C) (h : DataW.trod enc P w base spare held fuel t cs = some x) :
    cs = [.slice none 0 0] ∨
    ∃ (a : Addr) (len cap : Nat), cs = [.slice (some a) len cap] ∧ len ≤ cap ∧ cap ≤ maxLen ∧
      ∀ i, i < len → ∃ (vs : List Value) (n : Nat), vs.length = C ∧ (∀ j, j < C → w.cell? (a.add (i * C + j)) = vs[j]?) ∧
        ∀ (j : Nat) (f : Field), fs[j]? = some f → ∃ y : DataW H × List MemPlace, DataW.trod enc P w base spare held n f.type ((vs.drop f.offset).take (P.cellsOf f.type)) = some y := by
  rcases open_slice ht h with h0 | ⟨a, len, cap, m, n, D, Pl, hcs, hb, hl, hm, hmm, hx, hi⟩
  · exact .inl h0.1
  · refine .inr ⟨a, len, cap, hcs, hl, hm, fun i him => ?_⟩
    have hlm : len ≤ m := by rw [hmm]; split <;> omega
    obtain ⟨cs', hc, ht'⟩ := hi i (by omega)
    rw [hC] at hc
    obtain ⟨ys, n', hn', hy, hlen, hyl, hf⟩ := DataW.trod_struct he ht'
    obtain ⟨_, hcl, hat⟩ := World.cells?_some hc
    refine ⟨cs', n', hcl, fun j hj => ?_, fun j f hj => ?_⟩
    · rw [← Go.Deep.add_add]; exact hat j hj
    · have hjl : j < fs.size := (Array.getElem?_eq_some_iff.1 hj).1
      have hys : ys[j]? = some (ys[j]'(by omega)) := List.getElem?_eq_getElem (by omega)
      exact ⟨_, (hf j f hj).trans hys⟩
end

theorem trod_i64 {H : Type} {enc : TypeId × Value → H} {w : World} {base : Nat} {spare : Nat → Bool} {held : Bool} {n : Nat} {v : Value} {y : DataW H × List MemPlace}
    (h : DataW.trod enc Try.prog w base spare held n 3 [v] = some y) : ∃ k, v = .int .i64 k ∧ -9223372036854775808 ≤ k ∧ k ≤ 9223372036854775807 := by
  obtain ⟨k, e, _, hw⟩ := DataW.trod_int Try.underlying3 h
  simp at e
  exact ⟨k, e, by simpa [Lit.wf, IntKind.min, IntKind.max, IntKind.signed, IntKind.bits] using hw⟩
theorem trod_str {H : Type} {enc : TypeId × Value → H} {w : World} {base : Nat} {spare : Nat → Bool} {held : Bool} {n : Nat} {v : Value} {y : DataW H × List MemPlace}
    (h : DataW.trod enc Try.prog w base spare held n 9 [v] = some y) : ∃ s, v = .string s ∧ s.size ≤ 9223372036854775807 := by
  obtain ⟨s, e, _, hw⟩ := DataW.trod_string Try.underlying9 h
  simp at e
  exact ⟨s, e, by simpa [maxLen] using hw⟩

theorem rdK_of_rows {α : Type} (enc : α → List Value) (k : Nat) (hk : ∀ x, (enc x).length = k) (h0 : 0 < k) (w : World) (a : Addr) (len : Nat) (P : α → Prop)
    (key : ∀ i, i < len → ∃ x : α, P x ∧ ∀ r u, (enc x)[r]? = some u → w.cell? (a.add (i * k + r)) = some u) : ∃ l : List α, l.length = len ∧ RdK enc w (some a) l ∧ ∀ x ∈ l, P x := by
  refine ⟨(List.range len).attach.map fun i => (key i.1 (by simpa using i.2)).choose, by simp, fun _ => ⟨a, rfl, fun j u hu => ?_⟩, fun x hx => ?_⟩
  · have hj := (List.getElem?_eq_some_iff.1 hu).1
    rw [flat_length enc k hk] at hj
    have hi : j / k < ((List.range len).attach.map fun i => (key i.1 (by simpa using i.2)).choose).length := Nat.div_lt_of_lt_mul (by rwa [Nat.mul_comm] at hj)
    have hr : j % k < k := Nat.mod_lt _ h0
    have hjk : j / k * k + j % k = j := Nat.div_add_mod' j k
    rw [← hjk, flat_get enc k hk _ _ _ hi hr] at hu
    have hil : j / k < len := by simpa using hi
    have hs := (key _ hil).choose_spec.2
    rw [← hjk]
    exact hs _ _ (by simpa using hu)
  · simp only [List.mem_map, List.mem_attach, true_and, Subtype.exists] at hx
    obtain ⟨i, hi', rfl⟩ := hx
    exact (key i (by simpa using hi')).choose_spec.1

structure PL.Okw (p : PL) : Prop where
  k : -9223372036854775808 ≤ p.nd.kind ∧ p.nd.kind ≤ 9223372036854775807
  n : p.nd.name.size ≤ 9223372036854775807
  v : p.nd.v.Ok 9223372036854775807
  o : p.nd.op.size ≤ 9223372036854775807
  c : -9223372036854775808 ≤ p.cnt ∧ p.cnt ≤ 9223372036854775807
theorem trod_val {H : Type} {enc : TypeId × Value → H} {w : World} {base : Nat} {spare : Nat → Bool} {held : Bool} {n : Nat} {a b c : Value} {y : DataW H × List MemPlace}
    (h : DataW.trod enc Try.prog w base spare held n 30 [a, b, c] = some y) : ∃ v : VD, a = .int .i64 v.kind ∧ b = .int .i64 v.num ∧ c = .string v.text ∧ v.Ok 9223372036854775807 := by
  obtain ⟨ys, n', hn', hy, hlen, hyl, hf⟩ := DataW.trod_struct Try.underlying30 h
  have hl3 : ys.length = 3 := hyl
  obtain ⟨y0, y1, y2, rfl⟩ : ∃ y0 y1 y2, ys = [y0, y1, y2] := by
    match ys, hl3 with
    | [a, b, c], _ => exact ⟨a, b, c, rfl⟩
  have z1 : Try.prog.cellsOf 3 = 1 := by kernel_rfl
  have z2 : Try.prog.cellsOf 9 = 1 := by kernel_rfl
  have h0 : DataW.trod enc Try.prog w base spare held n' 3 (List.take (Try.prog.cellsOf 3) (List.drop 0 [a, b, c])) = some y0 := hf 0 _ rfl
  have h1 : DataW.trod enc Try.prog w base spare held n' 3 (List.take (Try.prog.cellsOf 3) (List.drop 1 [a, b, c])) = some y1 := hf 1 _ rfl
  have h2 : DataW.trod enc Try.prog w base spare held n' 9 (List.take (Try.prog.cellsOf 9) (List.drop 2 [a, b, c])) = some y2 := hf 2 _ rfl
  rw [z1] at h0 h1
  rw [z2] at h2
  obtain ⟨k, rfl, hk⟩ := trod_i64 (y := y0) h0
  obtain ⟨m, rfl, hm⟩ := trod_i64 (y := y1) h1
  obtain ⟨s, rfl, hs⟩ := trod_str (y := y2) h2
  exact ⟨⟨k, m, s⟩, rfl, rfl, rfl, hk, hm, hs⟩
set_option maxRecDepth 20000 in
theorem open_pls {H : Type} {enc : TypeId × Value → H} {w : World} {base : Nat} {spare : Nat → Bool} {held : Bool} {fuel : Nat} {A : Option Addr} {len cap : Nat} {y : DataW H × List MemPlace}
    (h : DataW.trod enc Try.prog w base spare held fuel 22 [.slice A len cap] = some y) : ∃ l : List PL, l.length = len ∧ PlsAt w A l ∧ (∀ p ∈ l, p.Okw) ∧ l.length ≤ 9223372036854775807 ∧ len ≤ cap := by
  have z1 : Try.prog.cellsOf 3 = 1 := by kernel_rfl
  have z2 : Try.prog.cellsOf 9 = 1 := by kernel_rfl
  have z3 : Try.prog.cellsOf 30 = 3 := by kernel_rfl
  rcases open_slice_structs (P := Try.prog) (C := 7) Try.underlying22 Try.underlying66 (by kernel_rfl) h with hcs | ⟨a, l, c, hcs, hl, hm, hi⟩
  · simp at hcs
    obtain ⟨rfl, rfl, rfl⟩ := hcs
    exact ⟨[], rfl, RdK.nil _ _ _, by simp, Nat.zero_le _, Nat.zero_le _⟩
  · simp at hcs
    obtain ⟨rfl, rfl, rfl⟩ := hcs
    obtain ⟨l, h1, h2, h3⟩ := rdK_of_rows plE 7 plE_length (by omega) w a len PL.Okw fun i hil => by
      obtain ⟨vs, n, hvl, hat, hf⟩ := hi i hil
      obtain ⟨v0, v1, v2, v3, v4, v5, v6, rfl⟩ : ∃ v0 v1 v2 v3 v4 v5 v6, vs = [v0, v1, v2, v3, v4, v5, v6] := by
        match vs, hvl with
        | [a, b, c, d, e, f, g], _ => exact ⟨a, b, c, d, e, f, g, rfl⟩
      obtain ⟨y0, t0⟩ : ∃ y, DataW.trod enc Try.prog w base spare held n 3 (List.take (Try.prog.cellsOf 3) (List.drop 0 [v0, v1, v2, v3, v4, v5, v6])) = some y := hf 0 _ rfl
      obtain ⟨y1, t1⟩ : ∃ y, DataW.trod enc Try.prog w base spare held n 9 (List.take (Try.prog.cellsOf 9) (List.drop 1 [v0, v1, v2, v3, v4, v5, v6])) = some y := hf 1 _ rfl
      obtain ⟨y2, t2⟩ : ∃ y, DataW.trod enc Try.prog w base spare held n 30 (List.take (Try.prog.cellsOf 30) (List.drop 2 [v0, v1, v2, v3, v4, v5, v6])) = some y := hf 2 _ rfl
      obtain ⟨y3, t3⟩ : ∃ y, DataW.trod enc Try.prog w base spare held n 9 (List.take (Try.prog.cellsOf 9) (List.drop 5 [v0, v1, v2, v3, v4, v5, v6])) = some y := hf 3 _ rfl
      obtain ⟨y4, t4⟩ : ∃ y, DataW.trod enc Try.prog w base spare held n 3 (List.take (Try.prog.cellsOf 3) (List.drop 6 [v0, v1, v2, v3, v4, v5, v6])) = some y := hf 4 _ rfl
      rw [z1] at t0 t4
      rw [z2] at t1 t3
      rw [z3] at t2
      obtain ⟨k, rfl, hk⟩ := trod_i64 (y := y0) t0
      obtain ⟨s, rfl, hs⟩ := trod_str (y := y1) t1
      obtain ⟨v, rfl, rfl, rfl, hv⟩ := trod_val (y := y2) t2
      obtain ⟨o, rfl, ho⟩ := trod_str (y := y3) t3
      obtain ⟨q, rfl, hq⟩ := trod_i64 (y := y4) t4
      refine ⟨⟨⟨k, s, v, o⟩, q⟩, ⟨hk, hs, hv, ho, hq⟩, fun r u hu => ?_⟩
      have hr : r < 7 := (List.getElem?_eq_some_iff.1 hu).1
      rw [hat r hr]; exact hu
    exact ⟨l, h1, h2, h3, by rw [h1]; unfold maxLen at hm; omega, hl⟩
end Go.Proofs.Ytlkckkagoommaaa
