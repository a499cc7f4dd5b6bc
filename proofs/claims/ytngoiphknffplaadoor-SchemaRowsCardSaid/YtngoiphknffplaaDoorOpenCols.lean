/- Slices of columns, of values, of texts that came in, as the walks take them. -/
import Derived.Test.YtngoiphknffplaaDoorSchSmall
import Derived.Test.YtngoiphknffplaaDoorSchPick
import Derived.ProofKit
import Derived.Deep.Slices
import Derived.Deep.Fields
import Derived.ChangeSame
import Derived.ChangeArms
namespace Go.Proofs.YtngoiphknffplaaDoor
open Go.RowKit Go.ChangeShapes Go.WideShapes Go.Deep

section
variable {H : Type} {enc : TypeId × Value → H} {P : Program} {w : World} {base : Nat} {spare : Nat → Bool} {held : Bool}
theorem open_slice_rows {t e : TypeId} {fs : Array Field} {fuel : Nat} {cs : List Value} {x : DataW H × List MemPlace} (ht : P.underlying t = some (.slice e)) (he : P.underlying e = some (.struct fs))
    (hone : oneCellFields P fs = true) (hC : P.cellsOf e = fs.size) (h : DataW.trod enc P w base spare held fuel t cs = some x) :
    cs = [.slice none 0 0] ∨
    ∃ (a : Addr) (len cap : Nat), cs = [.slice (some a) len cap] ∧ len ≤ cap ∧ cap ≤ maxLen ∧
      ∀ i, i < len → ∃ n : Nat, ∀ (j : Nat) (f : Field), fs[j]? = some f → ∃ (v : Value) (y : DataW H × List MemPlace), w.cell? (a.add (i * fs.size + j)) = some v ∧ DataW.trod enc P w base spare held n f.type [v] = some y := by
  rcases open_slice ht h with h0 | ⟨a, len, cap, m, n, D, Pl, hcs, hb, hl, hm, hmm, hx, hi⟩
  · exact .inl h0.1
  · refine .inr ⟨a, len, cap, hcs, hl, hm, fun i him => ?_⟩
    have hlm : len ≤ m := by rw [hmm]; split <;> omega
    obtain ⟨cs', hc, ht'⟩ := hi i (by omega)
    rw [hC] at hc
    obtain ⟨ys, n', hn', hy, hlen, hyl, hf⟩ := DataW.trod_struct he ht'
    obtain ⟨_, hcl, hat⟩ := World.cells?_some hc
    refine ⟨n', fun j f hj => ?_⟩
    obtain ⟨ho, hk⟩ := hone_of hone j f hj
    have hjl : j < fs.size := (Array.getElem?_eq_some_iff.1 hj).1
    have hcell := hat j hjl
    have hv : cs'[j]? = some (cs'[j]'(by omega)) := List.getElem?_eq_getElem (by omega)
    have h1 := hf j f hj
    rw [ho, hk] at h1
    have hone' : (cs'.drop j).take 1 = [cs'[j]'(by omega)] := by
      rw [List.drop_eq_getElem_cons (by omega)]
      rfl
    rw [hone'] at h1
    have hys : ys[j]? = some (ys[j]'(by omega)) := List.getElem?_eq_getElem (by omega)
    refine ⟨_, _, ?_, h1.trans hys⟩
    rw [← Go.Deep.add_add, hcell, hv]
end

theorem trod_i64 {H : Type} {enc : TypeId × Value → H} {w : World} {base : Nat} {spare : Nat → Bool} {held : Bool} {n : Nat} {v : Value} {y : DataW H × List MemPlace}
    (h : DataW.trod enc Tryd.prog w base spare held n 3 [v] = some y) : ∃ k, v = .int .i64 k ∧ -9223372036854775808 ≤ k ∧ k ≤ 9223372036854775807 := by
  obtain ⟨k, e, _, hw⟩ := DataW.trod_int Tryd.underlying3 h
  simp at e
  exact ⟨k, e, by simpa [Lit.wf, IntKind.min, IntKind.max, IntKind.signed, IntKind.bits] using hw⟩
theorem trod_str {H : Type} {enc : TypeId × Value → H} {w : World} {base : Nat} {spare : Nat → Bool} {held : Bool} {n : Nat} {v : Value} {y : DataW H × List MemPlace}
    (h : DataW.trod enc Tryd.prog w base spare held n 9 [v] = some y) : ∃ s, v = .string s ∧ s.size ≤ 9223372036854775807 := by
  obtain ⟨s, e, _, hw⟩ := DataW.trod_string Tryd.underlying9 h
  simp at e
  exact ⟨s, e, by simpa [maxLen] using hw⟩

theorem rdK_of_rows {α : Type} (enc : α → List Value) (k : Nat) (hk : ∀ x, (enc x).length = k) (h0 : 0 < k) (w : World) (a : Addr) (len : Nat) (P : α → Prop)
    (key : ∀ i, i < len → ∃ x : α, P x ∧ ∀ r u, (enc x)[r]? = some u → w.cell? (a.add (i * k + r)) = some u) : ∃ l : List α, l.length = len ∧ RdK enc w (some a) l ∧ ∀ x ∈ l, P x := by
  refine ⟨(List.range len).attach.map fun i => (key i.1 (by simpa using i.2)).choose, by simp, fun _ => ⟨a, rfl, fun j u hu => ?_⟩, fun x hx => ?_⟩
  · have hj := (List.getElem?_eq_some_iff.1 hu).1
    rw [flat_length enc k hk] at hj
    have hi : j / k < ((List.range len).attach.map fun i => (key i.1 (by simpa using i.2)).choose).length := Nat.div_lt_of_lt_mul (by rwa [Nat.mul_comm] at hj)
    have hr : j % k < k := Nat.mod_lt _ h0
    have hjk : j / k * k + j % k = j := Nat.div_add_mod' j k
    rw [← hjk, flat_get enc k hk _ _ _ hi hr] at hu
    have hil : j / k < len := by simpa using hi
    have hs := (key _ hil).choose_spec.2
    rw [← hjk]
    exact hs _ _ (by simpa using hu)
  · simp only [List.mem_map, List.mem_attach, true_and, Subtype.exists] at hx
    obtain ⟨i, hi', rfl⟩ := hx
    exact (key i (by simpa using hi')).choose_spec.1

theorem open_cols {H : Type} {enc : TypeId × Value → H} {w : World} {base : Nat} {spare : Nat → Bool} {held : Bool} {fuel : Nat} {A : Option Addr} {len cap : Nat} {y : DataW H × List MemPlace}
    (h : DataW.trod enc Tryd.prog w base spare held fuel 24 [.slice A len cap] = some y) : ∃ l : List CD, l.length = len ∧ ColsAt w A l ∧ (∀ c ∈ l, c.Okw) ∧ l.length ≤ 9223372036854775807 ∧ len ≤ cap := by
  rcases open_slice_rows (P := Tryd.prog) Tryd.underlying24 Tryd.underlying38 (by kernel_rfl) (by kernel_rfl) h with hcs | ⟨a, l, c, hcs, hl, hm, hi⟩
  · simp at hcs
    obtain ⟨rfl, rfl, rfl⟩ := hcs
    exact ⟨[], rfl, RdK.nil _ _ _, by simp, Nat.zero_le _, Nat.zero_le _⟩
  · simp at hcs
    obtain ⟨rfl, rfl, rfl⟩ := hcs
    obtain ⟨l, h1, h2, h3⟩ := rdK_of_rows cdE 2 cdE_length (by omega) w a len CD.Okw fun i hil => by
      obtain ⟨n, hf⟩ := hi i hil
      obtain ⟨v0, y0, g0, t0⟩ := hf 0 _ rfl
      obtain ⟨v1, y1, g1, t1⟩ := hf 1 _ rfl
      obtain ⟨s, rfl, hs⟩ := trod_str t0
      obtain ⟨k, rfl, hk⟩ := trod_i64 t1
      refine ⟨⟨s, k⟩, ⟨hs, hk⟩, fun r u hu => ?_⟩
      match r, hu with
      | 0, hu => obtain rfl := Option.some.inj hu; exact g0
      | 1, hu => obtain rfl := Option.some.inj hu; exact g1
    exact ⟨l, h1, h2, h3, by rw [h1]; unfold maxLen at hm; omega, hl⟩

theorem open_vals {H : Type} {enc : TypeId × Value → H} {w : World} {base : Nat} {spare : Nat → Bool} {held : Bool} {fuel : Nat} {A : Option Addr} {len cap : Nat} {y : DataW H × List MemPlace}
    (h : DataW.trod enc Tryd.prog w base spare held fuel 47 [.slice A len cap] = some y) : ∃ l : List VD, l.length = len ∧ ValsAt w A l ∧ (∀ c ∈ l, c.Ok 9223372036854775807) ∧ l.length ≤ 9223372036854775807 ∧ len ≤ cap := by
  rcases open_slice_rows (P := Tryd.prog) Tryd.underlying47 Tryd.underlying56 (by kernel_rfl) (by kernel_rfl) h with hcs | ⟨a, l, c, hcs, hl, hm, hi⟩
  · simp at hcs
    obtain ⟨rfl, rfl, rfl⟩ := hcs
    exact ⟨[], rfl, RdK.nil _ _ _, by simp, Nat.zero_le _, Nat.zero_le _⟩
  · simp at hcs
    obtain ⟨rfl, rfl, rfl⟩ := hcs
    obtain ⟨l, h1, h2, h3⟩ := rdK_of_rows vdE 3 vdE_length (by omega) w a len (fun v => v.Ok 9223372036854775807) fun i hil => by
      obtain ⟨n, hf⟩ := hi i hil
      obtain ⟨v0, y0, g0, t0⟩ := hf 0 _ rfl
      obtain ⟨v1, y1, g1, t1⟩ := hf 1 _ rfl
      obtain ⟨v2, y2, g2, t2⟩ := hf 2 _ rfl
      obtain ⟨k, rfl, hk⟩ := trod_i64 t0
      obtain ⟨m, rfl, hm'⟩ := trod_i64 t1
      obtain ⟨s, rfl, hs⟩ := trod_str t2
      refine ⟨⟨k, m, s⟩, ⟨hk, hm', hs⟩, fun r u hu => ?_⟩
      match r, hu with
      | 0, hu => obtain rfl := Option.some.inj hu; exact g0
      | 1, hu => obtain rfl := Option.some.inj hu; exact g1
      | 2, hu => obtain rfl := Option.some.inj hu; exact g2
    exact ⟨l, h1, h2, h3, by rw [h1]; unfold maxLen at hm; omega, hl⟩

theorem open_strs {H : Type} {enc : TypeId × Value → H} {w : World} {base : Nat} {spare : Nat → Bool} {held : Bool} {fuel : Nat} {A : Option Addr} {len cap : Nat} {y : DataW H × List MemPlace}
    (h : DataW.trod enc Tryd.prog w base spare held fuel 35 [.slice A len cap] = some y) : ∃ l : List ByteArray, l.length = len ∧ RdK sbE w A l ∧ (∀ s ∈ l, s.size ≤ 9223372036854775807) ∧ l.length ≤ 9223372036854775807 ∧ len ≤ cap := by
  rcases open_slice Tryd.underlying35 h with ⟨hcs, _⟩ | ⟨a, l, c, m, n, D, Pl, hcs, hb, hl, hm, hmm, hx, hi⟩
  · simp at hcs
    obtain ⟨rfl, rfl, rfl⟩ := hcs
    exact ⟨[], rfl, RdK.nil _ _ _, by simp, Nat.zero_le _, Nat.zero_le _⟩
  · simp at hcs
    obtain ⟨rfl, rfl, rfl⟩ := hcs
    have hlm : len ≤ m := by rw [hmm]; split <;> omega
    have hC : Tryd.prog.cellsOf 9 = 1 := by kernel_rfl
    obtain ⟨l, h1, h2, h3⟩ := rdK_of_rows sbE 1 sbE_length (by omega) w a len (fun s => s.size ≤ 9223372036854775807) fun i hil => by
      obtain ⟨cs', hc, ht'⟩ := hi i (by omega)
      rw [hC] at hc
      obtain ⟨_, hcl, hat⟩ := World.cells?_some hc
      have h0 := hat 0 (by omega)
      match cs', hcl, ht', h0 with
      | [v], _, ht', h0 =>
        obtain ⟨s, rfl, hs⟩ := trod_str ht'
        refine ⟨s, hs, fun r u hu => ?_⟩
        match r, hu with
        | 0, hu =>
          obtain rfl := Option.some.inj hu
          rw [add_of_add] at h0
          exact h0
    exact ⟨l, h1, h2, h3, by rw [h1]; unfold maxLen at hm; omega, hl⟩
end Go.Proofs.YtngoiphknffplaaDoor
