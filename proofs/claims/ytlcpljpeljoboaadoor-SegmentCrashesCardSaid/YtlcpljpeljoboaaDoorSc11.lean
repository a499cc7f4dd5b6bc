/- Part 11 of the texts of this proof, one behind the other; each begins with its own sentence. No condition beyond those that its theorems state. -/
import Derived.Test.YtlcpljpeljoboaaDoorSc10
import Derived.ProofKit
import Derived.Deep.Slices
import Derived.Deep.Fields
import Derived.ChangeSame
import Derived.Test.YtlcpljpeljoboaaDoorRows
import Derived.Deep.DeepHandedRow
import Derived.Lib.LaidTab
/- A slice of ints that came in, as the walks take it. -/
namespace Go.Proofs.YtlcpljpeljoboaaDoor
open Go.RowKit

theorem ints_of_row {w : World} {x : Addr} {len : Nat} {zs : List Int} (hl : len ≤ zs.length) (hm : len ≤ maxLen)
    (hcell : ∀ i, i < zs.length → w.cell? (x.add i) = some (.int .i64 (zs.getD i 0))) (hw : ∀ n ∈ zs, (Lit.int .i64 n).wf = true) :
    ∃ l : List Int, l.length = len ∧ RdI w (some x) l ∧ l.length ≤ maxLen ∧ ∀ k ∈ l, -9223372036854775808 ≤ k ∧ k ≤ 9223372036854775807 := by
  refine ⟨zs.take len, by simp; omega, fun _ => ⟨x, rfl, fun j u hu => ?_⟩, by simp; omega, fun k hk => ?_⟩
  · have hj : j < len := by
      have := (List.getElem?_eq_some_iff.1 hu).1
      simp at this; omega
    rw [hcell j (by omega)]
    simp only [List.getElem?_map, List.getElem?_take, hj, if_true] at hu
    have hjz : j < zs.length := by omega
    rw [List.getElem?_eq_getElem hjz] at hu
    simp only [Option.map_some, Option.some.injEq] at hu
    subst hu
    simp [List.getD, List.getElem?_eq_getElem hjz]
  · have := hw k (List.mem_of_mem_take hk)
    simpa [Lit.wf, IntKind.min, IntKind.max, IntKind.signed, IntKind.bits] using this
end Go.Proofs.YtlcpljpeljoboaaDoor

/- A slice of bywashlaw08.Op that came in, as the walks take it. -/
namespace Go.Proofs.YtlcpljpeljoboaaDoor
open Go.RowKit Go.ChangeShapes Go.WideShapes Go.Deep

section
variable {H : Type} {enc : TypeId × Value → H} {P : Program} {w : World} {base : Nat} {spare : Nat → Bool} {held : Bool}
theorem open_slice_fields {t e : TypeId} {fs : Array Field} {fuel : Nat} {cs : List Value} {x : DataW H × List MemPlace} (ht : P.underlying t = some (.slice e)) (he : P.underlying e = some (.struct fs))
    (hone : oneCellFields P fs = true) (hC : P.cellsOf e = fs.size) (h : DataW.trod enc P w base spare held fuel t cs = some x) :
    (cs = [.slice none 0 0] ∧ x = (.nil, [])) ∨
    ∃ (a : Addr) (len cap m : Nat) (D : Nat → DataW H) (Pl : Nat → List MemPlace), cs = [.slice (some a) len cap] ∧ base ≤ a.block ∧ len ≤ cap ∧ cap ≤ maxLen ∧ m = (if spare a.block then cap else len) ∧
      x = (.slice ((List.range len).map D) ((List.range (m - len)).map fun j => D (len + j)), MemPlace.row a (m * fs.size) ++ (List.range m).flatMap Pl) ∧
      ∀ i, i < m → ∃ (ys : List (DataW H × List MemPlace)) (n : Nat), D i = .agg (ys.map (·.1)) ∧ Pl i = ys.flatMap (·.2) ∧ ys.length = fs.size ∧
        ∀ (j : Nat) (f : Field), fs[j]? = some f → ∃ (v : Value) (y : DataW H × List MemPlace), w.cell? (a.add (i * fs.size + j)) = some v ∧ ys[j]? = some y ∧ DataW.trod enc P w base spare held n f.type [v] = some y := by
  rcases open_slice ht h with h0 | ⟨a, len, cap, m, n, D, Pl, hcs, hb, hl, hm, hmm, hx, hi⟩
  · exact .inl h0
  · refine .inr ⟨a, len, cap, m, D, Pl, hcs, hb, hl, hm, hmm, by rw [hC] at hx; exact hx, fun i him => ?_⟩
    obtain ⟨cs', hc, ht'⟩ := hi i him
    rw [hC] at hc
    obtain ⟨ys, n', hn', hy, hlen, hyl, hf⟩ := DataW.trod_struct he ht'
    obtain ⟨_, hcl, hat⟩ := World.cells?_some hc
    simp only [Prod.mk.injEq] at hy
    refine ⟨ys, n', hy.1, hy.2, hyl, fun j f hj => ?_⟩
    obtain ⟨ho, hk⟩ := hone_of hone j f hj
    have hjl : j < fs.size := (Array.getElem?_eq_some_iff.1 hj).1
    have hcell := hat j hjl
    have hv : cs'[j]? = some (cs'[j]'(by omega)) := List.getElem?_eq_getElem (by omega)
    have h1 := hf j f hj
    rw [ho, hk] at h1
    have hone' : (cs'.drop j).take 1 = [cs'[j]'(by omega)] := by
      rw [List.drop_eq_getElem_cons (by omega)]
      rfl
    rw [hone'] at h1
    have hys : ys[j]? = some (ys[j]'(by omega)) := List.getElem?_eq_getElem (by omega)
    refine ⟨_, _, ?_, hys, h1.trans hys⟩
    rw [← Go.Deep.add_add, hcell, hv]
end

theorem trod_i64 {H : Type} {enc : TypeId × Value → H} {w : World} {base : Nat} {spare : Nat → Bool} {held : Bool} {n : Nat} {v : Value} {y : DataW H × List MemPlace}
    (h : DataW.trod enc Tryd.prog w base spare held n 3 [v] = some y) : ∃ k, v = .int .i64 k ∧ I64 k := by
  obtain ⟨k, e, _, hw⟩ := DataW.trod_int Tryd.underlying3 h
  simp at e
  exact ⟨k, e, by simpa [I64, Lit.wf, IntKind.min, IntKind.max, IntKind.signed, IntKind.bits] using hw⟩
theorem trod_bytesC {H : Type} {enc : TypeId × Value → H} {w : World} {base : Nat} {spare : Nat → Bool} {held : Bool} {n : Nat} {v : Value} {y : DataW H × List MemPlace}
    (h : DataW.trod enc Tryd.prog w base spare held n 22 [v] = some y) : ∃ A c l, v = .slice A (l.length) c ∧ RdB w A l ∧ l.length ≤ maxLen ∧ l.length ≤ c := by
  rcases open_ints Tryd.underlying22 Tryd.underlying5 (by kernel_rfl) h with ⟨hcs, _⟩ | ⟨x, l, c, zs, hcs, _, hl, hm, hz, _, hcell, hwz⟩
  · simp at hcs
    exact ⟨none, 0, [], hcs, Rd.nil _ _, Nat.zero_le _, Nat.zero_le _⟩
  · simp at hcs
    obtain ⟨b, e, h1, h2⟩ := bytes_of_row (by rw [hz]; split <;> omega) (by omega) hcell hwz
    exact ⟨_, c, b, by rw [e]; exact hcs, h1, h2, by rw [e]; exact hl⟩
theorem trod_intsG {H : Type} {enc : TypeId × Value → H} {w : World} {base : Nat} {spare : Nat → Bool} {held : Bool} {n : Nat} {v : Value} {y : DataW H × List MemPlace}
    (h : DataW.trod enc Tryd.prog w base spare held n 50 [v] = some y) : ∃ A c l, v = .slice A (l.length) c ∧ RdI w A l ∧ l.length ≤ maxLen ∧ ∀ k ∈ l, -9223372036854775808 ≤ k ∧ k ≤ 9223372036854775807 := by
  rcases open_ints Tryd.underlying50 Tryd.underlying3 (by kernel_rfl) h with ⟨hcs, _⟩ | ⟨x, l, c, zs, hcs, _, hl, hm, hz, _, hcell, hwz⟩
  · simp at hcs
    exact ⟨none, 0, [], hcs, Rd.nil _ _, Nat.zero_le _, by simp⟩
  · simp at hcs
    obtain ⟨b, e, h1, h2, h3⟩ := ints_of_row (by rw [hz]; split <;> omega) (by omega) hcell hwz
    exact ⟨_, c, b, by rw [e]; exact hcs, h1, h2, h3⟩
theorem trod_bsG {H : Type} {enc : TypeId × Value → H} {w : World} {base : Nat} {spare : Nat → Bool} {held : Bool} {n : Nat} {v : Value} {y : DataW H × List MemPlace}
    (h : DataW.trod enc Tryd.prog w base spare held n 49 [v] = some y) : ∃ A c, ∃ l : List (List UInt8), v = .slice A l.length c ∧ BsAt w A l ∧ l.length ≤ maxLen ∧ ∀ e ∈ l, e.length ≤ maxLen := by
  rcases open_slice Tryd.underlying49 h with ⟨hcs, _⟩ | ⟨a, len, c, m, n, D, Pl, hcs, hb, hl, hm, hmm, hx, hi⟩
  · simp at hcs
    exact ⟨none, 0, [], hcs, fun h => by simp at h, Nat.zero_le _, by simp⟩
  · simp at hcs
    subst hcs
    have hlm : len ≤ m := by rw [hmm]; split <;> omega
    have hC : Tryd.prog.cellsOf 22 = 1 := by kernel_rfl
    have key : ∀ i, i < len → ∃ e : List UInt8, (∃ A' c', w.cell? (a.add i) = some (.slice A' e.length c') ∧ RdB w A' e ∧ e.length ≤ c') ∧ e.length ≤ maxLen := by
      intro i hil
      obtain ⟨cs', hc, ht'⟩ := hi i (by omega)
      rw [hC] at hc
      obtain ⟨_, hcl, hat⟩ := World.cells?_some hc
      have h0 := hat 0 (by omega)
      match cs', hcl, ht', h0 with
      | [v], _, ht', h0 =>
        obtain ⟨A', c', l', rfl, hr, hm', hc'⟩ := trod_bytesC ht'
        refine ⟨l', ⟨A', c', ?_, hr, hc'⟩, hm'⟩
        rw [add_of_add, Nat.mul_one, Nat.add_zero] at h0
        exact h0
    refine ⟨some a, c, (List.range len).attach.map fun i => (key i.1 (by simpa using i.2)).choose, by simp, fun _ => ⟨a, rfl, fun j hj => ?_⟩, by simp; omega, fun e he => ?_⟩
    · have hj' : j < len := by simpa using hj
      have := (key j hj').choose_spec.1
      simpa using this
    · simp only [List.mem_map, List.mem_attach, true_and, Subtype.exists] at he
      obtain ⟨i, hi', rfl⟩ := he
      exact (key i (by simpa using hi')).choose_spec.2

theorem open_opG {H : Type} {enc : TypeId × Value → H} {w : World} {base : Nat} {spare : Nat → Bool} {held : Bool} {fuel : Nat} {A : Option Addr} {len cap : Nat} {y : DataW H × List MemPlace}
    (h : DataW.trod enc Tryd.prog w base spare held fuel 44 [.slice A len cap] = some y) : ∃ l : List OpG, l.length = len ∧ OpsG w A l ∧ l.length ≤ maxLen := by
  rcases open_slice_fields (P := Tryd.prog) Tryd.underlying44 Tryd.underlying52 (by kernel_rfl) (by kernel_rfl) h with ⟨hcs, _⟩ | ⟨a, l, c, m, D, Pl, hcs, _, hl, hm, hmm, _, hi⟩
  · simp at hcs
    obtain ⟨rfl, rfl, rfl⟩ := hcs
    exact ⟨[], rfl, fun i hi => absurd hi (by simp), Nat.zero_le _⟩
  · simp at hcs
    obtain ⟨rfl, rfl, rfl⟩ := hcs
    have hlm : len ≤ m := by rw [hmm]; split <;> omega
    have key : ∀ i, i < len → ∃ o : OpG, ∃ b off, a.add (i * 5) = ⟨b, off, none⟩ ∧ o.ok w b off := by
      intro i hil
      obtain ⟨ys, n, _, _, _, hf⟩ := hi i (by omega)
      obtain ⟨v0, y0, h0, _, t0⟩ := hf 0 _ rfl
      obtain ⟨v1, y1, h1, _, t1⟩ := hf 1 _ rfl
      obtain ⟨v2, y2, h2, _, t2⟩ := hf 2 _ rfl
      obtain ⟨v3, y3, h3, _, t3⟩ := hf 3 _ rfl
      obtain ⟨v4, y4, h4, _, t4⟩ := hf 4 _ rfl
      obtain ⟨k0, rfl, b0⟩ := trod_i64 t0
      obtain ⟨k1, rfl, b1⟩ := trod_i64 t1
      obtain ⟨dA, dc, dl, rfl, rd, hdl, _⟩ := trod_bytesC t2
      obtain ⟨rA, rc, rl, rfl, rr, hrl, hre⟩ := trod_bsG t3
      obtain ⟨kA, kc, kl, rfl, rk, hkl, hks⟩ := trod_intsG t4
      have g0 : w.cell? (a.add (i * 5)) = some (.int .i64 k0) := h0
      have g1 : w.cell? ((a.add (i * 5)).add 1) = some (.int .i64 k1) := by rw [add_of_add]; exact h1
      have g2 : w.cell? ((a.add (i * 5)).add 2) = some (.slice dA dl.length dc) := by rw [add_of_add]; exact h2
      have g3 : w.cell? ((a.add (i * 5)).add 3) = some (.slice rA rl.length rc) := by rw [add_of_add]; exact h3
      have g4 : w.cell? ((a.add (i * 5)).add 4) = some (.slice kA kl.length kc) := by rw [add_of_add]; exact h4
      rcases hp : a.add (i * 5) with ⟨b, off, spot⟩
      rw [hp] at g0 g1 g2 g3 g4
      have hspot : spot = none := by simpa using World.cell?_spot g0
      subst hspot
      exact ⟨⟨k0, k1, dA, dc, dl, rA, rc, rl, kA, kc, kl⟩, b, off, rfl, g0, g1, g2, g3, g4, rd, rr, rk, b0, b1, hks, by unfold maxLen at hdl; omega, by unfold maxLen at hrl; omega, by unfold maxLen at hkl; omega, fun r hr => by have := hre r hr; unfold maxLen at this; omega⟩
    refine ⟨(List.range len).attach.map fun i => (key i.1 (by simpa using i.2)).choose, by simp, fun i hil => ?_, by simp; omega⟩
    have hil' : i < len := by simpa using hil
    obtain ⟨b, off, h1, h2⟩ := (key i hil').choose_spec
    exact ⟨a, b, off, rfl, h1, by simpa using h2⟩
end Go.Proofs.YtlcpljpeljoboaaDoor

/- The table of frame.Sum as the rows list it: what it holds when a call begins; a world that holds it. -/
namespace Go.Proofs.YtlcpljpeljoboaaDoor
open Go.ChangeShapes Go.WideShapes Go.ChangeAt Go.RowKit

theorem gTab : Tryd.prog.globalNamed "bywash/frame.half" = some 0 := by kernel_rfl
theorem gTabType : (Tryd.prog.globals[0]?).map (·.type) = some 114 := by kernel_rfl
theorem cellsTab : Tryd.prog.cellsOf 114 = 16 := by kernel_rfl
theorem cellsU32 : Tryd.prog.cellsOf 96 = 1 := by kernel_rfl
theorem half_at {W : World} (h : laidMetH Tryd.prog [("bywash/frame.half", Rows.laid_bywash_frame_half)] W) : HalfAt W := by
  have hT : Lib.TabIs Tryd.prog W "bywash/frame.half" .u32 (half.map fun (n : Nat) => (n : Int)) :=
    Lib.tabIs_of_head (rest := []) gTab gTabType Tryd.underlying114 Tryd.underlying96 cellsU32 cellsTab h
  intro j hj
  have := hT.cell gTab j (by simpa [half] using hj)
  rw [this]
  congr 2
  have hjl : j < half.length := by simpa [half] using hj
  simp [List.getD, hjl]
/-- a world for the witness: the settled one, the table holding what its initialiser lays -/
noncomputable def laidWorld (os : Os) : World :=
  { World.holding Tryd.prog os ⟨#[], #[], []⟩ with heap := (World.holding Tryd.prog os ⟨#[], #[], []⟩).heap.modify 0 fun
      | .cells _ t frozen => .cells #[.int .u32 0, .int .u32 498536548, .int .u32 997073096, .int .u32 651767980, .int .u32 1994146192, .int .u32 1802195444, .int .u32 1303535960, .int .u32 1342533948, .int .u32 3988292384, .int .u32 4027552580, .int .u32 3604390888, .int .u32 3412177804, .int .u32 2607071920, .int .u32 2262029012, .int .u32 2685067896, .int .u32 3183342108] t frozen
      | o => o }
end Go.Proofs.YtlcpljpeljoboaaDoor
