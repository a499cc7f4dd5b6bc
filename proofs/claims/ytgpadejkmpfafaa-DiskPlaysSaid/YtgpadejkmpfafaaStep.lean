/- bywashlaw06.step: one call of both disks. -/
import Derived.Test.YtgpadejkmpfafaaSame
import Derived.Test.YtgpadejkmpfafaaOps
import Derived.Test.YtgpadejkmpfafaaDiskPowerLaw
import Derived.Deep.RegionWith
import Derived.RegionTactic
import Derived.Outline
namespace Go.Proofs.Ytgpadejkmpfafaa
open Go.RowKit

/-- both disks, apart from each other -/
structure PairAt (w : World) (g : Nat) (fp : List Nat) (V : Fl) (r : DR) (h : Nat) (fq : List Nat) (RV : RFl) (rr : RR) : Prop where
  dk : DkAt w g fp V r
  rd : RdAt w h fq RV rr
  ap : ∀ b ∈ fp, b ∉ fq
theorem PairAt.touch {w w1 : World} {g : Nat} {fp : List Nat} {V : Fl} {r : DR} {h : Nat} {fq : List Nat} {RV : RFl} {rr : RR} {fx : List Nat} (P : PairAt w g fp V r h fq RV rr) (T : Touch fx w w1) (h1 : ∀ b ∈ fp, b ∉ fx) (h2 : ∀ b ∈ fq, b ∉ fx) : PairAt w1 g fp V r h fq RV rr :=
  ⟨P.dk.step T h1, P.rd.step T h2, P.ap⟩
theorem PairAt.keep {w w1 : World} {g : Nat} {fp : List Nat} {V : Fl} {r : DR} {h : Nat} {fq : List Nat} {RV : RFl} {rr : RR} (P : PairAt w g fp V r h fq RV rr) (T : Touch [] w w1) : PairAt w1 g fp V r h fq RV rr := P.touch T (by simp) (by simp)
theorem PairAt.real {w w1 : World} {g : Nat} {fp : List Nat} {V V' : Fl} {r r' : DR} {h : Nat} {fq : List Nat} {RV : RFl} {rr : RR} (P : PairAt w g fp V r h fq RV rr) (s : DkStep g fp V' r' w w1) :
    ∃ fp', PairAt w1 g fp' V' r' h fq RV rr ∧ Touch fp w w1 ∧ ∀ b ∈ fp', b ∈ fp ∨ w.heap.size ≤ b := by
  obtain ⟨fp', hd, T, hf⟩ := s
  refine ⟨fp', ⟨hd, P.rd.step T (fun b hb hm => P.ap b hm hb), fun b hb hm => ?_⟩, T, hf⟩
  rcases hf b hb with h1 | h1
  · exact P.ap b h1 hm
  · have := P.rd.lt b hm; omega
theorem PairAt.refr {w w1 : World} {g : Nat} {fp : List Nat} {V : Fl} {r : DR} {h : Nat} {fq : List Nat} {RV RV' : RFl} {rr rr' : RR} (P : PairAt w g fp V r h fq RV rr) (s : RdStep h fq RV' rr' w w1) :
    ∃ fq', PairAt w1 g fp V r h fq' RV' rr' ∧ Touch fq w w1 ∧ ∀ b ∈ fq', b ∈ fq ∨ w.heap.size ≤ b := by
  obtain ⟨fq', hd, T, hf⟩ := s
  refine ⟨fq', ⟨P.dk.step T P.ap, hd, fun b hb hm => ?_⟩, T, hf⟩
  rcases hf b hm with h1 | h1
  · exact P.ap b hb h1
  · have := P.dk.lt b hb; omega

/-- what a call of both leaves -/
def PairStep (g : Nat) (fp : List Nat) (h : Nat) (fq : List Nat) (V : Fl) (r : DR) (w w' : World) : Prop :=
  ∃ fp' fq' rr', PairAt w' g fp' V r h fq' (toR V) rr' ∧ SameR r rr' ∧ Touch (fp ++ fq) w w' ∧ (∀ b ∈ fp', b ∈ fp ++ fq ∨ w.heap.size ≤ b) ∧ (∀ b ∈ fq', b ∈ fp ++ fq ∨ w.heap.size ≤ b)
theorem pair_12 {w0 w w1 w2 : World} {g : Nat} {fp : List Nat} {V V' : Fl} {r r' : DR} {h : Nat} {fq : List Nat} {RV : RFl} {rr rr' : RR} (T0 : Touch [] w0 w) (P : PairAt w g fp V r h fq RV rr) (s1 : DkStep g fp V' r' w w1) (s2 : RdStep h fq (toR V') rr' w1 w2) (hs : SameR r' rr') : PairStep g fp h fq V' r' w0 w2 := by
  obtain ⟨fp', P1, T1, f1⟩ := P.real s1
  obtain ⟨fq', P2, T2, f2⟩ := P1.refr s2
  have z0 := T0.size
  have z1 := T1.size
  refine ⟨fp', fq', rr', P2, hs, ((T0.mono (by simp)).trans T1 (fun b hb => .inl (by simp [hb]))).trans T2 (fun b hb => .inl (by simp [hb])), fun b hb => ?_, fun b hb => ?_⟩
  · rcases f1 b hb with h1 | h1
    · exact .inl (by simp [h1])
    · exact .inr (by omega)
  · rcases f2 b hb with h1 | h1
    · exact .inl (by simp [h1])
    · exact .inr (by omega)
theorem pair_21 {w0 w w1 w2 : World} {g : Nat} {fp : List Nat} {V V' : Fl} {r r' : DR} {h : Nat} {fq : List Nat} {RV : RFl} {rr rr' : RR} (T0 : Touch [] w0 w) (P : PairAt w g fp V r h fq RV rr) (s1 : RdStep h fq (toR V') rr' w w1) (s2 : DkStep g fp V' r' w1 w2) (hs : SameR r' rr') : PairStep g fp h fq V' r' w0 w2 := by
  obtain ⟨fq', P1, T1, f1⟩ := P.refr s1
  obtain ⟨fp', P2, T2, f2⟩ := P1.real s2
  have z0 := T0.size
  have z1 := T1.size
  refine ⟨fp', fq', rr', P2, hs, ((T0.mono (by simp)).trans T1 (fun b hb => .inl (by simp [hb]))).trans T2 (fun b hb => .inl (by simp [hb])), fun b hb => ?_, fun b hb => ?_⟩
  · rcases f2 b hb with h1 | h1
    · exact .inl (by simp [h1])
    · exact .inr (by omega)
  · rcases f1 b hb with h1 | h1
    · exact .inl (by simp [h1])
    · exact .inr (by omega)
theorem PairStep.more {g : Nat} {fp : List Nat} {h : Nat} {fq : List Nat} {V : Fl} {r : DR} {w w1 w2 : World} {fx : List Nat} (s : PairStep g fp h fq V r w w1) (T : Touch fx w1 w2) (hx : ∀ b ∈ fx, w.heap.size ≤ b) (hn : ∀ fp' fq' rr', PairAt w1 g fp' V r h fq' (toR V) rr' → (∀ b ∈ fp', b ∈ fp ++ fq ∨ w.heap.size ≤ b) → (∀ b ∈ fq', b ∈ fp ++ fq ∨ w.heap.size ≤ b) → ∀ b ∈ fx, b ∉ fp' ∧ b ∉ fq') : PairStep g fp h fq V r w w2 := by
  obtain ⟨fp', fq', rr', P, hs, T1, f1, f2⟩ := s
  have hd := hn fp' fq' rr' P f1 f2
  exact ⟨fp', fq', rr', P.touch T (fun b hb hm => (hd b hm).1 hb) (fun b hb hm => (hd b hm).2 hb), hs, T1.trans T (fun b hb => .inr (hx b hb)), f1, f2⟩

def kd (o : OpD) : Value := .agg #[.int .i64 o.kind, .int .i64 o.file, .int .i64 o.n, .slice o.dA o.data.length o.dc, .slice o.kA o.keep.length o.kc]

/-- the outcome of step -/
def StepPost (g : Nat) (fp : List Nat) (h : Nat) (fq : List Nat) (r : DR) (w : World) (e : Ending) (w' : World) : Prop :=
  e = .returned (.bool true) ∧ ∃ V' r', PairStep g fp h fq V' r' w w' ∧ r'.done ≤ r.done + 1
theorem done_cmd (r : DR) : (cmdR r).done ≤ r.done + 1 := by unfold cmdR; split <;> simp; omega
theorem done_sync (V : Fl) (r : DR) (n : Int) : (pSync V r n).2.2.done ≤ r.done + 1 := by
  unfold pSync; split
  · simp; omega
  · exact done_cmd r
theorem done_cut (V : Fl) (r : DR) (n m : Int) : (pCut V r n m).2.2.done ≤ r.done + 1 := by
  unfold pCut; split
  · simp; omega
  · split
    · simp; omega
    · exact done_cmd r
theorem done_app (V : Fl) (r : DR) (n : Int) (b : List UInt8) : (pApp V r n b).2.2.done ≤ r.done + 1 := by
  unfold pApp; split
  · simp; omega
  · split
    · simp; omega
    · exact done_cmd r

end Go.Proofs.Ytgpadejkmpfafaa
