/- Slices of ints and of texts that came in, as the walks take them. -/
import Derived.Test.YtmehdlflhllhdaaBase
import Derived.SliceStrings
namespace Go.Proofs.Ytmehdlflhllhdaa
open Go.RowKit

def RdI (w : World) (A : Option Addr) (ks : List Int) : Prop := Rd w A (ks.map (Value.int .i64))
theorem RdI.at_ {w : World} {A : Option Addr} {l : List Int} (h : RdI w A l) (k : Nat) (hk : k < l.length) : ∃ ad, A = some ad ∧ w.cell? (ad.add k) = some (.int .i64 l[k]) := by
  obtain ⟨ad, e, hc⟩ := h (by simpa using Nat.lt_of_le_of_lt (Nat.zero_le _) hk)
  exact ⟨ad, e, hc k _ (by simp [hk])⟩
def RdS (w : World) (A : Option Addr) (ks : List ByteArray) : Prop := Rd w A (ks.map Value.string)
theorem RdS.at_ {w : World} {A : Option Addr} {l : List ByteArray} (h : RdS w A l) (k : Nat) (hk : k < l.length) : ∃ ad, A = some ad ∧ w.cell? (ad.add k) = some (.string l[k]) := by
  obtain ⟨ad, e, hc⟩ := h (by simpa using Nat.lt_of_le_of_lt (Nat.zero_le _) hk)
  exact ⟨ad, e, hc k _ (by simp [hk])⟩

theorem row_take {α : Type} {w : World} {x : Addr} {len : Nat} {zs : List α} {d : α} {f : α → Value} (hl : len ≤ zs.length)
    (hcell : ∀ i, i < zs.length → w.cell? (x.add i) = some (f (zs.getD i d))) : Rd w (some x) ((zs.take len).map f) := fun _ => by
  refine ⟨x, rfl, fun j u hu => ?_⟩
  have hj : j < len := by
    have := (List.getElem?_eq_some_iff.1 hu).1
    simp at this; omega
  rw [hcell j (by omega)]
  simp only [List.getElem?_map, List.getElem?_take, hj, if_true] at hu
  have hjz : j < zs.length := by omega
  rw [List.getElem?_eq_getElem hjz] at hu
  simp only [Option.map_some, Option.some.injEq] at hu
  subst hu
  simp [List.getD, List.getElem?_eq_getElem hjz]

theorem ints_of_row {w : World} {x : Addr} {len : Nat} {zs : List Int} (hl : len ≤ zs.length) (hm : len ≤ maxLen)
    (hcell : ∀ i, i < zs.length → w.cell? (x.add i) = some (.int .i64 (zs.getD i 0))) (hw : ∀ n ∈ zs, (Lit.int .i64 n).wf = true) :
    ∃ l : List Int, l.length = len ∧ RdI w (some x) l ∧ l.length ≤ maxLen ∧ ∀ k ∈ l, -9223372036854775808 ≤ k ∧ k ≤ 9223372036854775807 := by
  refine ⟨zs.take len, by simp; omega, row_take hl hcell, by simp; omega, fun k hk => ?_⟩
  have := hw k (List.mem_of_mem_take hk)
  simpa [Lit.wf, IntKind.min, IntKind.max, IntKind.signed, IntKind.bits] using this
theorem strs_of_row {w : World} {x : Addr} {len : Nat} {zs : List ByteArray} (hl : len ≤ zs.length) (hm : len ≤ maxLen)
    (hcell : ∀ i, i < zs.length → w.cell? (x.add i) = some (.string (zs.getD i ByteArray.empty))) (hw : ∀ n ∈ zs, n.size ≤ maxLen) :
    ∃ l : List ByteArray, l.length = len ∧ RdS w (some x) l ∧ l.length ≤ maxLen ∧ ∀ k ∈ l, k.size ≤ maxLen :=
  ⟨zs.take len, by simp; omega, row_take hl hcell, by simp; omega, fun k hk => hw k (List.mem_of_mem_take hk)⟩
end Go.Proofs.Ytmehdlflhllhdaa
