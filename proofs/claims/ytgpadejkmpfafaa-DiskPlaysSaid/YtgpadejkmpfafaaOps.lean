/- A script of a disk's calls as the memory holds it; bywashlaw06.small. -/
import Derived.Test.YtgpadejkmpfafaaAwakeB
namespace Go.Proofs.Ytgpadejkmpfafaa
open Go.RowKit

/-- one call of a script -/
structure OpD where
  kind : Int
  file : Int
  n : Int
  dA : Option Addr
  dc : Nat
  data : List UInt8
  kA : Option Addr
  kc : Nat
  keep : List Int
def I64 (n : Int) : Prop := -9223372036854775808 ≤ n ∧ n ≤ 9223372036854775807
structure OpD.ok (w : World) (b off : Nat) (o : OpD) : Prop where
  c0 : w.cell? ⟨b, off, none⟩ = some (.int .i64 o.kind)
  c1 : w.cell? ⟨b, off + 1, none⟩ = some (.int .i64 o.file)
  c2 : w.cell? ⟨b, off + 2, none⟩ = some (.int .i64 o.n)
  c3 : w.cell? ⟨b, off + 3, none⟩ = some (.slice o.dA o.data.length o.dc)
  c4 : w.cell? ⟨b, off + 4, none⟩ = some (.slice o.kA o.keep.length o.kc)
  rd : RdB w o.dA o.data
  rk : RdI w o.kA o.keep
  bk : I64 o.kind
  bf : I64 o.file
  bn : I64 o.n
  bks : ∀ k ∈ o.keep, -9223372036854775808 ≤ k ∧ k ≤ 9223372036854775807
  dl : o.data.length ≤ 9223372036854775807
  kl : o.keep.length ≤ 9223372036854775807
def OpsAt (w : World) (A : Option Addr) (l : List OpD) : Prop := ∀ i, (h : i < l.length) → ∃ a b off, A = some a ∧ a.add (i * 5) = ⟨b, off, none⟩ ∧ l[i].ok w b off
theorem OpD.ok.touch0 {w w' : World} {b off : Nat} {o : OpD} (h : o.ok w b off) (T : Touch [] w w') : o.ok w' b off :=
  ⟨T.cell h.c0 (by simp), T.cell h.c1 (by simp), T.cell h.c2 (by simp), T.cell h.c3 (by simp), T.cell h.c4 (by simp), h.rd.touch0 T, Rd.touch0 h.rk T, h.bk, h.bf, h.bn, h.bks, h.dl, h.kl⟩
theorem OpsAt.touch0 {w w' : World} {A : Option Addr} {l : List OpD} (h : OpsAt w A l) (T : Touch [] w w') : OpsAt w' A l := fun i hi => by
  obtain ⟨a, b, off, e, e2, ho⟩ := h i hi
  exact ⟨a, b, off, e, e2, ho.touch0 T⟩

def smallO (o : OpD) : Bool := decide (o.data.length ≤ 300) && decide (o.keep.length ≤ 20)

set_option maxHeartbeats 1600000 in
theorem small_any (A : Option Addr) (c : Nat) (l : List OpD) (w : World) (h : OpsAt w A l) (hl : l.length ≤ 9223372036854775807) :
    Calls Try.prog 17 #[.slice A l.length c, .int .i64 60] w fun e w' => e = .returned (.bool (l.all smallO && decide (l.length ≤ 60))) ∧ Touch [] w w' := by
  go_enter Try.func17, Try.ntmps17
  go_wp2
  go_loopw [9] (fun i wr => ∃ k : Nat, k ≤ l.length ∧ i = .int .i64 k ∧ (l.take k).all smallO = true ∧ Touch [] w wr) (fun i _ => l.length - (intOf i).toNat)
  case atStart => exact ⟨0, by omega, rfl, by simp, Touch.refl _ _⟩
  case round =>
    obtain ⟨k, hk, rfl, hall, ht⟩ := hrel
    have Hall := Lib.hid hall; clear hall
    by_cases hlt : k < l.length
    · obtain ⟨ad, b, off, rfl, hadd, ho⟩ := h.touch0 ht k hlt
      obtain ⟨o, hoe⟩ : ∃ o, o = l[k] := ⟨_, rfl⟩
      rw [← hoe] at ho
      have Hoe := Lib.hid hoe; clear hoe
      have c0 := ho.c0
      have c1 := ho.c1
      have c2 := ho.c2
      have c3 := ho.c3
      have c4 := ho.c4
      have dl := ho.dl
      have kl := ho.kl
      clear ho h
      have hbad : ¬ smallO o = true → (l.all smallO && decide (l.length ≤ 60)) = false := fun hb => by
        have : ¬ l.all smallO = true := fun ha => hb (by rw [Hoe.out]; exact List.all_eq_true.1 ha _ (List.getElem_mem hlt))
        simp only [Bool.not_eq_true] at this
        rw [this]; rfl
      have Hbad := Lib.hid hbad; clear hbad
      by_cases h1 : 300 < o.data.length
      · go_wp2
        go_ret
        exact ⟨ret_bool (Hbad.out (by simp [smallO]; omega)).symm, ht.alloc _⟩
      by_cases h2 : 20 < o.keep.length
      · go_wp2
        go_ret
        exact ⟨ret_bool (Hbad.out (by simp [smallO]; omega)).symm, ht.alloc _⟩
      have hgood := Lib.hid (show smallO o = true by simp [smallO]; omega)
      go_wp2
      go_roundw
      case rel => exact ⟨k + 1, by omega, by go_num, by
        rw [List.take_succ_eq_append_getElem hlt, List.all_append, Hall.out, ← Hoe.out]
        simp [hgood.out], ht.alloc _⟩
      case measure => simp [intOf]; omega
    · obtain rfl : k = l.length := by omega
      have hall := Hall.out
      rw [List.take_length] at hall
      have Hall2 := Lib.hid hall; clear hall Hall
      go_wp2
      go_ret
      exact ⟨ret_bool (by rw [Hall2.out, Bool.true_and]; exact decide_eq_decide.2 (by omega)), ht⟩
end Go.Proofs.Ytgpadejkmpfafaa
