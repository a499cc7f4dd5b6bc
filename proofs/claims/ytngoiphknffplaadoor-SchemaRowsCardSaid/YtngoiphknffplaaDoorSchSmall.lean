/- small, smallRow of slices that came in, however long; what they say. -/
import Derived.Test.YtngoiphknffplaaDoorSchRows
namespace Go.Proofs.YtngoiphknffplaaDoor
open Go.RowKit

/-- a column as it came in -/
structure CD.Okw (c : CD) : Prop where
  n : c.name.size ≤ 9223372036854775807
  t : -9223372036854775808 ≤ c.typ ∧ c.typ ≤ 9223372036854775807

theorem smallS_true {cs : List CD} (h : smallS cs = true) : (∀ c ∈ cs, c.name.size ≤ 100) ∧ cs.length ≤ 40 := by
  unfold smallS at h
  rw [Bool.and_eq_true, List.all_eq_true] at h
  exact ⟨fun c hc => by simpa [smallC] using h.1 c hc, of_decide_eq_true h.2⟩
theorem smallR_true {vs : List VD} (h : smallR vs = true) : (∀ v ∈ vs, v.text.size ≤ 100) ∧ vs.length ≤ 40 := by
  unfold smallR at h
  rw [Bool.and_eq_true, List.all_eq_true] at h
  exact ⟨fun c hc => by simpa [smallU] using h.1 c hc, of_decide_eq_true h.2⟩
theorem smallS_ok {cs : List CD} (h : smallS cs = true) (hok : ∀ c ∈ cs, c.Okw) : ∀ c ∈ cs, c.Ok := fun c hc =>
  ⟨by have := (smallS_true h).1 c hc; omega, (hok c hc).t⟩
theorem smallR_ok {vs : List VD} (h : smallR vs = true) (hok : ∀ v ∈ vs, v.Ok 9223372036854775807) : ∀ v ∈ vs, v.Ok 140737000000000 := fun v hv =>
  ⟨(hok v hv).k, (hok v hv).n, by have := (smallR_true h).1 v hv; omega⟩

set_option maxHeartbeats 800000 in
theorem smallW_any (A : Option Addr) (cap n : Nat) (cs : List CD) (hn : cs.length = n) (hok : ∀ c ∈ cs, c.Okw) (w : World) (h : ColsAt w A cs) (hl : n ≤ 9223372036854775807) :
    Calls Tryd.prog 15 #[.slice A n cap] w fun e w' => e = .returned (.bool (smallS cs)) ∧ Touch [] w w' := by
  subst hn
  go_enter Tryd.func15, Tryd.ntmps15
  go_wp2
  go_loopw [7] (fun i wr => ∃ k : Nat, k ≤ cs.length ∧ i = .int .i64 k ∧ Hid ((cs.take k).all smallC = true) ∧ Touch [] w wr) (fun i _ => cs.length - (intOf i).toNat)
  case atStart => exact ⟨0, by omega, rfl, Lib.hid rfl, Touch.refl _ _⟩
  case round =>
    obtain ⟨k, hk, rfl, Hall, ht⟩ := hrel
    by_cases hlt : k < cs.length
    · obtain ⟨ad, b, off, rfl, hadd, c0, c1⟩ := (h.touch0 ht).at_ k hlt
      have hcok := hok _ (List.getElem_mem hlt)
      have hno := all_no (p := smallC) hlt
      have hyes := all_snoc (p := smallC) hlt Hall.out
      obtain ⟨c, hce⟩ : ∃ c, c = cs[k] := ⟨_, rfl⟩
      rw [← hce] at c0 c1 hcok hno hyes
      obtain ⟨hcn, hct1, hct2⟩ := hcok
      have Hno := Lib.hid hno; have Hyes := Lib.hid hyes
      clear hce hno hyes Hall
      by_cases h1 : 100 < c.name.size
      · have Hs := Lib.hid (Hno.out (by simp [smallC]; omega))
        go_wp2
        go_ret
        exact ⟨ret_bool (by unfold smallS; rw [Hs.out]; rfl), ht.alloc _⟩
      · have Hs := Lib.hid (Hyes.out (by simp [smallC]; omega))
        go_wp2
        go_roundw
        case rel => exact ⟨k + 1, by omega, by go_num, Hs, ht.alloc _⟩
        case measure => simp [intOf]; omega
    · obtain rfl : k = cs.length := by omega
      have hall := Hall.out
      rw [List.take_length] at hall
      have Hs := Lib.hid (show smallS cs = decide ((cs.length : Int) ≤ 40) by unfold smallS; rw [hall, Bool.true_and]; exact decide_eq_decide.2 (by omega))
      clear hall Hall
      go_wp2
      go_ret
      exact ⟨ret_bool Hs.out.symm, ht⟩

set_option maxHeartbeats 800000 in
theorem smallRowW_any (A : Option Addr) (cap n : Nat) (vs : List VD) (hn : vs.length = n) (hok : ∀ v ∈ vs, v.Ok 9223372036854775807) (w : World) (h : ValsAt w A vs) (hl : n ≤ 9223372036854775807) :
    Calls Tryd.prog 24 #[.slice A n cap] w fun e w' => e = .returned (.bool (smallR vs)) ∧ Touch [] w w' := by
  subst hn
  go_enter Tryd.func24, Tryd.ntmps24
  go_wp2
  go_loopw [7] (fun i wr => ∃ k : Nat, k ≤ vs.length ∧ i = .int .i64 k ∧ Hid ((vs.take k).all smallU = true) ∧ Touch [] w wr) (fun i _ => vs.length - (intOf i).toNat)
  case atStart => exact ⟨0, by omega, rfl, Lib.hid rfl, Touch.refl _ _⟩
  case round =>
    obtain ⟨k, hk, rfl, Hall, ht⟩ := hrel
    by_cases hlt : k < vs.length
    · obtain ⟨ad, b, off, rfl, hadd, c0, c1, c2⟩ := (h.touch0 ht).at_ k hlt
      have hcok := hok _ (List.getElem_mem hlt)
      have hno := all_no (p := smallU) hlt
      have hyes := all_snoc (p := smallU) hlt Hall.out
      obtain ⟨c, hce⟩ : ∃ c, c = vs[k] := ⟨_, rfl⟩
      rw [← hce] at c0 c1 c2 hcok hno hyes
      obtain ⟨_, _, hct⟩ := hcok
      have Hno := Lib.hid hno; have Hyes := Lib.hid hyes
      clear hce hno hyes Hall
      by_cases h1 : 100 < c.text.size
      · have Hs := Lib.hid (Hno.out (by simp [smallU]; omega))
        go_wp2
        go_ret
        exact ⟨ret_bool (by unfold smallR; rw [Hs.out]; rfl), ht.alloc _⟩
      · have Hs := Lib.hid (Hyes.out (by simp [smallU]; omega))
        go_wp2
        go_roundw
        case rel => exact ⟨k + 1, by omega, by go_num, Hs, ht.alloc _⟩
        case measure => simp [intOf]; omega
    · obtain rfl : k = vs.length := by omega
      have hall := Hall.out
      rw [List.take_length] at hall
      have Hs := Lib.hid (show smallR vs = decide ((vs.length : Int) ≤ 40) by unfold smallR; rw [hall, Bool.true_and]; exact decide_eq_decide.2 (by omega))
      clear hall Hall
      go_wp2
      go_ret
      exact ⟨ret_bool Hs.out.symm, ht⟩

end Go.Proofs.YtngoiphknffplaaDoor
