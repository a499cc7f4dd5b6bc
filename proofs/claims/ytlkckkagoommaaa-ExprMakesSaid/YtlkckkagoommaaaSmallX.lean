/- bywashlaw04: small, smallSchema. For every list and schema. -/
import Derived.Test.YtlkckkagoommaaaBuildV
import Derived.Test.YtlkckkagoommaaaRows2
import Derived.Test.YtlkckkagoommaaaValF
namespace Go.Proofs.Ytlkckkagoommaaa
open Go.RowKit

def smallP (p : PL) : Bool := decide (p.nd.name.size ≤ 50) && (decide (p.nd.op.size ≤ 50) && decide (p.nd.v.text.size ≤ 100))
def smallL (l : List PL) : Bool := l.all smallP && (decide (0 < l.length) && decide (l.length ≤ 300))
def smallC4 (c : CD) : Bool := decide (c.name.size ≤ 50)
def smallS4 (cs : List CD) : Bool := cs.all smallC4 && decide (cs.length ≤ 20)
theorem smallL_true {l : List PL} (h : smallL l = true) : (∀ p ∈ l, p.nd.name.size ≤ 50 ∧ p.nd.op.size ≤ 50 ∧ p.nd.v.text.size ≤ 100) ∧ 0 < l.length ∧ l.length ≤ 300 := by
  unfold smallL at h
  rw [Bool.and_eq_true, Bool.and_eq_true, List.all_eq_true] at h
  exact ⟨fun p hp => by simpa [smallP] using h.1 p hp, of_decide_eq_true h.2.1, of_decide_eq_true h.2.2⟩
theorem smallS4_true {cs : List CD} (h : smallS4 cs = true) : (∀ c ∈ cs, c.name.size ≤ 50) ∧ cs.length ≤ 20 := by
  unfold smallS4 at h
  rw [Bool.and_eq_true, List.all_eq_true] at h
  exact ⟨fun c hc => by simpa [smallC4] using h.1 c hc, of_decide_eq_true h.2⟩
theorem PlsAt.at_ {w : World} {A : Option Addr} {l : List PL} (h : PlsAt w A l) (i : Nat) (hi : i < l.length) :
    ∃ ad b off, A = some ad ∧ ad.add (i * 7) = ⟨b, off, none⟩ ∧ ∀ j u, (plE l[i])[j]? = some u → w.cell? ⟨b, off + j, none⟩ = some u := by
  obtain ⟨ad, b, off, h1, h2, _, h3⟩ := RdK.at_ h 7 plE_length (by omega) i hi
  exact ⟨ad, b, off, h1, h2, h3⟩
theorem PlsAt.touch0 {w w' : World} {A : Option Addr} {l : List PL} (h : PlsAt w A l) (ht : Touch [] w w') : PlsAt w' A l := RdK.touch0 h ht

set_option maxRecDepth 20000 in
set_option maxHeartbeats 1600000 in
theorem small4_any (A : Option Addr) (cap n : Nat) (l : List PL) (hn : l.length = n) (w : World) (h : PlsAt w A l) (hl : n ≤ 9223372036854775807) :
    Calls Try.prog 9 #[.slice A n cap] w fun e w' => e = .returned (.bool (smallL l)) ∧ Touch [] w w' := by
  subst hn
  go_enter Try.func9, Try.ntmps9
  go_wp2
  go_loopw [7] (fun i wr => ∃ k : Nat, k ≤ l.length ∧ i = .int .i64 k ∧ Hid ((l.take k).all smallP = true) ∧ Touch [] w wr) (fun i _ => l.length - (intOf i).toNat)
  case atStart => exact ⟨0, by omega, rfl, Lib.hid rfl, Touch.refl _ _⟩
  case round =>
    obtain ⟨k, hk, rfl, Hall, ht⟩ := hrel
    by_cases hlt : k < l.length
    · obtain ⟨ad, b, off, rfl, hadd, hcell⟩ := (h.touch0 ht).at_ k hlt
      have hno := all_no (p := smallP) hlt
      have hyes := all_snoc (p := smallP) hlt Hall.out
      obtain ⟨p, hpe⟩ : ∃ p, p = l[k] := ⟨_, rfl⟩
      rw [← hpe] at hcell hno hyes
      obtain ⟨⟨kd, nm, ⟨vk, vn, vt⟩, op⟩, cnt⟩ := p
      have c0 := hcell 0 _ rfl; have c1 := hcell 1 _ rfl; have c2 := hcell 2 _ rfl; have c3 := hcell 3 _ rfl; have c4 := hcell 4 _ rfl; have c5 := hcell 5 _ rfl; have c6 := hcell 6 _ rfl
      rw [Nat.add_zero] at c0
      simp only at c0 c1 c2 c3 c4 c5 c6
      have Hno := Lib.hid hno; have Hyes := Lib.hid hyes
      clear hpe hno hyes Hall hcell
      by_cases h1 : 50 < nm.size
      · have Hs := Lib.hid (Hno.out (by simp [smallP]; omega))
        have q1 : (50 : Int) < (nm.size : Int) := by omega
        clear h1
        go_wp2
        go_ret
        exact ⟨ret_bool (by unfold smallL; rw [Hs.out]; rfl), ht.alloc _⟩
      by_cases h2 : 50 < op.size
      · have Hs := Lib.hid (Hno.out (by simp [smallP]; omega))
        have q1 : ¬ (50 : Int) < (nm.size : Int) := by omega
        have q2 : (50 : Int) < (op.size : Int) := by omega
        clear h1 h2
        go_wp2
        go_ret
        exact ⟨ret_bool (by unfold smallL; rw [Hs.out]; rfl), ht.alloc _⟩
      by_cases h3 : 100 < vt.size
      · have Hs := Lib.hid (Hno.out (by simp [smallP]; omega))
        have q1 : ¬ (50 : Int) < (nm.size : Int) := by omega
        have q2 : ¬ (50 : Int) < (op.size : Int) := by omega
        have q3 : (100 : Int) < (vt.size : Int) := by omega
        clear h1 h2 h3
        go_wp2
        go_ret
        exact ⟨ret_bool (by unfold smallL; rw [Hs.out]; rfl), ht.alloc _⟩
      · have Hs := Lib.hid (Hyes.out (by simp [smallP]; omega))
        have q1 : ¬ (50 : Int) < (nm.size : Int) := by omega
        have q2 : ¬ (50 : Int) < (op.size : Int) := by omega
        have q3 : ¬ (100 : Int) < (vt.size : Int) := by omega
        clear h1 h2 h3
        go_wp2
        go_roundw
        case rel => exact ⟨k + 1, by omega, by go_num, Hs, ht.alloc _⟩
        case measure => simp [intOf]; omega
    · obtain rfl : k = l.length := by omega
      have hall := Hall.out
      rw [List.take_length] at hall
      have Hs := Lib.hid (show smallL l = (decide (0 < l.length) && decide (l.length ≤ 300)) by unfold smallL; rw [hall, Bool.true_and])
      clear hall Hall
      by_cases h0 : 0 < l.length
      · by_cases h3 : l.length ≤ 300
        · have q0 : (0 : Int) < (l.length : Int) := by omega
          have q3 : (l.length : Int) ≤ 300 := by omega
          have Hs2 := Lib.hid (show smallL l = true by rw [Hs.out, decide_eq_true h0, decide_eq_true h3]; rfl)
          clear h0 h3
          go_wp2
          go_ret
          exact ⟨ret_bool Hs2.out.symm, ht⟩
        · have q0 : (0 : Int) < (l.length : Int) := by omega
          have q3 : ¬ (l.length : Int) ≤ 300 := by omega
          have Hs2 := Lib.hid (show smallL l = false by rw [Hs.out, decide_eq_true h0, decide_eq_false h3]; rfl)
          clear h0 h3
          go_wp2
          go_ret
          exact ⟨ret_bool Hs2.out.symm, ht⟩
      · have q0 : ¬ (0 : Int) < (l.length : Int) := by omega
        have Hs2 := Lib.hid (show smallL l = false by rw [Hs.out, decide_eq_false h0]; rfl)
        clear h0
        go_wp2
        go_ret
        exact ⟨ret_bool Hs2.out.symm, ht⟩

set_option maxHeartbeats 800000 in
theorem smallS4_any (A : Option Addr) (cap n : Nat) (cs : List CD) (hn : cs.length = n) (w : World) (h : ColsAt w A cs) (hl : n ≤ 9223372036854775807) :
    Calls Try.prog 10 #[.slice A n cap] w fun e w' => e = .returned (.bool (smallS4 cs)) ∧ Touch [] w w' := by
  subst hn
  go_enter Try.func10, Try.ntmps10
  go_wp2
  go_loopw [7] (fun i wr => ∃ k : Nat, k ≤ cs.length ∧ i = .int .i64 k ∧ Hid ((cs.take k).all smallC4 = true) ∧ Touch [] w wr) (fun i _ => cs.length - (intOf i).toNat)
  case atStart => exact ⟨0, by omega, rfl, Lib.hid rfl, Touch.refl _ _⟩
  case round =>
    obtain ⟨k, hk, rfl, Hall, ht⟩ := hrel
    by_cases hlt : k < cs.length
    · obtain ⟨ad, b, off, rfl, hadd, c0, c1⟩ := (h.touch0 ht).at_ k hlt
      have hno := all_no (p := smallC4) hlt
      have hyes := all_snoc (p := smallC4) hlt Hall.out
      obtain ⟨c, hce⟩ : ∃ c, c = cs[k] := ⟨_, rfl⟩
      rw [← hce] at c0 c1 hno hyes
      have Hno := Lib.hid hno; have Hyes := Lib.hid hyes
      clear hce hno hyes Hall
      by_cases h1 : 50 < c.name.size
      · have Hs := Lib.hid (Hno.out (by simp [smallC4]; omega))
        have q1 : (50 : Int) < (c.name.size : Int) := by omega
        clear h1
        go_wp2
        go_ret
        exact ⟨ret_bool (by unfold smallS4; rw [Hs.out]; rfl), ht.alloc _⟩
      · have Hs := Lib.hid (Hyes.out (by simp [smallC4]; omega))
        have q1 : ¬ (50 : Int) < (c.name.size : Int) := by omega
        clear h1
        go_wp2
        go_roundw
        case rel => exact ⟨k + 1, by omega, by go_num, Hs, ht.alloc _⟩
        case measure => simp [intOf]; omega
    · obtain rfl : k = cs.length := by omega
      have hall := Hall.out
      rw [List.take_length] at hall
      have Hs := Lib.hid (show smallS4 cs = decide ((cs.length : Int) ≤ 20) by unfold smallS4; rw [hall, Bool.true_and]; exact decide_eq_decide.2 (by omega))
      clear hall Hall
      go_wp2
      go_ret
      exact ⟨ret_bool Hs.out.symm, ht⟩
end Go.Proofs.Ytlkckkagoommaaa
