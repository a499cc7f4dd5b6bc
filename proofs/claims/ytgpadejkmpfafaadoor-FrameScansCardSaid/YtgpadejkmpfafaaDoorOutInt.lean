/- frame.Out.Int: a number's bytes are put behind what is there. For every number. -/
import Derived.Test.YtgpadejkmpfafaaDoorLow
namespace Go.Proofs.YtgpadejkmpfafaaDoor
open Go.RowKit

/-- a number's bytes -/
def encI (n : Int) : List UInt8 :=
  let m := if n < 0 then (-1 - n).toNat else n.toNat
  UInt8.ofNat ((le 8 m).length + if n < 0 then 16 else 0) :: le 8 m

/-- what an Out holds: its block is of one cell, which owns these bytes -/
def OutAt (w : World) (g : Nat) (A : Option Addr) (l : List UInt8) : Prop :=
  ∃ c, w.heap[g]? = some (.cells #[.slice A l.length c] 31 (0, 0)) ∧ OwnB w A c l ∧ g ∉ fpo A

/-- the outcome of a call that puts bytes behind an Out's -/
def OutPost (g : Nat) (A : Option Addr) (l : List UInt8) (w w' : World) : Prop :=
  ∃ A', OutAt w' g A' l ∧ Touch (g :: fpo A) w w' ∧ ∀ b ∈ fpo A', b ∈ fpo A ∨ w.heap.size ≤ b

theorem outStep {w w2 : World} {g : Nat} {A A2 : Option Addr} {c c2 : Nat} {l l2 : List UInt8} (hg : w.heap[g]? = some (.cells #[.slice A l.length c] 31 (0, 0))) (hgA : g ∉ fpo A) (n : Nat) (hn : l2.length = n)
    (h2 : OwnB w2 A2 c2 l2) (ht : Touch (fpo A) w w2) (hf : ∀ b ∈ fpo A2, b ∈ fpo A ∨ b = w.heap.size) :
    (w2.setCell ⟨g, 0, none⟩ (.slice A2 n c2)).heap[g]? = some (.cells #[.slice A2 l2.length c2] 31 (0, 0)) ∧ OwnB (w2.setCell ⟨g, 0, none⟩ (.slice A2 n c2)) A2 c2 l2 ∧ g ∉ fpo A2 ∧ Touch (g :: fpo A) w (w2.setCell ⟨g, 0, none⟩ (.slice A2 n c2)) ∧
      (w2.cell? ⟨g, 0, none⟩ = some (.slice A l.length c) ∧ w2.frozen? ⟨g, 0, none⟩ = false) := by
  have hgl := lt_of_block hg
  have h2g := ht.blk hg hgA
  have hgA2 : g ∉ fpo A2 := fun hm => by
    rcases hf g hm with h | h
    · exact hgA h
    · omega
  subst hn
  refine ⟨one_setCell h2g, h2.touch ((Touch.refl [g] w2).setCell (by simp) _) (fun b hb hm => hgA2 ((by simpa using hm : b = g) ▸ hb)), hgA2, ?_, cell_of_one h2g, free_of_one h2g⟩
  exact (ht.mono (fun b hb => .inl (by simp [hb]))).setCell (.inl (by simp)) _

theorem encI_neg {n : Int} {M : Nat} (hn : n < 0) (h : (-1 - n : Int) = M) : encI n = UInt8.ofNat ((le 8 M).length + 16) :: le 8 M := by
  have : (-1 - n).toNat = M := by omega
  simp [encI, hn, this]
theorem encI_pos {M : Nat} : encI (M : Int) = UInt8.ofNat ((le 8 M).length) :: le 8 M := by
  have : ¬ ((M : Int) < 0) := by omega
  simp [encI, this]

set_option maxHeartbeats 400000 in
theorem outInt_any (g : Nat) (A : Option Addr) (l : List UInt8) (n : Int) (h1 : -9223372036854775808 ≤ n) (h2 : n ≤ 9223372036854775807) (hl : l.length ≤ 140737488000000) (w : World) (ho : OutAt w g A l) :
    Calls Tryd.prog 12 #[.pointer (some ⟨g, 0, none⟩), .int .i64 n] w fun e w' => e = .returned (.pointer (some ⟨g, 0, none⟩)) ∧ OutPost g A (l ++ encI n) w w' := by
  go_enter Tryd.func12, Tryd.ntmps12
  obtain ⟨c, hg, hown, hgA⟩ := ho
  have hcell := cell_of_one hg
  have hfree := free_of_one hg
  have hgl := lt_of_block hg
  have hAl := hown.lt
  by_cases hn : n < 0
  · obtain ⟨M, hM⟩ : ∃ M : Nat, (-1 - n : Int) = (M : Int) := ⟨(-1 - n).toNat, by omega⟩
    have hMl : M < 18446744073709551616 := by omega
    have hl8 := le_length 8 M
    have henc := Lib.hid (encI_neg hn hM)
    go_wp2_with fail
    refine (low_zero M hMl w).mono ?_
    rintro e w1 ⟨A1, c1, rfl, hown1, ht1, hf1⟩
    clear hM
    have hg1 := ht1.blk hg (by simp)
    have hcell1 := cell_of_one hg1
    have hs1 := ht1.size
    have hta := (Touch.refl [] w1).alloc (.cells #[.int .u8 (((le 8 M).length : Int) + 16)] 5)
    have hga := hta.blk hg1 (by simp)
    have hownA := (hown.touch0 ht1).touch0 hta
    have hb1 := RdB.one' w1 (UInt8.ofNat ((le 8 M).length + 16)) (z := ((le 8 M).length : Int) + 16) (by simp; omega)
    have hA1n : ∀ b ∈ fpo A1, b ∉ g :: fpo A := fun b hb hm => by
      have := hf1 b hb
      rcases List.mem_cons.1 hm with h | h
      · omega
      · have := hAl b h; omega
    go_wp2_with (first
      | (at_builtin; refine wpList_appB rfl (.tmp 18) (.tmp 24) rfl A l.length c l rfl rfl hownA (some ⟨w1.heap.size, 0, none⟩) 1 1 [UInt8.ofNat ((le 8 M).length + 16)] rfl rfl hb1 (by omega) ?_; intro A2 c2 w2 hown2 ht2 hf2; have S2 := outStep hga hgA (l.length + 1) (by simp) hown2 ht2 hf2; obtain ⟨hg2, hown2', hgA2, ht2', hcell2, hfree2⟩ := S2; have hrd2 := hown1.rd.touch ((hta.mono (fp2 := g :: fpo A) (by simp)).trans ht2' (fun b hb => .inl hb)) hA1n)
      | (at_builtin; refine wpList_appB rfl (.tmp 32) (.tmp 33) rfl A2 (l.length + 1) c2 (l ++ [UInt8.ofNat ((le 8 M).length + 16)]) (by simp) rfl hown2' A1 (le 8 M).length c1 (le 8 M) rfl rfl hrd2 (by omega) ?_; intro A3 c3 w3 hown3 ht3 hf3; have S3 := outStep hg2 hgA2 (l.length + 1 + (le 8 M).length) (by simp; omega) hown3 ht3 hf3; obtain ⟨hg3, hown3', hgA3, ht3', hcell3, hfree3⟩ := S3))
    go_ret
    refine ⟨rfl, A3, ⟨c3, ?_, ?_, hgA3⟩, ?_, ?_⟩
    · rw [henc.out]; simpa using hg3
    · rw [henc.out]; simpa using hown3'
    · exact (((ht1.mono (fp2 := g :: fpo A) (by simp)).trans0 hta).trans ht2' (fun b hb => .inl hb)).trans ht3' (fun b hb => by
        rcases List.mem_cons.1 hb with h | h
        · exact .inl (by simp [h])
        · rcases hf2 b h with h' | h'
          · exact .inl (by simp [h'])
          · exact .inr (by have := hta.size; omega))
    · intro b hb
      have := ht2'.size
      have := hta.size
      rcases hf3 b hb with h | h
      · rcases hf2 b h with h' | h'
        · exact .inl h'
        · exact .inr (by omega)
      · exact .inr (by omega)
  · obtain ⟨M, rfl⟩ : ∃ M : Nat, n = (M : Int) := ⟨n.toNat, by omega⟩
    have hMl : M < 18446744073709551616 := by omega
    have hl8 := le_length 8 M
    have henc := Lib.hid (encI_pos (M := M))
    go_wp2_with fail
    refine (low_zero M hMl w).mono ?_
    rintro e w1 ⟨A1, c1, rfl, hown1, ht1, hf1⟩
    have hg1 := ht1.blk hg (by simp)
    have hcell1 := cell_of_one hg1
    have hs1 := ht1.size
    have hta := (Touch.refl [] w1).alloc (.cells #[.int .u8 ((le 8 M).length : Int)] 5)
    have hga := hta.blk hg1 (by simp)
    have hownA := (hown.touch0 ht1).touch0 hta
    have hb1 := RdB.one' w1 (UInt8.ofNat ((le 8 M).length)) (z := ((le 8 M).length : Int)) (by simp; omega)
    have hA1n : ∀ b ∈ fpo A1, b ∉ g :: fpo A := fun b hb hm => by
      have := hf1 b hb
      rcases List.mem_cons.1 hm with h | h
      · omega
      · have := hAl b h; omega
    go_wp2_with (first
      | (at_builtin; refine wpList_appB rfl (.tmp 18) (.tmp 24) rfl A l.length c l rfl rfl hownA (some ⟨w1.heap.size, 0, none⟩) 1 1 [UInt8.ofNat ((le 8 M).length)] rfl rfl hb1 (by omega) ?_; intro A2 c2 w2 hown2 ht2 hf2; have S2 := outStep hga hgA (l.length + 1) (by simp) hown2 ht2 hf2; obtain ⟨hg2, hown2', hgA2, ht2', hcell2, hfree2⟩ := S2; have hrd2 := hown1.rd.touch ((hta.mono (fp2 := g :: fpo A) (by simp)).trans ht2' (fun b hb => .inl hb)) hA1n)
      | (at_builtin; refine wpList_appB rfl (.tmp 32) (.tmp 33) rfl A2 (l.length + 1) c2 (l ++ [UInt8.ofNat ((le 8 M).length)]) (by simp) rfl hown2' A1 (le 8 M).length c1 (le 8 M) rfl rfl hrd2 (by omega) ?_; intro A3 c3 w3 hown3 ht3 hf3; have S3 := outStep hg2 hgA2 (l.length + 1 + (le 8 M).length) (by simp; omega) hown3 ht3 hf3; obtain ⟨hg3, hown3', hgA3, ht3', hcell3, hfree3⟩ := S3))
    go_ret
    refine ⟨rfl, A3, ⟨c3, ?_, ?_, hgA3⟩, ?_, ?_⟩
    · rw [henc.out]; simpa using hg3
    · rw [henc.out]; simpa using hown3'
    · exact (((ht1.mono (fp2 := g :: fpo A) (by simp)).trans0 hta).trans ht2' (fun b hb => .inl hb)).trans ht3' (fun b hb => by
        rcases List.mem_cons.1 hb with h | h
        · exact .inl (by simp [h])
        · rcases hf2 b h with h' | h'
          · exact .inl (by simp [h'])
          · exact .inr (by have := hta.size; omega))
    · intro b hb
      have := ht2'.size
      have := hta.size
      rcases hf3 b hb with h | h
      · rcases hf2 b h with h' | h'
        · exact .inl h'
        · exact .inr (by omega)
      · exact .inr (by omega)
end Go.Proofs.YtgpadejkmpfafaaDoor
