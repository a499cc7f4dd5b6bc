/- frame.In: NewIn, take, Done, Bad. -/
import Derived.Test.YtgpadejkmpfafaaDoorTexts
import Derived.Test.YtgpadejkmpfafaaDoorClone
namespace Go.Proofs.YtgpadejkmpfafaaDoor
open Go.RowKit

/-- what an In holds: the bytes that are left, and whether it is bad -/
structure InAt (w : World) (g : Nat) (A : Option Addr) (l : List UInt8) (bad : Bool) : Prop where
  blk : ∃ c, l.length ≤ c ∧ w.heap[g]? = some (.cells #[.slice A l.length c, .bool bad] 76 (0, 0))
  rd : RdB w A l
  ne : g ∉ fpo A
  sm : l.length ≤ 140737488000000

theorem InAt.touch {w w' : World} {g : Nat} {A : Option Addr} {l : List UInt8} {bad : Bool} {fp : List Nat} (h : InAt w g A l bad) (ht : Touch fp w w') (hg : g ∉ fp) (hA : ∀ b ∈ fpo A, b ∉ fp) : InAt w' g A l bad := by
  obtain ⟨⟨c, hc, hb⟩, hr, hn, hs⟩ := h
  exact ⟨⟨c, hc, ht.blk hb hg⟩, hr.touch ht hA, hn, hs⟩

/-- the outcome of a call that reads on -/
def InPost (g : Nat) (A : Option Addr) (l : List UInt8) (bad : Bool) (w w' : World) : Prop :=
  ∃ A', InAt w' g A' l bad ∧ Touch [g] w w' ∧ ∀ b ∈ fpo A', b ∈ fpo A

theorem InAt.mk' {w : World} {g : Nat} {A : Option Addr} {l : List UInt8} {bad : Bool} (hi : InAt w g A l bad) : ∃ c, l.length ≤ c ∧ w.heap[g]? = some (.cells #[.slice A l.length c, .bool bad] 76 (0, 0)) ∧
    g < w.heap.size ∧ w.cell? ⟨g, 0, none⟩ = some (.slice A l.length c) ∧ w.cell? ⟨g, 1, none⟩ = some (.bool bad) ∧ w.frozen? ⟨g, 0, none⟩ = false ∧ w.frozen? ⟨g, 1, none⟩ = false := by
  obtain ⟨⟨c, hc, hg⟩, hr, hne, hsm⟩ := hi
  exact ⟨c, hc, hg, lt_of_block hg, by rw [cell_of_row _ _ _ _ _ _ hg]; rfl, by rw [cell_of_row _ _ _ _ _ _ hg]; rfl, by simp [World.frozen?, hg], by simp [World.frozen?, hg]⟩

theorem InAt.spoil {w : World} {g : Nat} {A : Option Addr} {l : List UInt8} {bad : Bool} (hi : InAt w g A l bad) : InPost g A l true w (w.setCell ⟨g, 1, none⟩ (.bool true)) := by
  obtain ⟨⟨c, hc, hg⟩, hr, hne, hsm⟩ := hi
  have T1 := (Touch.refl [g] w).setCell (p := ⟨g, 1, none⟩) (.inl (by simp)) (.bool true)
  exact ⟨A, ⟨⟨c, hc, heap_setCell_same w g 1 _ _ _ hg⟩, hr.touch T1 (fun b hb hm => hne ((by simpa using hm : b = g) ▸ hb)), hne, hsm⟩, T1, fun b hb => hb⟩

theorem RdB.pre {w : World} {A : Option Addr} {l : List UInt8} (h : RdB w A l) (k : Nat) : RdB w A (l.take k) := by
  have := Rd.cut h (A' := A) (k := 0) (n := k) (fun ad e _ => by rw [e]; simp [Addr.add])
  unfold RdB
  rw [List.map_take]
  simpa using this
theorem RdB.drop {w : World} {A : Option Addr} {l : List UInt8} (h : RdB w A l) (k : Nat) : RdB w (A.map (fun x => x.add k)) (l.drop k) := by
  have := Rd.cut h (A' := A.map (fun x => x.add k)) (k := k) (n := l.length) (fun ad e _ => by rw [e]; rfl)
  unfold RdB
  rw [List.map_drop]
  rwa [List.take_of_length_le (by simp)] at this

theorem InAt.on {w : World} {g : Nat} {A : Option Addr} {l : List UInt8} {c : Nat} (hi : InAt w g A l false) (hg : w.heap[g]? = some (.cells #[.slice A l.length c, .bool false] 76 (0, 0))) (k n m : Nat) (A' : Option Addr)
    (hk : k ≤ l.length) (hn : n = l.length - k) (hm : n ≤ m) (hA : A' = A.map (fun x => x.add k) ∨ n = 0 ∧ (A' = A ∨ A' = none)) : InPost g A (l.drop k) false w (w.setCell ⟨g, 0, none⟩ (.slice A' n m)) := by
  obtain ⟨_, hr, hne, hsm⟩ := hi
  have T1 := (Touch.refl [g] w).setCell (p := ⟨g, 0, none⟩) (.inl (by simp)) (.slice A' n m)
  have hl : (l.drop k).length = n := by simp [hn]
  have hf : ∀ b ∈ fpo A', b ∈ fpo A := by
    rcases hA with rfl | ⟨_, rfl | rfl⟩
    · cases A with
      | none => simp [fpo]
      | some ad => simp [fpo, block_of_add]
    · exact fun _ h => h
    · simp [fpo]
  have hr' : RdB w A' (l.drop k) := by
    rcases hA with rfl | ⟨h0, _⟩
    · exact hr.drop k
    · rw [List.eq_nil_of_length_eq_zero (hl.trans h0)]; exact Rd.nil _ _
  refine ⟨A', ⟨⟨m, by omega, ?_⟩, hr'.touch T1 (fun b hb hm => hne ((by simpa using hm : b = g) ▸ hf b hb)), fun h => hne (hf _ h), by omega⟩, T1, hf⟩
  rw [hl]
  exact heap_setCell_same w g 0 _ _ _ hg

set_option maxHeartbeats 400000 in
theorem take_no (g : Nat) (A : Option Addr) (l : List UInt8) (bad : Bool) (n : Int) (h1 : -9223372036854775808 ≤ n) (h2 : n ≤ 9223372036854775807) (w : World) (hi : InAt w g A l bad) (hno : bad = true ∨ n < 0 ∨ l.length < n) :
    Calls Tryd.prog 41 #[.pointer (some ⟨g, 0, none⟩), .int .i64 n] w fun e w' => e = .returned (.slice none 0 0) ∧ InPost g A l true w w' := by
  obtain ⟨c, hc, hg, hgl, hc0, hc1, hfr, hfr1⟩ := hi.mk'
  have P1 := hi.spoil
  have hsm := hi.sm
  clear hi hg
  go_enter Tryd.func41, Tryd.ntmps41
  cases bad
  · by_cases hn : n < 0
    · go_wp2
      go_ret
      exact ⟨rfl, P1⟩
    · obtain ⟨k, rfl⟩ : ∃ k : Nat, n = (k : Int) := ⟨n.toNat, by omega⟩
      have hk : ¬ k ≤ l.length := by rcases hno with h | h | h <;> first | cases h | omega
      clear hno
      go_wp2
      go_ret
      exact ⟨rfl, P1⟩
  · go_wp2
    go_ret
    exact ⟨rfl, P1⟩

set_option maxHeartbeats 400000 in
theorem take_ok (g : Nat) (A : Option Addr) (l : List UInt8) (k : Nat) (hk : k ≤ l.length) (w : World) (hi : InAt w g A l false) :
    Calls Tryd.prog 41 #[.pointer (some ⟨g, 0, none⟩), .int .i64 k] w fun e w' => (∃ A0, e = .returned (.slice A0 k k) ∧ RdB w A0 (l.take k) ∧ (∀ b ∈ fpo A0, b ∈ fpo A)) ∧ InPost g A (l.drop k) false w w' := by
  obtain ⟨c, hc, hg, hgl, hc0, hc1, hfr, hfr1⟩ := hi.mk'
  have P1 := fun k n m A' => hi.on hg k n m A'
  have hsm := hi.sm
  have hr := RdB.pre hi.rd k
  clear hi hg
  go_enter Tryd.func41, Tryd.ntmps41
  by_cases hck : c = k
  · subst hck
    go_wp2
    go_ret
    exact ⟨⟨A, rfl, hr, fun b hb => hb⟩, P1 c 0 0 A hk (by omega) (by omega) (.inr ⟨rfl, .inl rfl⟩)⟩
  · go_wp2
    go_ret
    exact ⟨⟨A, rfl, hr, fun b hb => hb⟩, P1 k _ _ _ hk rfl (by omega) (.inl rfl)⟩

theorem bad_any (g : Nat) (A : Option Addr) (l : List UInt8) (bad : Bool) (w : World) (hi : InAt w g A l bad) :
    Calls Tryd.prog 21 #[.pointer (some ⟨g, 0, none⟩)] w fun e w' => e = .returned (.bool bad) ∧ w' = w := by
  obtain ⟨c, hc, hg, hgl, hc0, hc1, hfr, hfr1⟩ := hi.mk'
  clear hi hg
  go_enter Tryd.func21, Tryd.ntmps21
  go_wp2
  go_ret
  exact ⟨rfl, rfl⟩

theorem done_any (g : Nat) (A : Option Addr) (l : List UInt8) (bad : Bool) (w : World) (hi : InAt w g A l bad) :
    Calls Tryd.prog 20 #[.pointer (some ⟨g, 0, none⟩)] w fun e w' => e = .returned (.bool (!bad && decide (l.length = 0))) ∧ w' = w := by
  obtain ⟨c, hc, hg, hgl, hc0, hc1, hfr, hfr1⟩ := hi.mk'
  have hsm := hi.sm
  clear hi hg
  go_enter Tryd.func20, Tryd.ntmps20
  have hd : ((l.length : Int) == 0) = decide (l.length = 0) := by rw [Bool.eq_iff_iff]; simp
  have Hd := Lib.hid hd; clear hd
  cases bad
  · go_wp2
    go_ret
    exact ⟨ret_bool Hd.out, rfl⟩
  · go_wp2
    go_ret
    exact ⟨rfl, rfl⟩

set_option maxHeartbeats 400000 in
theorem newIn_any (A : Option Addr) (n c : Nat) (l : List UInt8) (hn : l.length = n) (hl : n ≤ 140737488000000) (w : World) (h : RdB w A l) :
    Calls Tryd.prog 17 #[.slice A n c] w fun e w' => ∃ g A', e = .returned (.pointer (some ⟨g, 0, none⟩)) ∧ InAt w' g A' l false ∧ Touch [] w w' ∧ w.heap.size ≤ g ∧ ∀ b ∈ fpo A', w.heap.size ≤ b := by
  subst hn
  go_enter Tryd.func17, Tryd.ntmps17
  go_wp2_with (go_at_call 40; refine (clone_any A c l w h hl).mono ?_; rintro e w1 ⟨A1, c1, rfl, h1⟩)
  obtain ⟨hown1, ht1, hf1⟩ := h1
  go_ret
  exact ⟨w1.heap.size, A1, rfl, ⟨⟨c1, hown1.le, heap_alloc_new w1 _⟩, hown1.rd.touch0 ((Touch.refl [] w1).alloc _), fun hm => by have := hown1.lt _ hm; omega, hl⟩, ht1.alloc _, ht1.size, hf1⟩
end Go.Proofs.YtgpadejkmpfafaaDoor
