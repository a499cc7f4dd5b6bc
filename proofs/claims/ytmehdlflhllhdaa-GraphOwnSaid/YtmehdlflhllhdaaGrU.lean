/- slices.Collect, slices.Sorted, slices.Compact at ints: the numbers of a list, rising, each once. For every slice of ints. -/
import Derived.Test.YtmehdlflhllhdaaGrV
namespace Go.Proofs.Ytmehdlflhllhdaa
open Go.RowKit Go.Shelf Go.Sort

theorem own_of {α : Type} {t : Nat} {val : α → Value} {w : World} {base : Nat} {v : Value} {xs : List α} (h : w.ownsRow base t 1 v xs.length (xs.map val)) : ∃ A c, v = .slice A xs.length c ∧ OwnK t 1 (fun x => [val x]) w A c xs ∧ ∀ b ∈ fpo A, base ≤ b := by
  have hv : ∃ A' c', v = .slice A' xs.length c' := by
    rcases h.2 with ⟨e1, e2⟩ | ⟨g, cap, cur, e1, _⟩
    · exact ⟨none, 0, by rw [e1, e2]⟩
    · exact ⟨_, _, e1⟩
  obtain ⟨A', c', rfl⟩ := hv
  refine ⟨A', c', rfl, ⟨by rw [flat_one]; exact h.1, ?_⟩, fun b hb' => ?_⟩
  · rcases h.2 with e1 | ⟨g, cap, cur, e1, e2, e3⟩
    · exact .inl e1
    · exact .inr ⟨g, cap, cur, e1, Nat.zero_le _, by rw [flat_one]; exact e3⟩
  · rcases h.2 with ⟨e1, _⟩ | ⟨g, cap, cur, e1, e2, _⟩
    · injection e1 with e1; subst e1; cases hb'
    · injection e1 with e1; subst e1
      have : b = g := by simpa [fpo] using hb'
      rw [this]; exact e2

theorem touch_grow (w : World) (os : Array Obj) : Touch [] w (grow w os) := ⟨rfl, rfl, rfl, by simp, fun k hk _ => heap_grow_old w os hk⟩
theorem touch_putRow {α : Type} [Inhabited α] (enc : α → Value) (w : World) (n g off : Nat) (d : Array α) : Touch [g] w (putRow enc (Sort.ahead w n) g off d) :=
  ⟨rfl, rfl, rfl, by simp, fun k _ hn => by
    have : ¬ g = k := fun e => hn (by simp [e])
    simp [putRow, mapBlock, Array.getElem?_modify, this, Sort.ahead]⟩
theorem OwnK.holds1 {α : Type} [Inhabited α] {t : Nat} {val : α → Value} {w : World} {g c : Nat} {xs : List α} (h : OwnK t 1 (fun x => [val x]) w (some ⟨g, 0, none⟩) c xs) : Holds val w g 0 xs.toArray := by
  intro j hj
  have hj' : j < xs.length := by simpa using hj
  have hc := h.cell1 j hj'
  rw [Nat.zero_add]
  exact ⟨by rw [hc]; simp [hj'], h.free_ j⟩
theorem rd_of_holds {α : Type} [Inhabited α] {val : α → Value} {w : World} {g : Nat} {zs : List α} (h : Holds val w g 0 zs.toArray) : Rd w (some ⟨g, 0, none⟩) (zs.map val) := fun _ =>
  ⟨_, rfl, fun j u hu => by
    have hj : j < zs.length := by have := (List.getElem?_eq_some_iff.1 hu).1; simpa using this
    rw [add_blk, ← Nat.zero_add j, (h j (by simpa using hj)).1]
    simp [hj] at hu ⊢
    exact hu⟩
theorem holds_head {α : Type} [Inhabited α] {val : α → Value} {w : World} {g : Nat} {zs ys : List α} (h : Holds val w g 0 (zs ++ ys).toArray) : Holds val w g 0 zs.toArray := fun j hj => by
  have hj' : j < zs.length := by simpa using hj
  have := h j (by simp; omega)
  simpa [hj', List.getElem?_append_left hj'] using this

/-- numbers in order -/
def sortI (l : List Int) : List Int := l.mergeSort fun x y => decide (x ≤ y)
theorem sortI_length (l : List Int) : (sortI l).length = l.length := by simp [sortI, List.length_mergeSort]
/-- .. each once -/
def uniq (l : List Int) : List Int := Lib.compact (sortI l)
theorem uniq_le (l : List Int) : (uniq l).length ≤ l.length := by
  have := Lib.compact_length_le (sortI l)
  rwa [sortI_length] at this

theorem sort_own {w : World} {A : Option Addr} {c : Nat} {xs : List Int} (h : OwnK 3 1 iE w A c xs) (hl : xs.length < 4611686018427387904) :
    Calls Try.prog 39 #[.slice A xs.length c] w fun e w' => e = .returned (.tuple #[]) ∧ (∀ g, A = some ⟨g, 0, none⟩ → Holds iV w' g 0 (sortI xs).toArray) ∧ Touch (fpo A) w w' := by
  by_cases h0 : xs = []
  · subst h0
    refine (Try.slices_Sort_int_none A c w).mono ?_
    rintro e w' ⟨rfl, rfl⟩
    exact ⟨rfl, fun g hg j hj => absurd hj (by simp [sortI]), Touch.refl _ _⟩
  · rcases h.head with ⟨_, h1, _⟩ | ⟨g, rfl⟩
    · exact absurd h1 h0
    · have hg := h.lt g (by simp [fpo])
      refine (Try.slices_Sort_int g 0 c xs w h.holds1 hg hl).mono ?_
      rintro e w' ⟨rfl, n, os, rfl⟩
      refine ⟨rfl, fun g' hg' => ?_, ?_⟩
      · injection hg' with hg'
        injection hg' with hg'
        subst hg'
        refine holds_grow _ _ _ _ _ _ (by simpa using hg) (holds_putRow iV _ g 0 _ _ (holds_ahead iV w n g 0 _ h.holds1) ?_)
        simp [List.length_mergeSort]
      · exact (touch_putRow iV w n g 0 _).trans (touch_grow _ os) (by simp)
theorem compact_own {w : World} {A : Option Addr} {c : Nat} {zs : List Int} (hA : zs = [] ∨ ∃ g, A = some ⟨g, 0, none⟩) (h : ∀ g, A = some ⟨g, 0, none⟩ → Holds iV w g 0 zs.toArray) (hl : zs.length ≤ 1000000000) (hc : zs.length ≤ c) :
    Calls Try.prog 28 #[.slice A zs.length c] w fun e w' => e = .returned (.slice A (Lib.compact zs).length c) ∧ RdI w' A (Lib.compact zs) ∧ Touch (fpo A) w w' := by
  rcases hA with rfl | ⟨g, rfl⟩
  · refine (Try.slices_Compact_int_empty A c w).mono ?_
    rintro e w' ⟨rfl, rfl⟩
    exact ⟨rfl, fun h => absurd h (by simp [Lib.compact, Lib.compactUpTo]), Touch.refl _ _⟩
  · refine (Try.slices_Compact_int g 0 c zs w (h g rfl) (by omega) hc).mono ?_
    rintro e w' ⟨rfl, q, rfl⟩
    have hle := Lib.compact_length_le zs
    exact ⟨rfl, rd_of_holds (holds_head (holds_putRow iV _ g 0 _ _ (holds_ahead iV w q g 0 _ (h g rfl)) (by simp; omega))), touch_putRow iV w q g 0 _⟩

set_option maxRecDepth 20000 in
set_option maxHeartbeats 1000000 in
theorem collect_any (Bs : Nat) (A : Option Addr) (cap : Nat) (zs : List Int) (hreach : zs.length ≤ 1000000000) (w : World)
    (hBs : w.cell? ⟨Bs, 0, none⟩ = some (.slice A zs.length cap)) (hr : RdI w A zs) :
    Calls Try.prog 38 #[.func (.func 40) #[] #[.pointer (some ⟨Bs, 0, none⟩)]] w fun e w' =>
      ∃ A c, e = .returned (.slice A zs.length c) ∧ OwnK 3 1 iE w' A c zs ∧ Touch [] w w' ∧ ∀ b ∈ fpo A, w.heap.size ≤ b := by
  have hap := (callsIn_wide (n := 4)).1 (appendSeq_in 4 (by omega) Bs A cap zs hreach w hBs hr)
  go_enter Try.func38, Try.ntmps38
  go_wp2_with fail
  refine hap.mono ?_
  rintro e w1 ⟨v, rfl, hrow, _, hb⟩
  obtain ⟨A1, c1, rfl, hown, hf⟩ := own_of hrow
  clear hrow hap
  go_wp2
  go_ret
  exact ⟨A1, c1, rfl, hown, Touch.of_below hb [], hf⟩

set_option maxRecDepth 20000 in
set_option maxHeartbeats 1000000 in
theorem sorted_any (Bs : Nat) (A : Option Addr) (cap : Nat) (zs : List Int) (hreach : zs.length ≤ 1000000000) (w : World)
    (hBs : w.cell? ⟨Bs, 0, none⟩ = some (.slice A zs.length cap)) (hr : RdI w A zs) :
    Calls Try.prog 29 #[.func (.func 40) #[] #[.pointer (some ⟨Bs, 0, none⟩)]] w fun e w' =>
      ∃ A c, e = .returned (.slice A zs.length c) ∧ (∀ g, A = some ⟨g, 0, none⟩ → Holds iV w' g 0 (sortI zs).toArray) ∧ ((A = none ∧ sortI zs = []) ∨ ∃ g, A = some ⟨g, 0, none⟩) ∧ zs.length ≤ c ∧ Touch [] w w' ∧ ∀ b ∈ fpo A, w.heap.size ≤ b ∧ b < w'.heap.size := by
  have hco := collect_any Bs A cap zs hreach w hBs hr
  have hso := fun A c w' (h : OwnK 3 1 iE w' A c zs) => sort_own h (by omega)
  have HS := Lib.hid hso
  clear hso
  go_enter Try.func29, Try.ntmps29
  go_wp2_with fail
  refine hco.mono ?_
  rintro e w1 ⟨A1, c1, rfl, hown, ht, hf⟩
  have Ho := Lib.hid hown
  clear hown hco
  go_wp2_with fail
  refine (HS.out A1 c1 w1 Ho.out).mono ?_
  rintro e w2 ⟨rfl, hh, ht2⟩
  have Hh := Lib.hid hh
  clear hh
  go_wp2
  go_ret
  refine ⟨A1, c1, rfl, Hh.out, ?_, Ho.out.le, ht.trans ht2 (fun b hb => .inr (hf b hb)), fun b hb => ⟨hf b hb, Nat.lt_of_lt_of_le (Ho.out.lt b hb) ht2.size⟩⟩
  rcases Ho.out.head with ⟨h0, h1, _⟩ | h
  · left; exact ⟨h0, by simp [h1, sortI]⟩
  · exact .inr h

section
variable {d : Array Int}
theorem upTo_mem (m : Nat) (hs : ∀ i j, i ≤ j → j < m → d[i]! ≤ d[j]!) : (∀ x, x ∈ Lib.compactUpTo d m ↔ ∃ i, i < m ∧ d[i]! = x) ∧ (Lib.compactUpTo d m).Pairwise (· < ·) := by
  induction m with
  | zero => exact ⟨fun x => ⟨fun h => absurd h (by simp [Lib.compactUpTo]), fun ⟨i, hi, _⟩ => absurd hi (by omega)⟩, by simp [Lib.compactUpTo]⟩
  | succ m ih =>
    obtain ⟨i1, i2⟩ := ih (fun i j a b => hs i j a (by omega))
    rw [Lib.compactUpTo_succ]
    rcases hk : Lib.keeps d m with _ | _
    · rw [if_neg (by simp), List.append_nil]
      refine ⟨fun x => ?_, i2⟩
      rw [i1]
      constructor
      · rintro ⟨i, hi, h⟩; exact ⟨i, by omega, h⟩
      · rintro ⟨i, hi, h⟩
        by_cases him : i = m
        · subst him
          have hm : i ≠ 0 ∧ d[i]! = d[i - 1]! := by simpa [Lib.keeps] using hk
          exact ⟨i - 1, by omega, by rw [← hm.2]; exact h⟩
        · exact ⟨i, by omega, h⟩
    · rw [if_pos rfl]
      refine ⟨fun x => ?_, ?_⟩
      · rw [List.mem_append, i1, List.mem_singleton]
        constructor
        · rintro (⟨i, hi, h⟩ | rfl)
          · exact ⟨i, by omega, h⟩
          · exact ⟨m, by omega, rfl⟩
        · rintro ⟨i, hi, h⟩
          by_cases him : i = m
          · subst him; exact .inr h.symm
          · exact .inl ⟨i, by omega, h⟩
      · refine List.pairwise_append.2 ⟨i2, by simp, fun x hx y hy => ?_⟩
        obtain rfl := List.mem_singleton.1 hy
        obtain ⟨i, hi, rfl⟩ := (i1 x).1 hx
        have hm : m = 0 ∨ d[m]! ≠ d[m - 1]! := by simpa [Lib.keeps] using hk
        have h1 := hs i (m - 1) (by omega) (by omega)
        have h2 := hs (m - 1) m (by omega) (by omega)
        omega
end
/-- the same numbers, rising -/
theorem uniq_props (l : List Int) : (∀ x, x ∈ uniq l ↔ x ∈ l) ∧ (uniq l).Pairwise (· < ·) := by
  have hp : (sortI l).Pairwise (· ≤ ·) := by
    have := List.pairwise_mergeSort (le := fun x y : Int => decide (x ≤ y)) (fun a b c h1 h2 => by simp only [decide_eq_true_eq] at *; omega) (fun a b => by simp only [Bool.or_eq_true, decide_eq_true_eq]; omega) l
    exact this.imp fun h => by simpa using h
  have hs : ∀ i j, i ≤ j → j < (sortI l).length → (sortI l).toArray[i]! ≤ (sortI l).toArray[j]! := fun i j hij hj => by
    rw [getElem!_pos _ i (by simp; omega), getElem!_pos _ j (by simpa using hj)]
    simp only [List.getElem_toArray]
    rcases Nat.lt_or_ge i j with h | h
    · exact List.pairwise_iff_getElem.1 hp i j (by omega) hj h
    · obtain rfl : i = j := by omega
      exact Int.le_refl _
  obtain ⟨h1, h2⟩ := upTo_mem _ hs
  refine ⟨fun x => ?_, h2⟩
  unfold uniq Lib.compact
  rw [h1, ← (List.mem_mergeSort (le := fun x y : Int => decide (x ≤ y)) (l := l)), List.mem_iff_getElem]
  constructor
  · rintro ⟨i, hi, rfl⟩; exact ⟨i, by simpa [sortI] using hi, by rw [getElem!_pos _ i (by simpa using hi)]; rfl⟩
  · rintro ⟨i, hi, rfl⟩; exact ⟨i, by simpa [sortI] using hi, by rw [getElem!_pos _ i (by simpa [sortI] using hi)]; rfl⟩
end Go.Proofs.Ytmehdlflhllhdaa
