/- Rows of ints and rows of such rows, as the memory holds them. No program's function. -/
import Derived.Test.YtmehdlflhllhdaaRdK
import Derived.Test.YtmehdlflhllhdaaIns
import Derived.Test.YtmehdlflhllhdaaGrR
import Derived.Test.YtmehdlflhllhdaaGrL
namespace Go.Proofs.Ytmehdlflhllhdaa
open Go.RowKit

theorem frozen_blk {w : World} {g : Nat} {cs : Array Value} {t : TypeId} (h : w.heap[g]? = some (.cells cs t (0, 0))) (i : Nat) : w.frozen? ⟨g, i, none⟩ = false := by simp [World.frozen?, h]
theorem lt_blk {w : World} {g : Nat} {o : Obj} (h : w.heap[g]? = some o) : g < w.heap.size := (Array.getElem?_eq_some_iff.1 h).1
theorem add_blk (g j : Nat) : (⟨g, 0, none⟩ : Addr).add j = ⟨g, j, none⟩ := by unfold Addr.add; split <;> simp_all

/-- what a made slice is -/
structure Made {α : Type} (t k : Nat) (enc : α → List Value) (xs : List α) (A : Option Addr) (c : Nat) (w w' : World) : Prop where
  own : OwnK t k enc w' A c xs
  t : Touch [] w w'
  f : ∀ b ∈ fpo A, w.heap.size ≤ b
theorem Made.step {α : Type} {t k : Nat} {enc : α → List Value} {xs ys : List α} {A A' : Option Addr} {c c' : Nat} {w w1 w2 : World} (h : Made t k enc xs A c w w1) (h2 : OwnK t k enc w2 A' c' ys) (t2 : Touch (fpo A) w1 w2) (f2 : ∀ b ∈ fpo A', b ∈ fpo A ∨ b = w1.heap.size) : Made t k enc ys A' c' w w2 :=
  ⟨h2, h.t.trans t2 (fun b hb => .inr (h.f b hb)), fun b hb => by
    rcases f2 b hb with e | e
    · exact h.f b e
    · have := h.t.size; omega⟩
theorem Made.touch0 {α : Type} {t k : Nat} {enc : α → List Value} {xs : List α} {A : Option Addr} {c : Nat} {w w1 w2 : World} (h : Made t k enc xs A c w w1) (ht : Touch [] w1 w2) : Made t k enc xs A c w w2 := ⟨h.own.touch0 ht, h.t.trans0 ht, h.f⟩
theorem Made.nil {α : Type} (t k : Nat) (enc : α → List Value) (w : World) : Made t k enc [] none 0 w w := ⟨OwnK.nil _ _ _ _, Touch.refl _ _, by simp [fpo]⟩

theorem OwnK.free_ {α : Type} {t k : Nat} {enc : α → List Value} {w : World} {G c : Nat} {xs : List α} (h : OwnK t k enc w (some ⟨G, 0, none⟩) c xs) (i : Nat) : w.frozen? ⟨G, i, none⟩ = false := by
  rcases h.2 with ⟨hv, _⟩ | ⟨g, cap, cur, hv, _, hg, _, _, _, _⟩
  · injection hv with hA; cases hA
  · have hA : (some ⟨G, 0, none⟩ : Option Addr) = some ⟨g, 0, none⟩ := by injection hv
    injection hA with hA; injection hA with hG; subst hG
    simp [World.frozen?, hg]
theorem flat_set {α β : Type} (enc : α → List β) (k : Nat) (hk : ∀ x, (enc x).length = k) (v : β) (o : Nat) (ho : o < k) : ∀ (xs : List α) (i : Nat) (hi : i < xs.length) (y : α), enc y = (enc xs[i]).set o v → (xs.set i y).flatMap enc = (xs.flatMap enc).set (i * k + o) v
  | [], i => fun hi => absurd hi (by simp)
  | x :: xs, 0 => fun _ y hy => by
    rw [List.set_cons_zero, List.flatMap_cons, List.flatMap_cons, hy, List.getElem_cons_zero, Nat.zero_mul, Nat.zero_add, List.set_append_left _ _ (by rw [hk]; exact ho)]
  | x :: xs, i + 1 => fun hi y hy => by
    have ih := flat_set enc k hk v o ho xs i (by simpa using hi) y (by simpa using hy)
    have e1 : (i + 1) * k + o = k + (i * k + o) := by rw [Nat.add_mul]; omega
    rw [List.set_cons_succ, List.flatMap_cons, List.flatMap_cons, ih, List.set_append_right _ _ (by rw [hk, e1]; omega), hk, e1, Nat.add_sub_cancel_left]
theorem OwnK.set {α : Type} {t k : Nat} {enc : α → List Value} {w : World} {G c : Nat} {xs : List α} (h : OwnK t k enc w (some ⟨G, 0, none⟩) c xs) (hk : ∀ x, (enc x).length = k) (i : Nat) (hi : i < xs.length) (o : Nat) (ho : o < k) (v : Value) (y : α)
    (hy : enc y = (enc xs[i]).set o v) : OwnK t k enc (w.setCell ⟨G, i * k + o, none⟩ v) (some ⟨G, 0, none⟩) c (xs.set i y) := by
  have := (World.ownsRow.stored h (i * k + o) v).1
  unfold OwnK
  rw [List.length_set, flat_set enc k hk v o ho xs i hi y hy]
  exact this
/-- a store into a row whose elements have one cell -/
theorem OwnK.set1 {α : Type} {t : Nat} {val : α → Value} {w : World} {G c : Nat} {xs : List α} (h : OwnK t 1 (fun x => [val x]) w (some ⟨G, 0, none⟩) c xs) (i : Nat) (hi : i < xs.length) (y : α) : OwnK t 1 (fun x => [val x]) (w.setCell ⟨G, i, none⟩ (val y)) (some ⟨G, 0, none⟩) c (xs.set i y) := by
  have := h.set (fun _ => rfl) i hi 0 (by omega) (val y) y rfl
  rwa [Nat.mul_one] at this
theorem flat_one {α : Type} {val : α → Value} (xs : List α) : (xs.flatMap fun x => [val x]) = xs.map val := by
  induction xs with
  | nil => rfl
  | cons x xs ih => rw [List.flatMap_cons, ih]; rfl
/-- what a cell of such a row holds -/
theorem OwnK.cell1 {α : Type} {t : Nat} {val : α → Value} {w : World} {G c : Nat} {xs : List α} (h : OwnK t 1 (fun x => [val x]) w (some ⟨G, 0, none⟩) c xs) (i : Nat) (hi : i < xs.length) : w.cell? ⟨G, i, none⟩ = some (val xs[i]) := by
  have := World.ownsRow.cells h (g := G) rfl i (val xs[i]) (by rw [flat_one]; simp [hi])
  rwa [add_blk] at this
/-- a row just made -/
theorem OwnK.made {α : Type} (t : Nat) (val : α → Value) (w : World) (n : Nat) (z : α) (hn : n ≤ maxLen) : OwnK t 1 (fun x => [val x]) (w.alloc (.cells (madeCells #[val z] n) t)) (some ⟨w.heap.size, 0, none⟩) n (List.replicate n z) := by
  refine ⟨by simp, .inr ⟨w.heap.size, n, madeCells #[val z] n, by simp, Nat.zero_le _, heap_alloc_new w _, by simp, hn, ?_, ?_⟩⟩
  · rw [madeCells_one]; simp
  · rw [madeCells_one, flat_one]; simp
theorem OwnK.mono {α : Type} {t k : Nat} {enc : α → List Value} {w : World} {A : Option Addr} {c : Nat} {xs : List α} (h : OwnK t k enc w A c xs) {w' : World} (hb : ∀ b ∈ fpo A, w'.heap[b]? = w.heap[b]?) : OwnK t k enc w' A c xs := by
  refine ⟨h.1, ?_⟩
  rcases h.2 with hv | ⟨g, cap, cur, hv, hb', hg, rest⟩
  · exact .inl hv
  · have hA : A = some ⟨g, 0, none⟩ := by injection hv
    subst hA
    exact .inr ⟨g, cap, cur, hv, hb', by rw [hb g (by simp [fpo])]; exact hg, rest⟩

/-- an int, as a row's cell -/
abbrev iV (x : Int) : Value := .int .i64 x
abbrev nV (x : Nat) : Value := .int .i64 (x : Int)
abbrev bV (x : Bool) : Value := .bool x
/-- a slice as a row's cell -/
structure SL where
  A : Option Addr
  n : Nat
  c : Nat
def SL.val (s : SL) : Value := .slice s.A s.n s.c
abbrev iE (x : Int) : List Value := [iV x]
abbrev nE (x : Nat) : List Value := [nV x]
abbrev bE (x : Bool) : List Value := [bV x]
abbrev sE (x : SL) : List Value := [SL.val x]
theorem SL.val_eq (s : SL) : s.val = .slice s.A s.n s.c := rfl

theorem rd_of_own {α : Type} {t : Nat} {val : α → Value} {w : World} {A : Option Addr} {c : Nat} {xs : List α} (h : OwnK t 1 (fun x => [val x]) w A c xs) : Rd w A (xs.map val) := by
  have := h.rd
  unfold RdK at this
  rwa [flat_one] at this
theorem rdI_of_ownN {t : Nat} {w : World} {A : Option Addr} {c : Nat} {xs : List Nat} (h : OwnK t 1 nE w A c xs) : RdI w A (xs.map (fun k : Nat => (k : Int))) := by
  have := rd_of_own h
  unfold RdI
  rw [List.map_map]
  exact this
theorem rdI_of_ownI {t : Nat} {w : World} {A : Option Addr} {c : Nat} {xs : List Int} (h : OwnK t 1 iE w A c xs) : RdI w A xs := rd_of_own h

/-- slices that lead to these rows -/
def RowsAt (w : World) (sl : List SL) (ls : List (List Int)) : Prop :=
  sl.length = ls.length ∧ ∀ i (h1 : i < sl.length) (h2 : i < ls.length), sl[i].n = ls[i].length ∧ sl[i].n ≤ sl[i].c ∧ RdI w sl[i].A ls[i]
theorem RowsAt.touch {w w' : World} {sl : List SL} {ls : List (List Int)} {fp : List Nat} (h : RowsAt w sl ls) (ht : Touch fp w w') (hn : ∀ s ∈ sl, ∀ b ∈ fpo s.A, b ∉ fp) : RowsAt w' sl ls :=
  ⟨h.1, fun i h1 h2 => ⟨(h.2 i h1 h2).1, (h.2 i h1 h2).2.1, Rd.touch (h.2 i h1 h2).2.2 ht (hn _ (List.getElem_mem h1))⟩⟩
theorem RowsAt.touch0 {w w' : World} {sl : List SL} {ls : List (List Int)} (h : RowsAt w sl ls) (ht : Touch [] w w') : RowsAt w' sl ls := h.touch ht (fun _ _ _ _ => by simp)
/-- a slice of slices that leads to these rows -/
def InR (w : World) (A : Option Addr) (ls : List (List Int)) : Prop := ∃ sl, RowsAt w sl ls ∧ Rd w A (sl.map SL.val)
theorem InR.touch0 {w w' : World} {A : Option Addr} {ls : List (List Int)} (h : InR w A ls) (ht : Touch [] w w') : InR w' A ls := by
  obtain ⟨sl, h1, h2⟩ := h
  exact ⟨sl, h1.touch0 ht, h2.touch0 ht⟩
theorem InR.at_ {w : World} {A : Option Addr} {ls : List (List Int)} (h : InR w A ls) (i : Nat) (hi : i < ls.length) :
    ∃ ad A' c', A = some ad ∧ w.cell? (ad.add i) = some (.slice A' ls[i].length c') ∧ ls[i].length ≤ c' ∧ RdI w A' ls[i] := by
  obtain ⟨sl, h1, h2⟩ := h
  have hi' : i < sl.length := by rw [h1.1]; exact hi
  obtain ⟨ad, e, hc⟩ := h2 (by simp; omega)
  obtain ⟨k1, k2, k3⟩ := h1.2 i hi' hi
  refine ⟨ad, sl[i].A, sl[i].c, e, ?_, by rw [← k1]; exact k2, k3⟩
  rw [hc i sl[i].val (by simp [hi']), SL.val_eq, k1]

theorem info_bool : (Try.prog.info? 4).map (fun i => (i.zero, i.size, i.bytes)) = some (some (.bool false), 1, 1) := by kernel_rfl
theorem info_int : (Try.prog.info? 3).map (fun i => (i.zero, i.size, i.bytes)) = some (some (.int .i64 0), 1, 8) := by kernel_rfl
theorem info_ints : (Try.prog.info? 31).map (fun i => (i.zero, i.size, i.bytes)) = some (some (.slice none 0 0), 1, 24) := by kernel_rfl
theorem run_mk (t e : TypeId) (z : Value) (bytes : Nat) (ht : Try.prog.underlying t = some (.slice e)) (hinfo : (Try.prog.info? e).map (fun i => (i.zero, i.size, i.bytes)) = some (some z, 1, bytes)) (hz : z.cells = #[z]) (hb : bytes ≤ 100) (n : Nat) (hn : n ≤ 1000000) (w : World) :
    (Instr.makeSlice t (.int .i64 (n : Int)) (.int .i64 (n : Int))).run Try.prog w = .ok (.slice (some ⟨w.heap.size, 0, none⟩) n n) (w.alloc (.cells (madeCells #[z] n) e)) := by
  obtain ⟨i0, hi0, hz0, hz1, hz2⟩ := info_parts hinfo
  have hm : bytes * n ≤ 100 * 1000000 := Nat.mul_le_mul hb hn
  have hm' : (bytes : Int) * (n : Int) ≤ 100000000 := by rw [← Int.natCast_mul]; omega
  have h := run_make (P := Try.prog) w t e i0 _ ht hi0 hz0 .i64 .i64 (n : Int) (n : Int) (by omega) (by omega) (by rw [hz2]; omega) (by omega)
  rw [Int.toNat_natCast, hz1, Nat.mul_one] at h
  rw [h, hz]
theorem run_mkB (n : Nat) (hn : n ≤ 1000000) (w : World) : (Instr.makeSlice 43 (.int .i64 (n : Int)) (.int .i64 (n : Int))).run Try.prog w = .ok (.slice (some ⟨w.heap.size, 0, none⟩) n n) (w.alloc (.cells (madeCells #[.bool false] n) 4)) :=
  run_mk _ _ _ 1 Try.underlying43 info_bool rfl (by omega) n hn w
theorem run_mkI (n : Nat) (hn : n ≤ 1000000) (w : World) : (Instr.makeSlice 31 (.int .i64 (n : Int)) (.int .i64 (n : Int))).run Try.prog w = .ok (.slice (some ⟨w.heap.size, 0, none⟩) n n) (w.alloc (.cells (madeCells #[.int .i64 0] n) 3)) :=
  run_mk _ _ _ 8 Try.underlying31 info_int rfl (by omega) n hn w
theorem run_mkS (n : Nat) (hn : n ≤ 1000000) (w : World) : (Instr.makeSlice 22 (.int .i64 (n : Int)) (.int .i64 (n : Int))).run Try.prog w = .ok (.slice (some ⟨w.heap.size, 0, none⟩) n n) (w.alloc (.cells (madeCells #[.slice none 0 0] n) 31)) :=
  run_mk _ _ _ 24 Try.underlying22 info_ints rfl (by omega) n hn w
end Go.Proofs.Ytmehdlflhllhdaa
