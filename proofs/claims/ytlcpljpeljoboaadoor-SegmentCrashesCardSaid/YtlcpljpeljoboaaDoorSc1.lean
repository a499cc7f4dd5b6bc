/- Part 1 of the texts of this proof, one behind the other; each begins with its own sentence. No condition beyond those that its theorems state. -/
import Derived.Test.YtlcpljpeljoboaaDoorChecked
import Derived.WalkKit
import Derived.WalkSpells
import Derived.WalkLawsBesides
import Derived.Lib.Hide
import Derived.Maps.AppendAt
import Derived.Deep.QuietTactic
import Derived.BigQuiet
import Derived.Laws.BytesArg
import Derived.Lib.LazyBuf
import Derived.Lib.SliceRun
import Derived.Lib.SlBytesConst
import Derived.Lib.ConvBytes
import Derived.Lib.AppendStr
import Derived.Below
import Derived.IntWalk
import Derived.RangeFuncBox
import Derived.RangeFuncLeaves
import Derived.RangeFuncNested
import Derived.RangeFuncBound
import Derived.RangeFuncCalls
import Derived.Shelf.Abstract
import Derived.Shelf.RegionOpen
import Derived.OwnWalkIn
import Derived.TacticsInMore
import Derived.LoopNIn
import Derived.LoopIn
/- Worlds, rows of bytes and what a call may touch: small facts that all walks of this seat share. No condition. -/
namespace Go.Proofs.YtlcpljpeljoboaaDoor
open Go.RowKit

theorem ret_int {k : IntKind} {a b : Int} (h : a = b) : Ending.returned (.int k a) = .returned (.int k b) := by rw [h]
theorem ret_bool {a b : Bool} (h : a = b) : Ending.returned (.bool a) = .returned (.bool b) := by rw [h]
theorem ret_slice {A : Option Addr} {c n m : Nat} (h : n = m) : Ending.returned (.slice A n c) = .returned (.slice A m c) := by rw [h]
theorem ret_str {a b : ByteArray} (h : a = b) : Ending.returned (.string a) = .returned (.string b) := by rw [h]

/-- the walk stands still at a goal that is hidden; 'go' brings it back -/
theorem stop {p : Prop} (h : Hid p) : p := h
theorem go {p : Prop} (h : p) : Hid p := h

/-- which old blocks a call may have written: those on the list; all else that was there stands as it stood. -/
structure Touch (fp : List Nat) (w w' : World) : Prop where
  os : w'.os = w.os
  tape : w'.tape = w.tape
  output : w'.output = w.output
  size : w.heap.size ≤ w'.heap.size
  block : ∀ k, k < w.heap.size → k ∉ fp → w'.heap[k]? = w.heap[k]?

theorem Touch.refl (fp : List Nat) (w : World) : Touch fp w w := ⟨rfl, rfl, rfl, Nat.le_refl _, fun _ _ _ => rfl⟩
theorem Touch.trans {fp fp2 : List Nat} {w w1 w2 : World} (h : Touch fp w w1) (k : Touch fp2 w1 w2) (hs : ∀ b ∈ fp2, b ∈ fp ∨ w.heap.size ≤ b) : Touch fp w w2 :=
  ⟨k.os.trans h.os, k.tape.trans h.tape, k.output.trans h.output, Nat.le_trans h.size k.size, fun b hb hn =>
    (k.block b (Nat.lt_of_lt_of_le hb h.size) (fun hm => by rcases hs b hm with h1 | h1; exact hn h1; omega)).trans (h.block b hb hn)⟩
theorem Touch.trans0 {fp : List Nat} {w w1 w2 : World} (h : Touch fp w w1) (k : Touch [] w1 w2) : Touch fp w w2 := h.trans k (by simp)
theorem Touch.mono {fp fp2 : List Nat} {w w1 : World} (h : Touch fp w w1) (hs : ∀ b ∈ fp, b ∈ fp2 ∨ w.heap.size ≤ b) : Touch fp2 w w1 :=
  ⟨h.os, h.tape, h.output, h.size, fun b hb hn => h.block b hb (fun hm => by rcases hs b hm with h1 | h1; exact hn h1; omega)⟩
theorem Touch.alloc {fp : List Nat} {w w1 : World} (h : Touch fp w w1) (o : Obj) : Touch fp w (w1.alloc o) :=
  ⟨h.os, h.tape, h.output, Nat.le_trans h.size (by simp), fun b hb hn => (Below.heap_alloc w1 o b (Nat.lt_of_lt_of_le hb h.size)).trans (h.block b hb hn)⟩
theorem Touch.drewN {fp : List Nat} {w w1 : World} (h : Touch fp w w1) (n : Nat) : Touch fp w (w1.drewN n) := ⟨h.os, h.tape, h.output, h.size, h.block⟩
theorem Touch.drew {fp : List Nat} {w w1 : World} (h : Touch fp w w1) : Touch fp w w1.drew := ⟨h.os, h.tape, h.output, h.size, h.block⟩
theorem Touch.ofDrew {fp : List Nat} {w w1 : World} (h : Touch fp w.drew w1) : Touch fp w w1 := ⟨h.os, h.tape, h.output, h.size, h.block⟩
theorem Touch.ofDrewN {fp : List Nat} {w w1 : World} {n : Nat} (h : Touch fp (w.drewN n) w1) : Touch fp w w1 := ⟨h.os, h.tape, h.output, h.size, h.block⟩
theorem Touch.setCell {fp : List Nat} {w w1 : World} (h : Touch fp w w1) {p : Addr} (hp : p.block ∈ fp ∨ w.heap.size ≤ p.block) (u : Value) : Touch fp w (w1.setCell p u) :=
  ⟨h.os, h.tape, h.output, by simpa [World.setCell] using h.size, fun b hb hn => (Below.heap_setCell w1 p u b (by
    rintro rfl
    rcases hp with hp | hp
    · exact hn hp
    · omega)).trans (h.block b hb hn)⟩
theorem Touch.of_grown {w w' : World} {row : Option Nat} (h : w.grownBy w' row) : Touch row.toList w w' :=
  ⟨h.os, h.tape, h.output, h.size, fun k hk hn => h.block k hk (fun e => hn (by rw [← e]; simp))⟩
theorem Touch.of_below {w w' : World} (h : Below w.heap.size w w') (fp : List Nat) : Touch fp w w' := ⟨h.os, h.tape, h.output, h.size, fun k hk _ => h.block k hk⟩
theorem Touch.below {fp : List Nat} {w w' : World} (h : Touch fp w w') {n : Nat} (hn : n ≤ w.heap.size) (hf : ∀ b ∈ fp, n ≤ b) : Below n w w' :=
  ⟨h.os, h.tape, h.output, h.size, fun k hk => h.block k (Nat.lt_of_lt_of_le hk hn) (fun hm => by have := hf k hm; omega)⟩
theorem Touch.below0 {w w' : World} (h : Touch [] w w') : Below w.heap.size w w' := h.below (Nat.le_refl _) (by simp)
theorem Touch.cell {fp : List Nat} {w w' : World} (h : Touch fp w w') {a : Addr} {v : Value} (hc : w.cell? a = some v) (hn : a.block ∉ fp) : w'.cell? a = some v :=
  (World.cell?_of_block (h.block a.block (World.block_lt_of_cell? w a hc) hn)).trans hc
theorem Touch.blk {fp : List Nat} {w w' : World} (h : Touch fp w w') {g : Nat} {o : Obj} (hc : w.heap[g]? = some o) (hn : g ∉ fp) : w'.heap[g]? = some o :=
  (h.block g (by rcases Nat.lt_or_ge g w.heap.size with hl | hl; exact hl; rw [Array.getElem?_eq_none hl] at hc; cases hc) hn).trans hc

theorem block_of_add (a : Addr) (n : Nat) : (a.add n).block = a.block := by unfold Addr.add; split <;> rfl
theorem add_of_add (a : Addr) (i j : Nat) : (a.add i).add j = a.add (i + j) := by
  unfold Addr.add
  by_cases hi : i = 0 <;> by_cases hj : j = 0 <;> simp [hi, hj, Nat.add_assoc]

/-- the block of a slice's address -/
def fpo : Option Addr → List Nat
  | some a => [a.block]
  | none => []

/-- a slice's address leads to these cells (an empty one's to whatever) -/
def Rd (w : World) (A : Option Addr) (xs : List Value) : Prop := 0 < xs.length → ∃ ad, A = some ad ∧ ∀ j u, xs[j]? = some u → w.cell? (ad.add j) = some u

theorem Rd.touch {w w' : World} {A : Option Addr} {xs : List Value} {fp : List Nat} (h : Rd w A xs) (ht : Touch fp w w') (hn : ∀ b ∈ fpo A, b ∉ fp) : Rd w' A xs := by
  intro h0
  obtain ⟨ad, rfl, hc⟩ := h h0
  exact ⟨ad, rfl, fun j u hu => ht.cell (hc j u hu) (by rw [block_of_add]; exact hn _ (by simp [fpo]))⟩
theorem Rd.touch0 {w w' : World} {A : Option Addr} {xs : List Value} (h : Rd w A xs) (ht : Touch [] w w') : Rd w' A xs := h.touch ht (by simp)
theorem Rd.nil (w : World) (A : Option Addr) : Rd w A [] := fun h => absurd h (by simp)
theorem Rd.lt {w : World} {A : Option Addr} {xs : List Value} (h : Rd w A xs) (h0 : 0 < xs.length) : ∀ b ∈ fpo A, b < w.heap.size := by
  obtain ⟨ad, rfl, hc⟩ := h h0
  intro b hb
  have : b = ad.block := by simpa [fpo] using hb
  subst this
  have := World.block_lt_of_cell? w _ (hc 0 xs[0] (List.getElem?_eq_getElem h0))
  rwa [block_of_add] at this
theorem Rd.cut {w : World} {A : Option Addr} {xs : List Value} (h : Rd w A xs) {A' : Option Addr} {k n : Nat} (hA : ∀ ad, A = some ad → k < xs.length → A' = some (ad.add k)) : Rd w A' ((xs.drop k).take n) := by
  intro h0
  have hk : k < xs.length := by simp at h0; omega
  obtain ⟨ad, rfl, hc⟩ := h (by omega)
  refine ⟨ad.add k, hA ad rfl hk, fun j u hu => ?_⟩
  rw [add_of_add]
  refine hc _ u ?_
  rw [List.getElem?_take] at hu
  split at hu
  · rwa [List.getElem?_drop] at hu
  · cases hu

/-- bytes as the memory holds them -/
def B (b : UInt8) : Value := .int .u8 b.toNat
theorem oneCell_B (l : List UInt8) : ∀ u ∈ l.map B, u.oneCell' = true := by
  intro u hu
  obtain ⟨b, _, rfl⟩ := List.mem_map.1 hu
  rfl
def RdB (w : World) (A : Option Addr) (l : List UInt8) : Prop := Rd w A (l.map B)
theorem RdB.at_ {w : World} {A : Option Addr} {l : List UInt8} (h : RdB w A l) (k : Nat) (hk : k < l.length) : ∃ ad, A = some ad ∧ w.cell? (ad.add k) = some (.int .u8 l[k].toNat) := by
  obtain ⟨ad, e, hc⟩ := h (by simpa using Nat.lt_of_le_of_lt (Nat.zero_le _) hk)
  exact ⟨ad, e, hc k _ (by simp [hk, B])⟩

/-- a slice that the calls own: it holds these bytes and nobody shares its row -/
def OwnB (w : World) (A : Option Addr) (c : Nat) (l : List UInt8) : Prop := w.ownsRow 0 5 1 (.slice A l.length c) l.length (l.map B)
theorem OwnB.rd {w : World} {A : Option Addr} {c : Nat} {l : List UInt8} (h : OwnB w A c l) : RdB w A l := by
  intro h0
  rcases h.2 with hv | ⟨g, cap, cur, hv, _⟩
  · simp at h0; omega
  · have hA : A = some ⟨g, 0, none⟩ := by injection hv
    subst hA
    exact ⟨_, rfl, World.ownsRow.cells h (g := g) rfl⟩
theorem OwnB.le {w : World} {A : Option Addr} {c : Nat} {l : List UInt8} (h : OwnB w A c l) : l.length ≤ c := by
  obtain ⟨_, ⟨hv, hn⟩ | ⟨g, cap, cur, hv, _, _, hnc, _⟩⟩ := h
  · omega
  · injection hv with _ _ h3; omega
theorem OwnB.cap {w : World} {A : Option Addr} {c : Nat} {l : List UInt8} (h : OwnB w A c l) : c ≤ 9223372036854775807 := by
  obtain ⟨_, ⟨hv, hn⟩ | ⟨g, cap, cur, hv, _, _, _, hm, _⟩⟩ := h
  · injection hv with _ _ h3; omega
  · injection hv with _ _ h3; unfold maxLen at hm; omega
theorem OwnB.nil (w : World) : OwnB w none 0 [] := World.ownsRow_nil _ _ _ _
theorem OwnB.touch {w w' : World} {A : Option Addr} {c : Nat} {l : List UInt8} {fp : List Nat} (h : OwnB w A c l) (ht : Touch fp w w') (hn : ∀ b ∈ fpo A, b ∉ fp) : OwnB w' A c l := by
  refine ⟨h.1, ?_⟩
  rcases h.2 with hv | ⟨g, cap, cur, hv, hb, hg, rest⟩
  · exact .inl hv
  · have hA : A = some ⟨g, 0, none⟩ := by injection hv
    subst hA
    exact .inr ⟨g, cap, cur, hv, hb, ht.blk hg (hn g (by simp [fpo])), rest⟩
theorem OwnB.touch0 {w w' : World} {A : Option Addr} {c : Nat} {l : List UInt8} (h : OwnB w A c l) (ht : Touch [] w w') : OwnB w' A c l := h.touch ht (by simp)
theorem OwnB.lt {w : World} {A : Option Addr} {c : Nat} {l : List UInt8} (h : OwnB w A c l) : ∀ b ∈ fpo A, b < w.heap.size := by
  intro b hb
  rcases h.2 with ⟨hv, _⟩ | ⟨g, cap, cur, hv, _, hg, _⟩
  · injection hv with hA _ _; subst hA; cases hb
  · have hA : A = some ⟨g, 0, none⟩ := by injection hv
    subst hA
    have : b = g := by simpa [fpo] using hb
    subst this
    exact (Array.getElem?_eq_some_iff.1 hg).1
theorem OwnB.head {w : World} {A : Option Addr} {c : Nat} {l : List UInt8} (h : OwnB w A c l) : A = none ∧ l = [] ∧ c = 0 ∨ ∃ g, A = some ⟨g, 0, none⟩ := by
  rcases h.2 with ⟨hv, h0⟩ | ⟨g, cap, cur, hv, _⟩
  · injection hv with hA _ hc; exact .inl ⟨hA, List.eq_nil_of_length_eq_zero h0, hc⟩
  · injection hv with hA _ _; exact .inr ⟨g, hA⟩
theorem OwnB.empty_new (w : World) : OwnB (w.alloc (.cells #[] 5)) (some ⟨w.heap.size, 0, none⟩) 0 [] :=
  ⟨rfl, .inr ⟨w.heap.size, 0, #[], rfl, Nat.zero_le _, heap_alloc_new w _, Nat.le_refl _, Nat.zero_le _, rfl, rfl⟩⟩
/-- a block just made, all of whose cells are these -/
theorem OwnB.new (w : World) (l : List UInt8) (hl : l.length ≤ maxLen) : OwnB (w.alloc (.cells (l.map B).toArray 5)) (some ⟨w.heap.size, 0, none⟩) l.length l :=
  ⟨by simp, .inr ⟨w.heap.size, l.length, (l.map B).toArray, rfl, Nat.zero_le _, heap_alloc_new w _, Nat.le_refl _, hl, by simp, by simp [List.take_of_length_le]⟩⟩

section
variable {P : Program} (w : World)
theorem run_append_of_nil (base : Nat) (t ty e : TypeId) (i : TypeInfo) (size : Nat) (ht : P.underlying t = some (.slice e)) (hi : P.info? e = some i)
    (v : Value) (n : Nat) (xs : List Value) (hown : w.ownsRow base e size v n xs) (c : Nat) : (Builtin.append_ #[t, t] ty #[v, .slice none 0 c]).run P w = .ok v w := by
  rcases hown.2 with ⟨rfl, rfl⟩ | ⟨g, cap, cur, rfl, _, _, hnc, _⟩
  · simp [Builtin.append_, run_underlying ht, sizeOf, typeInfo, hi, Builtin.lenOf, Builtin.firstCells]
  · simp [Builtin.append_, run_underlying ht, sizeOf, typeInfo, hi, Builtin.lenOf, Builtin.firstCells, hnc, storeCells]

theorem run_app (t ty e : TypeId) (i : TypeInfo) (z : Value) (size bytes : Nat) (ht : P.underlying t = some (.slice e)) (hi : P.info? e = some i) (hz : i.zero = some z)
    (hsize : i.size = size) (hby : i.bytes = bytes) (hzs : z.cells.size = size) (hsz : 0 < size)
    (A0 : Option Addr) (n c0 : Nat) (xs : List Value) (hown : w.ownsRow 0 e size (.slice A0 n c0) n xs)
    (A : Option Addr) (m c : Nat) (news : List Value) (hl : news.length = m * size) (hr : Rd w A news) (h1 : ∀ u ∈ news, u.oneCell' = true)
    (h63 : n + m ≤ maxLen) (hbytes : (n + m) * bytes ≤ 140737488355328) :
    ∃ A' c' w', (Builtin.append_ #[t, t] ty #[.slice A0 n c0, .slice A m c]).run P w = .ok (.slice A' (n + m) c') w' ∧ w'.ownsRow 0 e size (.slice A' (n + m) c') (n + m) (xs ++ news) ∧ Touch (fpo A0) w w' ∧
      (∀ b ∈ fpo A', b ∈ fpo A0 ∨ b = w.heap.size) := by
  have hfp : ∀ v : Value, ∀ A1 n1 c1, v = .slice A1 n1 c1 → v.ownBlock.toList = fpo A1 := by
    rintro v A1 n1 c1 rfl
    cases A1 <;> rfl
  rcases A with _ | ad
  · have hm : m = 0 := by
      rcases Nat.eq_zero_or_pos m with h0 | h0
      · exact h0
      · obtain ⟨ad, h, _⟩ := hr (by rw [hl]; exact Nat.mul_pos h0 hsz)
        cases h
    subst hm
    have hn : news = [] := List.eq_nil_of_length_eq_zero (by simpa using hl)
    subst hn
    exact ⟨A0, c0, w, run_append_of_nil w 0 t ty e i size ht hi _ n xs hown c, by simpa using hown, Touch.refl _ _, fun b hb => .inl hb⟩
  · have hcells : ∀ j u, news[j]? = some u → w.cell? (ad.add j) = some u := by
      intro j u hu
      obtain ⟨ad', h, hc⟩ := hr (Nat.lt_of_le_of_lt (Nat.zero_le _) (List.getElem?_eq_some_iff.1 hu).1)
      injection h with h
      subst h
      exact hc j u hu
    obtain ⟨v', w', hrun, h2, h3, h4, h5⟩ := run_append_own_at (P := P) w 0 t ty e i z size bytes ht hi hz hsize hby hzs hsz _ n xs hown ad m c news hl hcells h1 h63 hbytes (Nat.zero_le _)
    have ht' : Touch (fpo A0) w w' := by
      have := Touch.of_grown h3
      rwa [hfp _ _ _ _ rfl] at this
    have hv : ∃ A' c', v' = .slice A' (n + m) c' := by
      rcases h2.2 with ⟨e1, e2⟩ | ⟨g, cap, cur, e1, _⟩
      · exact ⟨none, 0, by rw [e1, e2]⟩
      · exact ⟨_, _, e1⟩
    obtain ⟨A', c', rfl⟩ := hv
    refine ⟨A', c', w', hrun, h2, ht', fun b hb => ?_⟩
    have hb' : b ∈ (Value.slice A' (n + m) c').ownBlock.toList := by rw [hfp _ _ _ _ rfl]; exact hb
    rcases h5 with e5 | e5
    · left; rw [e5, hfp _ _ _ _ rfl] at hb'; exact hb'
    · right; rw [e5] at hb'; simpa using hb'

theorem wp_app {o : Oper} {a : Act} {K : Act → World → Prop} {Q : Exit → Act → World → Prop} (s x : Operand) (t : TypeId)
    (ho : o.op = .call { callee := .builtin .append, args := #[s, x], argTypes := #[t, t] })
    (e : TypeId) (i : TypeInfo) (z : Value) (size bytes : Nat) (ht : P.underlying t = some (.slice e)) (hi : P.info? e = some i) (hz : i.zero = some z)
    (hsize : i.size = size) (hby : i.bytes = bytes) (hzs : z.cells.size = size) (hsz : 0 < size)
    (A0 : Option Addr) (n c0 : Nat) (xs : List Value) (hs : a.eval s = .slice A0 n c0) (hown : w.ownsRow 0 e size (.slice A0 n c0) n xs)
    (A : Option Addr) (m c : Nat) (news : List Value) (hx : a.eval x = .slice A m c) (hl : news.length = m * size) (hr : Rd w A news) (h1 : ∀ u ∈ news, u.oneCell' = true)
    (h63 : n + m ≤ maxLen) (hbytes : (n + m) * bytes ≤ 140737488355328)
    (h : ∀ A' c' w', w'.ownsRow 0 e size (.slice A' (n + m) c') (n + m) (xs ++ news) → Touch (fpo A0) w w' → (∀ b ∈ fpo A', b ∈ fpo A0 ∨ b = w.heap.size) → K (a.put o.dst (.slice A' (n + m) c')) w') : o.wp P a w K Q := by
  obtain ⟨A', c', w', hrun, h2, h3, h4⟩ := run_app (P := P) w t o.type e i z size bytes ht hi hz hsize hby hzs hsz A0 n c0 xs hown A m c news hl hr h1 h63 hbytes
  unfold Oper.wp execOp
  simp only [ho, resolve, invoke, builtin, Sem.run_bind, Sem.run_pure, Result.andThen_ok, List.map_toArray, List.map_cons, List.map_nil, hs, hx, hrun]
  exact h A' c' w' h2 h3 h4

theorem wpList_app {ops : Array Oper} {rest : List Oper} {o : Oper} {a : Act} {Q : Exit → Act → World → Prop} (hgd : o.guard = none) (s x : Operand) (t : TypeId)
    (ho : o.op = .call { callee := .builtin .append, args := #[s, x], argTypes := #[t, t] })
    (e : TypeId) (i : TypeInfo) (z : Value) (size bytes : Nat) (ht : P.underlying t = some (.slice e)) (hi : P.info? e = some i) (hz : i.zero = some z)
    (hsize : i.size = size) (hby : i.bytes = bytes) (hzs : z.cells.size = size) (hsz : 0 < size)
    (A0 : Option Addr) (n c0 : Nat) (xs : List Value) (hs : a.eval s = .slice A0 n c0) (hown : w.ownsRow 0 e size (.slice A0 n c0) n xs)
    (A : Option Addr) (m c : Nat) (news : List Value) (hx : a.eval x = .slice A m c) (hl : news.length = m * size) (hr : Rd w A news) (h1 : ∀ u ∈ news, u.oneCell' = true)
    (h63 : n + m ≤ maxLen) (hbytes : (n + m) * bytes ≤ 140737488355328)
    (h : ∀ A' c' w', w'.ownsRow 0 e size (.slice A' (n + m) c') (n + m) (xs ++ news) → Touch (fpo A0) w w' → (∀ b ∈ fpo A', b ∈ fpo A0 ∨ b = w.heap.size) → wpList P ops Q rest (a.put o.dst (.slice A' (n + m) c')) w') :
    wpList P ops Q (o :: rest) a w :=
  wpList_plain hgd fun _ hK => wp_app w s x t ho e i z size bytes ht hi hz hsize hby hzs hsz A0 n c0 xs hs hown A m c news hx hl hr h1 h63 hbytes fun A' c' w' h2 h3 h4 => hK _ _ (h A' c' w' h2 h3 h4)

/-- the same as one step of a region that draws its order -/
theorem step_app {ops : Array Oper} {o : Oper} {a : Act} {K : Act → World → Prop} {Q : Exit → Act → World → Prop} {E : Prop} (hgd : o.guard = none) (s x : Operand) (t : TypeId)
    (ho : o.op = .call { callee := .builtin .append, args := #[s, x], argTypes := #[t, t] })
    (e : TypeId) (i : TypeInfo) (z : Value) (size bytes : Nat) (ht : P.underlying t = some (.slice e)) (hi : P.info? e = some i) (hz : i.zero = some z)
    (hsize : i.size = size) (hby : i.bytes = bytes) (hzs : z.cells.size = size) (hsz : 0 < size)
    (A0 : Option Addr) (n c0 : Nat) (xs : List Value) (hs : a.eval s = .slice A0 n c0) (hown : w.ownsRow 0 e size (.slice A0 n c0) n xs)
    (A : Option Addr) (m c : Nat) (news : List Value) (hx : a.eval x = .slice A m c) (hl : news.length = m * size) (hr : Rd w A news) (h1 : ∀ u ∈ news, u.oneCell' = true)
    (h63 : n + m ≤ maxLen) (hbytes : (n + m) * bytes ≤ 140737488355328)
    (h : ∀ A' c' w', w'.ownsRow 0 e size (.slice A' (n + m) c') (n + m) (xs ++ news) → Touch (fpo A0) w w' → (∀ b ∈ fpo A', b ∈ fpo A0 ∨ b = w.heap.size) → K (a.put o.dst (.slice A' (n + m) c')) w') :
    if Region.wanted o (yielded ops a.tmps) = true then Oper.wp P o a w K Q else E := by
  have hw : Region.wanted o (yielded ops a.tmps) = true := by simp [Region.wanted, hgd]
  rw [if_pos hw]
  exact wp_app w s x t ho e i z size bytes ht hi hz hsize hby hzs hsz A0 n c0 xs hs hown A m c news hx hl hr h1 h63 hbytes h
end

theorem info_u8 : (Tryd.prog.info? 5).map (fun i => (i.zero, i.size, i.bytes)) = some (some (.int .u8 0), 1, 1) := by kernel_rfl

/-- append onto bytes that the calls own -/
theorem wpList_appB {w : World} {ops : Array Oper} {rest : List Oper} {o : Oper} {a : Act} {Q : Exit → Act → World → Prop} (hgd : o.guard = none) (s x : Operand)
    (ho : o.op = .call { callee := .builtin .append, args := #[s, x], argTypes := #[22, 22] })
    (A0 : Option Addr) (n c0 : Nat) (l : List UInt8) (hn : l.length = n) (hs : a.eval s = .slice A0 n c0) (hown : OwnB w A0 c0 l)
    (A : Option Addr) (k c : Nat) (m : List UInt8) (hk : m.length = k) (hx : a.eval x = .slice A k c) (hr : RdB w A m) (hbytes : n + k ≤ 140737488355328)
    (h : ∀ A' c' w', OwnB w' A' c' (l ++ m) → Touch (fpo A0) w w' → (∀ b ∈ fpo A', b ∈ fpo A0 ∨ b = w.heap.size) → wpList Tryd.prog ops Q rest (a.put o.dst (.slice A' (n + k) c')) w') :
    wpList Tryd.prog ops Q (o :: rest) a w := by
  obtain ⟨i0, hi0, hz0, hz1, hz2⟩ := info_parts info_u8
  subst hn hk
  refine wpList_app w hgd s x _ ho 5 i0 _ 1 1 Tryd.underlying22 hi0 hz0 hz1 hz2 rfl (by omega) A0 l.length c0 _ hs hown A m.length c _ hx (by simp) hr (oneCell_B _) (by simp only [maxLen]; omega) (by omega) ?_
  intro A' c' w' h2 h3 h4
  exact h A' c' w' (by unfold OwnB; rw [List.map_append, List.length_append]; exact h2) h3 h4

theorem step_appB {w : World} {ops : Array Oper} {o : Oper} {a : Act} {K : Act → World → Prop} {Q : Exit → Act → World → Prop} {E : Prop} (hgd : o.guard = none) (s x : Operand)
    (ho : o.op = .call { callee := .builtin .append, args := #[s, x], argTypes := #[22, 22] })
    (A0 : Option Addr) (n c0 : Nat) (l : List UInt8) (hn : l.length = n) (hs : a.eval s = .slice A0 n c0) (hown : OwnB w A0 c0 l)
    (A : Option Addr) (k c : Nat) (m : List UInt8) (hk : m.length = k) (hx : a.eval x = .slice A k c) (hr : RdB w A m) (hbytes : n + k ≤ 140737488355328)
    (h : ∀ A' c' w', OwnB w' A' c' (l ++ m) → Touch (fpo A0) w w' → (∀ b ∈ fpo A', b ∈ fpo A0 ∨ b = w.heap.size) → K (a.put o.dst (.slice A' (n + k) c')) w') :
    if Region.wanted o (yielded ops a.tmps) = true then Oper.wp Tryd.prog o a w K Q else E := by
  obtain ⟨i0, hi0, hz0, hz1, hz2⟩ := info_parts info_u8
  subst hn hk
  refine step_app w hgd s x _ ho 5 i0 _ 1 1 Tryd.underlying22 hi0 hz0 hz1 hz2 rfl (by omega) A0 l.length c0 _ hs hown A m.length c _ hx (by simp) hr (oneCell_B _) (by simp only [maxLen]; omega) (by omega) ?_
  intro A' c' w' h2 h3 h4
  exact h A' c' w' (by unfold OwnB; rw [List.map_append, List.length_append]; exact h2) h3 h4

/-- one byte in a block of its own -/
theorem RdB.one (w : World) (x : UInt8) : RdB (w.alloc (.cells #[B x] 5)) (some ⟨w.heap.size, 0, none⟩) [x] :=
  (OwnB.new w [x] (by simp [maxLen])).rd
theorem RdB.one' (w : World) (x : UInt8) {z : Int} (h : z = x.toNat) : RdB (w.alloc (.cells #[.int .u8 z] 5)) (some ⟨w.heap.size, 0, none⟩) [x] := by
  subst h; exact RdB.one w x

/-- a block just made, whatever of it is marked -/
theorem RdB.newf (w : World) (l : List UInt8) (fr : Nat × Nat) : RdB (w.alloc (.cells (l.map B).toArray 5 fr)) (some ⟨w.heap.size, 0, none⟩) l := fun _ =>
  ⟨_, rfl, fun j u hu => by
    have hadd : (⟨w.heap.size, 0, none⟩ : Addr).add j = ⟨w.heap.size, j, none⟩ := by unfold Addr.add; split <;> simp_all
    rw [hadd, cell_of_row _ w.heap.size j (l.map B).toArray 5 fr (heap_alloc_new w _)]
    simpa using hu⟩

theorem RdB.new' (w : World) (l : List UInt8) (fr : Nat × Nat) (cs : Array Value) (h : cs = (l.map B).toArray) : RdB (w.alloc (.cells cs 5 fr)) (some ⟨w.heap.size, 0, none⟩) l := by
  subst h; exact RdB.newf w l fr

/-- a text of these bytes -/
def S (l : List UInt8) : ByteArray := ⟨l.toArray⟩
theorem run_str_of {w : World} {A : Option Addr} {n : Nat} (c : Nat) {l : List UInt8} (hn : l.length = n) (hr : RdB w A l) : (convert 22 9 (.slice A n c)).run Tryd.prog w = .ok (.string (S l)) w := by
  subst hn
  rcases Nat.eq_zero_or_pos l.length with h0 | h0
  · obtain rfl := List.eq_nil_of_length_eq_zero h0
    cases A with
    | none => exact run_convert_bytes_nil (P := Tryd.prog) w 22 5 Tryd.underlying22 Tryd.underlying5 _ _ _ Tryd.underlying9
    | some ad =>
      have hl : (loadCells ad 0).run Tryd.prog w = .ok (([] : List Int).map (Value.int .u8)).toArray w := run_loadCells_list (P := Tryd.prog) w ad [] (by simp)
      rw [run_convert_bytes_string w _ _ _ _ _ c Tryd.underlying22 Tryd.underlying5 Tryd.underlying9]
      exact run_bytesToString w ad 0 c [] hl
  · obtain ⟨ad, rfl, hc⟩ := hr (by simpa using h0)
    have hl : (loadCells ad l.length).run Tryd.prog w = .ok ((l.map (fun b => (b.toNat : Int))).map (Value.int .u8)).toArray w := by
      have := run_loadCells_list (P := Tryd.prog) w ad (l.map B) hc
      rw [List.length_map] at this
      rw [this, List.map_map]; rfl
    rw [run_convert_bytes_string w _ _ _ _ _ c Tryd.underlying22 Tryd.underlying5 Tryd.underlying9, run_bytesToString w ad _ c _ hl, foldl_push_bytes]
    simp [S, ByteArray.empty, ByteArray.emptyWithCapacity, Function.comp_def]
    rfl

theorem madeCells_one (v : Value) (n : Nat) : madeCells #[v] n = (List.replicate n v).toArray := by
  apply Array.ext
  · simp [madeCells]
  · intro i h1 h2
    simp [madeCells, Nat.mod_one]
/-- make([]byte, n) -/
theorem run_makeB (n : Nat) (hn : n ≤ 281474976710656) (w : World) : (Instr.makeSlice 22 (.int .i64 (n : Int)) (.int .i64 (n : Int))).run Tryd.prog w =
    .ok (.slice (some ⟨w.heap.size, 0, none⟩) n n) (w.alloc (.cells ((List.replicate n (0 : UInt8)).map B).toArray 5)) := by
  obtain ⟨i0, hi0, hz0, hz1, hz2⟩ := info_parts info_u8
  have h := run_make (P := Tryd.prog) w 22 5 i0 _ Tryd.underlying22 hi0 hz0 .i64 .i64 (n : Int) (n : Int) (by omega) (by omega) (by rw [hz2]; omega) (by omega)
  rw [Int.toNat_natCast, hz1, Nat.mul_one] at h
  rw [h, List.map_replicate, ← madeCells_one]
  rfl

end Go.Proofs.YtlcpljpeljoboaaDoor

/- frame.low: the lowest bytes of a number. For every number below 2^64. -/
namespace Go.Proofs.YtlcpljpeljoboaaDoor
open Go.RowKit

/-- the lowest k bytes -/
def digs (N : Nat) : Nat → List UInt8
  | 0 => []
  | k + 1 => UInt8.ofNat N :: digs (N / 256) k
theorem digs_length (N k : Nat) : (digs N k).length = k := by
  induction k generalizing N with
  | zero => rfl
  | succ k ih => simp [digs, ih]
theorem digs_snoc (N k : Nat) : digs N (k + 1) = digs N k ++ [UInt8.ofNat (N / 256 ^ k)] := by
  induction k generalizing N with
  | zero => simp [digs]
  | succ k ih =>
    rw [digs, ih (N / 256)]
    simp only [digs, List.cons_append]
    rw [Nat.div_div_eq_div_mul, ← Nat.pow_succ']
/-- as many bytes as a number needs -/
def le (f : Nat) (N : Nat) : List UInt8 :=
  match f with
  | 0 => []
  | f + 1 => if N = 0 then [] else UInt8.ofNat N :: le f (N / 256)
theorem le_length (f N : Nat) : (le f N).length ≤ f := by
  induction f generalizing N with
  | zero => simp [le]
  | succ f ih =>
    unfold le
    split
    · simp
    · simpa using ih _
theorem digs_le (f k N : Nat) (hk : k ≤ f) (h0 : N / 256 ^ k = 0) (hp : ∀ j, j < k → 0 < N / 256 ^ j) : digs N k = le f N := by
  induction f generalizing k N with
  | zero => obtain rfl : k = 0 := by omega
            rfl
  | succ f ih =>
    cases k with
    | zero => simp at h0; simp [digs, le, h0]
    | succ k =>
      have h1 := hp 0 (by omega)
      simp only [Nat.pow_zero, Nat.div_one] at h1
      rw [digs, le, if_neg (by omega), ih k (N / 256) (by omega)]
      · rw [Nat.div_div_eq_div_mul, ← Nat.pow_succ']; exact h0
      · intro j hj
        rw [Nat.div_div_eq_div_mul, ← Nat.pow_succ']
        exact hp (j + 1) (by omega)

def IsLow (N least k : Nat) : Prop := N / 256 ^ k = 0 ∧ least ≤ k ∧ k ≤ 8 ∧ ∀ j, j < k → 0 < N / 256 ^ j ∨ j < least
theorem IsLow.zero {N k : Nat} (h : IsLow N 0 k) : digs N k = le 8 N := digs_le 8 k N h.2.2.1 h.1 fun j hj => by have := h.2.2.2 j hj; omega
theorem IsLow.four {N k : Nat} (h : IsLow N 4 k) (hN : N < 4294967296) : k = 4 := by
  have h4 : N / 256 ^ 4 = 0 := Nat.div_eq_of_lt (by simpa using hN)
  rcases Nat.lt_or_ge 4 k with hk | hk
  · have := h.2.2.2 4 hk; omega
  · have := h.2.1; omega

set_option maxHeartbeats 400000 in
theorem low_any (N least : Nat) (hN : N < 18446744073709551616) (hl : least ≤ 8) (w : World) :
    Calls Tryd.prog 68 #[.int .u64 N, .int .i64 least] w fun e w' => ∃ A c k, e = .returned (.slice A (digs N k).length c) ∧ OwnB w' A c (digs N k) ∧ Touch [] w w' ∧ (∀ b ∈ fpo A, w.heap.size ≤ b) ∧
      IsLow N least k := by
  go_enter Tryd.func68, Tryd.ntmps68
  go_wp2
  go_loopw [0, 5] (fun n out wr => ∃ k A c, k ≤ 8 ∧ n = .int .u64 (N / 256 ^ k : Nat) ∧ out = .slice A k c ∧ OwnB wr A c (digs N k) ∧ Touch [] w wr ∧ (∀ b ∈ fpo A, w.heap.size ≤ b) ∧ ∀ j, j < k → 0 < N / 256 ^ j ∨ j < least)
    (fun _ out _ => match out with | .slice _ k _ => 9 - k | _ => 0)
  case atStart => exact ⟨0, none, 0, by omega, by simp, rfl, OwnB.nil _, Touch.refl _ _, by simp [fpo], by omega⟩
  case round =>
    obtain ⟨k, A, c, hk, rfl, rfl, hown, ht, hfp, hj⟩ := hrel
    obtain ⟨q, hq⟩ : ∃ q, q = N / 256 ^ k := ⟨_, rfl⟩
    have hql : q < 18446744073709551616 := hq ▸ Nat.lt_of_le_of_lt (Nat.div_le_self _ _) hN
    rw [← hq]
    have h8 : k = 8 → q = 0 := by rintro rfl; rw [hq]; exact Nat.div_eq_of_lt (by simpa using hN)
    have H8 := Lib.hid h8; clear h8
    have Hq := Lib.hid hq; clear hq
    have hx : (q : Int) % 256 = ((UInt8.ofNat q).toNat : Int) := by simp
    have Hx := Lib.hid hx; clear hx
    by_cases hc : 0 < q ∨ k < least
    · have hk8 : k < 8 := by
        rcases Nat.lt_or_ge k 8 with h | h
        · exact h
        · have := H8.out (by omega); omega
      have hd : (decide ((0 : Int) < q) = true ∧ 0 < q) ∨ (decide ((0 : Int) < q) = false ∧ q = 0 ∧ k < least) := by
        by_cases h : 0 < q
        · exact .inl ⟨by simp; omega, h⟩
        · exact .inr ⟨by simp; omega, by omega, by omega⟩
      rcases hd with ⟨hd, hq0⟩ | ⟨hd, hq0, hkl⟩
      · go_wp2_with (at_builtin; refine wpList_appB rfl (.tmp 14) (.tmp 17) rfl A k c (digs N k) (digs_length N k) rfl (hown.touch0 ((Touch.refl _ _).alloc _)) (some ⟨wr.heap.size, 0, none⟩) 1 1 [UInt8.ofNat q] rfl rfl (RdB.one' _ _ Hx.out) (by omega) ?_; intro A1 c1 w1 hown1 ht1 hfp1)
        go_roundw
        case rel => exact ⟨k + 1, A1, c1, by omega, by rw [Nat.pow_succ, ← Nat.div_div_eq_div_mul, ← Hq.out]; go_num, rfl, by rw [digs_snoc, ← Hq.out]; exact hown1,
          (ht.alloc _).trans ht1 (fun b hb => .inr (hfp b hb)), fun b hb => (by
            rcases hfp1 b hb with h | h
            · exact hfp b h
            · have := ht.size; simp at h; omega), fun j hj' => (by
            rcases Nat.lt_or_ge j k with h | h
            · exact hj j h
            · obtain rfl : j = k := by omega
              rw [← Hq.out]; exact hc)⟩
        case measure => simp; omega
      · subst hq0
        go_wp2_with (at_builtin; refine wpList_appB rfl (.tmp 14) (.tmp 17) rfl A k c (digs N k) (digs_length N k) rfl (hown.touch0 ((Touch.refl _ _).alloc _)) (some ⟨wr.heap.size, 0, none⟩) 1 1 [UInt8.ofNat 0] rfl rfl (RdB.one' _ _ rfl) (by omega) ?_; intro A1 c1 w1 hown1 ht1 hfp1)
        go_roundw
        case rel => exact ⟨k + 1, A1, c1, by omega, by rw [Nat.pow_succ, ← Nat.div_div_eq_div_mul, ← Hq.out]; go_num, rfl, by rw [digs_snoc, ← Hq.out]; exact hown1,
          (ht.alloc _).trans ht1 (fun b hb => .inr (hfp b hb)), fun b hb => (by
            rcases hfp1 b hb with h | h
            · exact hfp b h
            · have := ht.size; simp at h; omega), fun j hj' => (by
            rcases Nat.lt_or_ge j k with h | h
            · exact hj j h
            · obtain rfl : j = k := by omega
              rw [← Hq.out]; exact hc)⟩
        case measure => simp; omega
    · obtain ⟨hq0, hl0⟩ : q = 0 ∧ least ≤ k := by omega
      subst hq0
      go_wp2
      go_ret
      exact ⟨A, c, k, ret_slice (digs_length N k).symm, hown, ht, hfp, ⟨Hq.out.symm, hl0, hk, hj⟩⟩
theorem low_zero (N : Nat) (hN : N < 18446744073709551616) (w : World) :
    Calls Tryd.prog 68 #[.int .u64 N, .int .i64 0] w fun e w' => ∃ A c, e = .returned (.slice A (le 8 N).length c) ∧ OwnB w' A c (le 8 N) ∧ Touch [] w w' ∧ (∀ b ∈ fpo A, w.heap.size ≤ b) :=
  (low_any N 0 hN (by omega) w).mono fun e w' ⟨A, c, k, he, ho, ht, hf, hk⟩ => by
    rw [hk.zero] at he ho
    exact ⟨A, c, he, ho, ht, hf⟩
theorem low_four (N : Nat) (hN : N < 4294967296) (w : World) :
    Calls Tryd.prog 68 #[.int .u64 N, .int .i64 4] w fun e w' => ∃ A c, e = .returned (.slice A 4 c) ∧ OwnB w' A c (digs N 4) ∧ Touch [] w w' ∧ (∀ b ∈ fpo A, w.heap.size ≤ b) :=
  (low_any N 4 (by omega) (by omega) w).mono fun e w' ⟨A, c, k, he, ho, ht, hf, hk⟩ => by
    obtain rfl := hk.four hN
    rw [digs_length] at he
    exact ⟨A, c, he, ho, ht, hf⟩
end Go.Proofs.YtlcpljpeljoboaaDoor

/- frame.Out.Int: a number's bytes are put behind what is there. For every number. -/
namespace Go.Proofs.YtlcpljpeljoboaaDoor
open Go.RowKit

/-- a number's bytes -/
def encI (n : Int) : List UInt8 :=
  let m := if n < 0 then (-1 - n).toNat else n.toNat
  UInt8.ofNat ((le 8 m).length + if n < 0 then 16 else 0) :: le 8 m

/-- what an Out holds: its block is of one cell, which owns these bytes -/
def OutAt (w : World) (g : Nat) (A : Option Addr) (l : List UInt8) : Prop :=
  ∃ c, w.heap[g]? = some (.cells #[.slice A l.length c] 101 (0, 0)) ∧ OwnB w A c l ∧ g ∉ fpo A

/-- the outcome of a call that puts bytes behind an Out's -/
def OutPost (g : Nat) (A : Option Addr) (l : List UInt8) (w w' : World) : Prop :=
  ∃ A', OutAt w' g A' l ∧ Touch (g :: fpo A) w w' ∧ ∀ b ∈ fpo A', b ∈ fpo A ∨ w.heap.size ≤ b

theorem outStep {w w2 : World} {g : Nat} {A A2 : Option Addr} {c c2 : Nat} {l l2 : List UInt8} (hg : w.heap[g]? = some (.cells #[.slice A l.length c] 101 (0, 0))) (hgA : g ∉ fpo A) (n : Nat) (hn : l2.length = n)
    (h2 : OwnB w2 A2 c2 l2) (ht : Touch (fpo A) w w2) (hf : ∀ b ∈ fpo A2, b ∈ fpo A ∨ b = w.heap.size) :
    (w2.setCell ⟨g, 0, none⟩ (.slice A2 n c2)).heap[g]? = some (.cells #[.slice A2 l2.length c2] 101 (0, 0)) ∧ OwnB (w2.setCell ⟨g, 0, none⟩ (.slice A2 n c2)) A2 c2 l2 ∧ g ∉ fpo A2 ∧ Touch (g :: fpo A) w (w2.setCell ⟨g, 0, none⟩ (.slice A2 n c2)) ∧
      (w2.cell? ⟨g, 0, none⟩ = some (.slice A l.length c) ∧ w2.frozen? ⟨g, 0, none⟩ = false) := by
  have hgl := lt_of_block hg
  have h2g := ht.blk hg hgA
  have hgA2 : g ∉ fpo A2 := fun hm => by
    rcases hf g hm with h | h
    · exact hgA h
    · omega
  subst hn
  refine ⟨one_setCell h2g, h2.touch ((Touch.refl [g] w2).setCell (by simp) _) (fun b hb hm => hgA2 ((by simpa using hm : b = g) ▸ hb)), hgA2, ?_, cell_of_one h2g, free_of_one h2g⟩
  exact (ht.mono (fun b hb => .inl (by simp [hb]))).setCell (.inl (by simp)) _

theorem encI_neg {n : Int} {M : Nat} (hn : n < 0) (h : (-1 - n : Int) = M) : encI n = UInt8.ofNat ((le 8 M).length + 16) :: le 8 M := by
  have : (-1 - n).toNat = M := by omega
  simp [encI, hn, this]
theorem encI_pos {M : Nat} : encI (M : Int) = UInt8.ofNat ((le 8 M).length) :: le 8 M := by
  have : ¬ ((M : Int) < 0) := by omega
  simp [encI, this]

set_option maxHeartbeats 400000 in
theorem outInt_any (g : Nat) (A : Option Addr) (l : List UInt8) (n : Int) (h1 : -9223372036854775808 ≤ n) (h2 : n ≤ 9223372036854775807) (hl : l.length ≤ 140737488000000) (w : World) (ho : OutAt w g A l) :
    Calls Tryd.prog 60 #[.pointer (some ⟨g, 0, none⟩), .int .i64 n] w fun e w' => e = .returned (.pointer (some ⟨g, 0, none⟩)) ∧ OutPost g A (l ++ encI n) w w' := by
  go_enter Tryd.func60, Tryd.ntmps60
  obtain ⟨c, hg, hown, hgA⟩ := ho
  have hcell := cell_of_one hg
  have hfree := free_of_one hg
  have hgl := lt_of_block hg
  have hAl := hown.lt
  by_cases hn : n < 0
  · obtain ⟨M, hM⟩ : ∃ M : Nat, (-1 - n : Int) = (M : Int) := ⟨(-1 - n).toNat, by omega⟩
    have hMl : M < 18446744073709551616 := by omega
    have hl8 := le_length 8 M
    have henc := Lib.hid (encI_neg hn hM)
    go_wp2_with fail
    refine (low_zero M hMl w).mono ?_
    rintro e w1 ⟨A1, c1, rfl, hown1, ht1, hf1⟩
    clear hM
    have hg1 := ht1.blk hg (by simp)
    have hcell1 := cell_of_one hg1
    have hs1 := ht1.size
    have hta := (Touch.refl [] w1).alloc (.cells #[.int .u8 (((le 8 M).length : Int) + 16)] 5)
    have hga := hta.blk hg1 (by simp)
    have hownA := (hown.touch0 ht1).touch0 hta
    have hb1 := RdB.one' w1 (UInt8.ofNat ((le 8 M).length + 16)) (z := ((le 8 M).length : Int) + 16) (by simp; omega)
    have hA1n : ∀ b ∈ fpo A1, b ∉ g :: fpo A := fun b hb hm => by
      have := hf1 b hb
      rcases List.mem_cons.1 hm with h | h
      · omega
      · have := hAl b h; omega
    go_wp2_with (first
      | (at_builtin; refine wpList_appB rfl (.tmp 18) (.tmp 24) rfl A l.length c l rfl rfl hownA (some ⟨w1.heap.size, 0, none⟩) 1 1 [UInt8.ofNat ((le 8 M).length + 16)] rfl rfl hb1 (by omega) ?_; intro A2 c2 w2 hown2 ht2 hf2; have S2 := outStep hga hgA (l.length + 1) (by simp) hown2 ht2 hf2; obtain ⟨hg2, hown2', hgA2, ht2', hcell2, hfree2⟩ := S2; have hrd2 := hown1.rd.touch ((hta.mono (fp2 := g :: fpo A) (by simp)).trans ht2' (fun b hb => .inl hb)) hA1n)
      | (at_builtin; refine wpList_appB rfl (.tmp 32) (.tmp 33) rfl A2 (l.length + 1) c2 (l ++ [UInt8.ofNat ((le 8 M).length + 16)]) (by simp) rfl hown2' A1 (le 8 M).length c1 (le 8 M) rfl rfl hrd2 (by omega) ?_; intro A3 c3 w3 hown3 ht3 hf3; have S3 := outStep hg2 hgA2 (l.length + 1 + (le 8 M).length) (by simp; omega) hown3 ht3 hf3; obtain ⟨hg3, hown3', hgA3, ht3', hcell3, hfree3⟩ := S3))
    go_ret
    refine ⟨rfl, A3, ⟨c3, ?_, ?_, hgA3⟩, ?_, ?_⟩
    · rw [henc.out]; simpa using hg3
    · rw [henc.out]; simpa using hown3'
    · exact (((ht1.mono (fp2 := g :: fpo A) (by simp)).trans0 hta).trans ht2' (fun b hb => .inl hb)).trans ht3' (fun b hb => by
        rcases List.mem_cons.1 hb with h | h
        · exact .inl (by simp [h])
        · rcases hf2 b h with h' | h'
          · exact .inl (by simp [h'])
          · exact .inr (by have := hta.size; omega))
    · intro b hb
      have := ht2'.size
      have := hta.size
      rcases hf3 b hb with h | h
      · rcases hf2 b h with h' | h'
        · exact .inl h'
        · exact .inr (by omega)
      · exact .inr (by omega)
  · obtain ⟨M, rfl⟩ : ∃ M : Nat, n = (M : Int) := ⟨n.toNat, by omega⟩
    have hMl : M < 18446744073709551616 := by omega
    have hl8 := le_length 8 M
    have henc := Lib.hid (encI_pos (M := M))
    go_wp2_with fail
    refine (low_zero M hMl w).mono ?_
    rintro e w1 ⟨A1, c1, rfl, hown1, ht1, hf1⟩
    have hg1 := ht1.blk hg (by simp)
    have hcell1 := cell_of_one hg1
    have hs1 := ht1.size
    have hta := (Touch.refl [] w1).alloc (.cells #[.int .u8 ((le 8 M).length : Int)] 5)
    have hga := hta.blk hg1 (by simp)
    have hownA := (hown.touch0 ht1).touch0 hta
    have hb1 := RdB.one' w1 (UInt8.ofNat ((le 8 M).length)) (z := ((le 8 M).length : Int)) (by simp; omega)
    have hA1n : ∀ b ∈ fpo A1, b ∉ g :: fpo A := fun b hb hm => by
      have := hf1 b hb
      rcases List.mem_cons.1 hm with h | h
      · omega
      · have := hAl b h; omega
    go_wp2_with (first
      | (at_builtin; refine wpList_appB rfl (.tmp 18) (.tmp 24) rfl A l.length c l rfl rfl hownA (some ⟨w1.heap.size, 0, none⟩) 1 1 [UInt8.ofNat ((le 8 M).length)] rfl rfl hb1 (by omega) ?_; intro A2 c2 w2 hown2 ht2 hf2; have S2 := outStep hga hgA (l.length + 1) (by simp) hown2 ht2 hf2; obtain ⟨hg2, hown2', hgA2, ht2', hcell2, hfree2⟩ := S2; have hrd2 := hown1.rd.touch ((hta.mono (fp2 := g :: fpo A) (by simp)).trans ht2' (fun b hb => .inl hb)) hA1n)
      | (at_builtin; refine wpList_appB rfl (.tmp 32) (.tmp 33) rfl A2 (l.length + 1) c2 (l ++ [UInt8.ofNat ((le 8 M).length)]) (by simp) rfl hown2' A1 (le 8 M).length c1 (le 8 M) rfl rfl hrd2 (by omega) ?_; intro A3 c3 w3 hown3 ht3 hf3; have S3 := outStep hg2 hgA2 (l.length + 1 + (le 8 M).length) (by simp; omega) hown3 ht3 hf3; obtain ⟨hg3, hown3', hgA3, ht3', hcell3, hfree3⟩ := S3))
    go_ret
    refine ⟨rfl, A3, ⟨c3, ?_, ?_, hgA3⟩, ?_, ?_⟩
    · rw [henc.out]; simpa using hg3
    · rw [henc.out]; simpa using hown3'
    · exact (((ht1.mono (fp2 := g :: fpo A) (by simp)).trans0 hta).trans ht2' (fun b hb => .inl hb)).trans ht3' (fun b hb => by
        rcases List.mem_cons.1 hb with h | h
        · exact .inl (by simp [h])
        · rcases hf2 b h with h' | h'
          · exact .inl (by simp [h'])
          · exact .inr (by have := hta.size; omega))
    · intro b hb
      have := ht2'.size
      have := hta.size
      rcases hf3 b hb with h | h
      · rcases hf2 b h with h' | h'
        · exact .inl h'
        · exact .inr (by omega)
      · exact .inr (by omega)
end Go.Proofs.YtlcpljpeljoboaaDoor

/- append([]byte, text..): onto bytes that the calls own. -/
namespace Go.Proofs.YtlcpljpeljoboaaDoor
open Go.RowKit

theorem strCells_B (s : ByteArray) : Lib.strCells s = s.data.toList.map B := by
  simp [Lib.strCells, B]

/-- a row just made: these bytes, then room -/
theorem OwnB.made (w : World) (l : List UInt8) (n c : Nat) (rest : Array Value) (hn : l.length = n) (hc : n ≤ c) (hm : c ≤ maxLen) (hr : rest.size = c - n) :
    OwnB (w.alloc (.cells ((l.map B).toArray ++ rest) 5)) (some ⟨w.heap.size, 0, none⟩) c l := by
  subst hn
  refine ⟨by simp, .inr ⟨w.heap.size, c, (l.map B).toArray ++ rest, rfl, Nat.zero_le _, heap_alloc_new w _, hc, hm, ?_, ?_⟩⟩
  · have h1 : ((l.map B).toArray).size = l.length := by rw [List.size_toArray, List.length_map]
    rw [Array.size_append, hr, h1, Nat.mul_one]
    clear hm hr; omega
  · simp only [Array.toList_append, Nat.mul_one]
    have : (l.map B).toArray.toList.length = l.length := by simp
    rw [← this, List.take_left]

theorem run_appStr (A0 : Option Addr) (c0 : Nat) (l : List UInt8) (w : World) (hown : OwnB w A0 c0 l) (s : ByteArray) (hb : l.length + s.size ≤ 140737488355328) (ty : TypeId) :
    ∃ A' c' w', (Builtin.append_ #[22, 9] ty #[.slice A0 l.length c0, .string s]).run Tryd.prog w = .ok (.slice A' (l.length + s.size) c') w' ∧ OwnB w' A' c' (l ++ s.data.toList) ∧ Touch (fpo A0) w w' ∧
      ∀ b ∈ fpo A', b ∈ fpo A0 ∨ b = w.heap.size := by
  obtain ⟨i0, hi0, hz0, hz1, hz2⟩ := info_parts info_u8
  have ht := Tryd.underlying22
  have hu := Tryd.underlying9
  have hsl : s.data.toList.length = s.size := by rw [Array.length_toList]; rfl
  rcases hown.2 with ⟨hv, hn0⟩ | ⟨g, cap, cur, hv, _, hg, hnc, hcm, hcs, htake⟩
  · injection hv with e1 _ e3
    subst e1 e3
    obtain rfl := List.eq_nil_of_length_eq_zero hn0
    by_cases h0 : s.size = 0
    · have hd : s.data.toList = [] := List.eq_nil_of_length_eq_zero (by omega)
      have hf := Lib.run_firstCells_string (P := Tryd.prog) w 1 s
      rw [h0] at hf
      have hcz : Lib.strCells s = [] := by rw [strCells_B, hd]; rfl
      rw [hcz] at hf
      refine ⟨none, 0, w, ?_, by rw [hd]; exact OwnB.nil w, Touch.refl _ _, fun b hb => .inl hb⟩
      simp [Builtin.append_, run_underlying ht, run_underlying hu, sizeOf, typeInfo, hi0, hz1, Builtin.lenOf, h0, hf]
    · have hr := run_append_nil_string (P := Tryd.prog) w 22 9 ty 5 i0 (.int .u8 0) ht hu hi0 hz0 s (by omega) (by omega) (by rw [hz2]; simp at hb; omega)
      have hge := grownCap_ge w s.size 0 5
      have hle := grownCap_le_maxLen w s.size 0 5 (by simp only [maxLen]; simp at hb; omega)
      have hmade := OwnB.made w.drew s.data.toList s.size (grownCap w s.size 0 5) (Builtin.zeroCells (Value.int .u8 0).cells (grownCap w s.size 0 5 - s.size)) hsl hge hle (by rw [size_zeroCells]; simp [Value.cells])
      have hcs : (s.data.map (fun b => Value.int .u8 b.toNat)) = (s.data.toList.map B).toArray := by
        apply Array.ext'
        simp [B]
      rw [hcs] at hr
      refine ⟨some ⟨w.heap.size, 0, none⟩, grownCap w s.size 0 5, _, ?_, hmade, ⟨rfl, rfl, rfl, by simp, fun k hk _ => Below.heap_alloc w.drew _ k hk⟩, fun b hb => .inr (by simpa [fpo] using hb)⟩
      simpa using hr
  · injection hv with e1 _ e3
    subst e1 e3
    have hcs' : cur.size = c0 := by simpa using hcs
    by_cases hroom : l.length + s.size ≤ c0
    · have hr := Lib.run_append_room_string (P := Tryd.prog) w 22 9 ty 5 i0 ht hu hi0 hz1 g l.length c0 cur hg s hroom (by omega)
      refine ⟨some ⟨g, 0, none⟩, c0, _, hr, ⟨by simp, .inr ⟨g, c0, _, ?_, Nat.zero_le _, setRow_heap w g cur _ 5 _ hg, ?_, hcm, ?_, ?_⟩⟩, ⟨rfl, rfl, rfl, by simp, fun k _ hk => setRow_other w g k _ (fun e => hk (by simp [fpo, e]))⟩, fun b hb => .inl hb⟩
      · rw [List.length_append, hsl]
      · rw [List.length_append, hsl]; exact hroom
      · simp only [List.size_toArray, List.length_append, List.length_take, List.length_drop, Array.length_toList, Lib.strCells_length]
        clear hcm; omega
      · have ht' : cur.toList.take l.length = l.map B := by simpa using htake
        rw [ht', strCells_B]
        have : (l.map B ++ s.data.toList.map B).length = (l ++ s.data.toList).length * 1 := by simp
        rw [← this, List.map_append]
        exact List.take_left
    · have holds : ∀ j u, (l.map B)[j]? = some u → w.cell? ((⟨g, 0, none⟩ : Addr).add j) = some u := World.ownsRow.cells hown (g := g) rfl
      have hr := Lib.run_append_grow_string (P := Tryd.prog) w 22 9 ty 5 i0 (.int .u8 0) ht hu hi0 hz0 ⟨g, 0, none⟩ l.length c0 (l.map B) (by rw [hz1]; simp) holds s (by omega) (by omega) (by rw [hz2]; exact growslice_fits (by omega) (by omega))
      have hge := grownCap_ge w (l.length + s.size) c0 5
      have hle := grownCap_le_maxLen w (l.length + s.size) c0 5 (by simp only [maxLen]; omega)
      have hmade := OwnB.made w.drew (l ++ s.data.toList) (l.length + s.size) (grownCap w (l.length + s.size) c0 5) (Builtin.zeroCells (Value.int .u8 0).cells (grownCap w (l.length + s.size) c0 5 - (l.length + s.size))) (by rw [List.length_append, hsl]) hge hle (by rw [size_zeroCells]; simp [Value.cells])
      have e : (l.map B).toArray ++ (Lib.strCells s).toArray = ((l ++ s.data.toList).map B).toArray := by
        rw [strCells_B]; simp
      rw [e] at hr
      exact ⟨some ⟨w.heap.size, 0, none⟩, grownCap w (l.length + s.size) c0 5, _, hr, hmade, ⟨rfl, rfl, rfl, by simp, fun k hk _ => Below.heap_alloc w.drew _ k hk⟩, fun b hb => .inr (by simpa [fpo] using hb)⟩

theorem wpList_appStr {w : World} {ops : Array Oper} {rest : List Oper} {o : Oper} {a : Act} {Q : Exit → Act → World → Prop} (hgd : o.guard = none) (s x : Operand)
    (ho : o.op = .call { callee := .builtin .append, args := #[s, x], argTypes := #[22, 9] })
    (A0 : Option Addr) (n c0 : Nat) (l : List UInt8) (hn : l.length = n) (hs : a.eval s = .slice A0 n c0) (hown : OwnB w A0 c0 l)
    (t : ByteArray) (hx : a.eval x = .string t) (hbytes : n + t.size ≤ 140737488355328)
    (h : ∀ A' c' w', OwnB w' A' c' (l ++ t.data.toList) → Touch (fpo A0) w w' → (∀ b ∈ fpo A', b ∈ fpo A0 ∨ b = w.heap.size) → wpList Tryd.prog ops Q rest (a.put o.dst (.slice A' (n + t.size) c')) w') :
    wpList Tryd.prog ops Q (o :: rest) a w := by
  subst hn
  refine wpList_plain hgd fun _ hK => ?_
  obtain ⟨A', c', w', hrun, h2, h3, h4⟩ := run_appStr A0 c0 l w hown t hbytes o.type
  unfold Oper.wp execOp
  simp only [ho, resolve, invoke, builtin, Sem.run_bind, Sem.run_pure, Result.andThen_ok, List.map_toArray, List.map_cons, List.map_nil, hs, hx, hrun]
  exact hK _ _ (h A' c' w' h2 h3 h4)
end Go.Proofs.YtlcpljpeljoboaaDoor

/- bywashref07.Int: a number's bytes, as the document says. For every number. -/
namespace Go.Proofs.YtlcpljpeljoboaaDoor
open Go.RowKit

theorem OwnB.one' (w : World) (x : UInt8) {z : Int} (h : z = x.toNat) : OwnB (w.alloc (.cells #[.int .u8 z] 5)) (some ⟨w.heap.size, 0, none⟩) 1 [x] := by
  subst h; exact OwnB.new w [x] (by simp [maxLen])

set_option maxHeartbeats 800000 in
theorem refInt_any (n : Int) (h1 : -9223372036854775808 ≤ n) (h2 : n ≤ 9223372036854775807) (w : World) :
    Calls Tryd.prog 44 #[.int .i64 n] w fun e w' => ∃ A c, e = .returned (.slice A (encI n).length c) ∧ OwnB w' A c (encI n) ∧ Touch [] w w' ∧ (∀ b ∈ fpo A, w.heap.size ≤ b) := by
  go_enter Tryd.func44, Tryd.ntmps44
  by_cases hn : n < 0
  · skip
    obtain ⟨M, hM⟩ : ∃ M : Nat, (-1 - n : Int) = (M : Int) := ⟨(-1 - n).toNat, by omega⟩
    have henc := Lib.hid (encI_neg hn hM)
    have hMl : M < 9223372036854775808 := by omega
    have hl8 := le_length 8 M
    go_wp2
    clear hM
    go_loopw [0, 4] (fun n out wr => ∃ k A c, k ≤ 8 ∧ n = .int .i64 (M / 256 ^ k : Nat) ∧ out = .slice A k c ∧ OwnB wr A c (digs M k) ∧ Touch [] w wr ∧ (∀ b ∈ fpo A, w.heap.size ≤ b) ∧ ∀ j, j < k → 0 < M / 256 ^ j)
      (fun _ out _ => match out with | .slice _ k _ => 9 - k | _ => 0)
    case atStart => exact ⟨0, none, 0, by omega, by simp, rfl, OwnB.nil _, Touch.refl _ _, by simp [fpo], by omega⟩
    case round =>
      obtain ⟨k, A, c, hk, rfl, rfl, hown, ht, hfp, hj⟩ := hrel
      obtain ⟨q, hq⟩ : ∃ q, q = M / 256 ^ k := ⟨_, rfl⟩
      have hql : q < 9223372036854775808 := hq ▸ Nat.lt_of_le_of_lt (Nat.div_le_self _ _) hMl
      rw [← hq]
      have h8 : k = 8 → q = 0 := by rintro rfl; rw [hq]; exact Nat.div_eq_of_lt (by simp; omega)
      have H8 := Lib.hid h8; clear h8
      have Hq := Lib.hid hq; clear hq
      have hx : (q : Int) % 256 = ((UInt8.ofNat q).toNat : Int) := by simp
      have Hx := Lib.hid hx; clear hx
      by_cases hq0 : 0 < q
      · have hk8 : k < 8 := by
          rcases Nat.lt_or_ge k 8 with h | h
          · exact h
          · have := H8.out (by omega); omega
        go_wp2_with (at_builtin; refine wpList_appB rfl (.tmp 11) (.tmp 15) rfl A k c (digs M k) (digs_length M k) rfl (hown.touch0 ((Touch.refl _ _).alloc _)) (some ⟨wr.heap.size, 0, none⟩) 1 1 [UInt8.ofNat q] rfl rfl (RdB.one' _ _ Hx.out) (by omega) ?_; intro A1 c1 w1 hown1 ht1 hfp1)
        go_roundw
        case rel => exact ⟨k + 1, A1, c1, by omega, by rw [Nat.pow_succ, ← Nat.div_div_eq_div_mul, ← Hq.out]; go_num, rfl, by rw [digs_snoc, ← Hq.out]; exact hown1,
          (ht.alloc _).trans ht1 (fun b hb => .inr (hfp b hb)), fun b hb => (by
            rcases hfp1 b hb with h | h
            · exact hfp b h
            · have := ht.size; simp at h; omega), fun j hj' => (by
            rcases Nat.lt_or_ge j k with h | h
            · exact hj j h
            · obtain rfl : j = k := by omega
              rw [← Hq.out]; exact hq0)⟩
        case measure => simp; omega
      · obtain rfl : q = 0 := by omega
        have hle : digs M k = le 8 M := digs_le 8 k M hk Hq.out.symm hj
        rw [hle] at hown
        have hkl : k = (le 8 M).length := by rw [← hle, digs_length]
        subst hkl
        have hz : ((16 + ((le 8 M).length : Int))) = (UInt8.ofNat ((le 8 M).length + 16)).toNat := by simp; omega
        have Hz := Lib.hid hz; clear hz
        have hlw := hown.lt
        go_wp2_with (at_builtin; refine wpList_appB rfl (.tmp 24) (.tmp 25) rfl (some ⟨wr.heap.size, 0, none⟩) 1 1 [(UInt8.ofNat ((le 8 M).length + 16))] rfl rfl (OwnB.one' _ _ Hz.out) A (le 8 M).length c (le 8 M) rfl rfl (hown.rd.touch0 ((Touch.refl _ _).alloc _)) (by omega) ?_; intro A1 c1 w1 hown1 ht1 hfp1)
        go_ret
        refine ⟨A1, c1, ?_, ?_, ?_, ?_⟩
        · rw [henc.out]; exact ret_slice (by simp; omega)
        · rw [henc.out]; exact hown1
        · exact (ht.alloc _).trans ht1 (fun b hb => .inr (by have := ht.size; simp [fpo] at hb; omega))
        · intro b hb
          have := ht.size
          rcases hfp1 b hb with h | h
          · simp [fpo] at h; omega
          · simp at h; omega
  · skip
    obtain ⟨M, rfl⟩ : ∃ M : Nat, n = (M : Int) := ⟨n.toNat, by omega⟩
    have henc := Lib.hid (encI_pos (M := M))
    have hMl : M < 9223372036854775808 := by omega
    have hl8 := le_length 8 M
    go_wp2
    go_loopw [0, 4] (fun n out wr => ∃ k A c, k ≤ 8 ∧ n = .int .i64 (M / 256 ^ k : Nat) ∧ out = .slice A k c ∧ OwnB wr A c (digs M k) ∧ Touch [] w wr ∧ (∀ b ∈ fpo A, w.heap.size ≤ b) ∧ ∀ j, j < k → 0 < M / 256 ^ j)
      (fun _ out _ => match out with | .slice _ k _ => 9 - k | _ => 0)
    case atStart => exact ⟨0, none, 0, by omega, by simp, rfl, OwnB.nil _, Touch.refl _ _, by simp [fpo], by omega⟩
    case round =>
      obtain ⟨k, A, c, hk, rfl, rfl, hown, ht, hfp, hj⟩ := hrel
      obtain ⟨q, hq⟩ : ∃ q, q = M / 256 ^ k := ⟨_, rfl⟩
      have hql : q < 9223372036854775808 := hq ▸ Nat.lt_of_le_of_lt (Nat.div_le_self _ _) hMl
      rw [← hq]
      have h8 : k = 8 → q = 0 := by rintro rfl; rw [hq]; exact Nat.div_eq_of_lt (by simp; omega)
      have H8 := Lib.hid h8; clear h8
      have Hq := Lib.hid hq; clear hq
      have hx : (q : Int) % 256 = ((UInt8.ofNat q).toNat : Int) := by simp
      have Hx := Lib.hid hx; clear hx
      by_cases hq0 : 0 < q
      · have hk8 : k < 8 := by
          rcases Nat.lt_or_ge k 8 with h | h
          · exact h
          · have := H8.out (by omega); omega
        go_wp2_with (at_builtin; refine wpList_appB rfl (.tmp 11) (.tmp 15) rfl A k c (digs M k) (digs_length M k) rfl (hown.touch0 ((Touch.refl _ _).alloc _)) (some ⟨wr.heap.size, 0, none⟩) 1 1 [UInt8.ofNat q] rfl rfl (RdB.one' _ _ Hx.out) (by omega) ?_; intro A1 c1 w1 hown1 ht1 hfp1)
        go_roundw
        case rel => exact ⟨k + 1, A1, c1, by omega, by rw [Nat.pow_succ, ← Nat.div_div_eq_div_mul, ← Hq.out]; go_num, rfl, by rw [digs_snoc, ← Hq.out]; exact hown1,
          (ht.alloc _).trans ht1 (fun b hb => .inr (hfp b hb)), fun b hb => (by
            rcases hfp1 b hb with h | h
            · exact hfp b h
            · have := ht.size; simp at h; omega), fun j hj' => (by
            rcases Nat.lt_or_ge j k with h | h
            · exact hj j h
            · obtain rfl : j = k := by omega
              rw [← Hq.out]; exact hq0)⟩
        case measure => simp; omega
      · obtain rfl : q = 0 := by omega
        have hle : digs M k = le 8 M := digs_le 8 k M hk Hq.out.symm hj
        rw [hle] at hown
        have hkl : k = (le 8 M).length := by rw [← hle, digs_length]
        subst hkl
        have hz : (((le 8 M).length : Int)) = (UInt8.ofNat ((le 8 M).length)).toNat := by simp; omega
        have Hz := Lib.hid hz; clear hz
        have hlw := hown.lt
        go_wp2_with (at_builtin; refine wpList_appB rfl (.tmp 24) (.tmp 25) rfl (some ⟨wr.heap.size, 0, none⟩) 1 1 [(UInt8.ofNat ((le 8 M).length))] rfl rfl (OwnB.one' _ _ Hz.out) A (le 8 M).length c (le 8 M) rfl rfl (hown.rd.touch0 ((Touch.refl _ _).alloc _)) (by omega) ?_; intro A1 c1 w1 hown1 ht1 hfp1)
        go_ret
        refine ⟨A1, c1, ?_, ?_, ?_, ?_⟩
        · rw [henc.out]; exact ret_slice (by simp; omega)
        · rw [henc.out]; exact hown1
        · exact (ht.alloc _).trans ht1 (fun b hb => .inr (by have := ht.size; simp [fpo] at hb; omega))
        · intro b hb
          have := ht.size
          rcases hfp1 b hb with h | h
          · simp [fpo] at h; omega
          · simp at h; omega
end Go.Proofs.YtlcpljpeljoboaaDoor

/- Texts, bytes of texts: what all layers share. No condition. -/
namespace Go.Proofs.YtlcpljpeljoboaaDoor
open Go.RowKit

theorem S_inj {a b : List UInt8} (h : S a = S b) : a = b := by
  have := congrArg (fun x : ByteArray => x.data.toList) h
  simpa [S] using this
theorem S_eq (a b : List UInt8) : (S a = S b) = (a = b) := propext ⟨S_inj, fun h => by rw [h]⟩

theorem S_list (a : List UInt8) : (S a).toList = a := by rw [ByteArray.toList_eq]; simp [S]
theorem S_beq (a b : List UInt8) : ((S a).toList == (S b).toList) = decide (a = b) := by
  rw [S_list, S_list, Bool.eq_iff_iff]; simp
theorem S_bne (a b : List UInt8) : (!(S a).toList == (S b).toList) = !decide (a = b) := by
  rw [S_beq]

theorem S_size (s : List UInt8) : (S s).size = s.length := by simp [S, ByteArray.size]
theorem S_toList (s : List UInt8) : (S s).data.toList = s := by simp [S]
/-- []byte(s) -/
theorem run_bytes_of (s : List UInt8) (W : World) : (convert 9 22 (.string (S s))).run Tryd.prog W = .ok (.slice (some ⟨W.heap.size, 0, none⟩) s.length (grownCap W s.length 0 5)) (Lib.bytesWorld W 5 (S s)) := by
  have := Lib.run_convert_string_bytes (P := Tryd.prog) W 9 22 5 (S s) Tryd.underlying9 Tryd.underlying22 Tryd.underlying5
  rw [S_size] at this
  exact this
theorem touch_bytes (W : World) (s : List UInt8) : Touch [] W (Lib.bytesWorld W 5 (S s)) :=
  ⟨rfl, rfl, rfl, by rw [Lib.bytesWorld_size]; omega, fun k hk _ => Lib.bytesWorld_at_old W _ _ k hk⟩
theorem rd_bytes (W : World) (s : List UInt8) : RdB (Lib.bytesWorld W 5 (S s)) (some ⟨W.heap.size, 0, none⟩) s := fun _ =>
  ⟨_, rfl, fun j u hu => by
    have hadd : (⟨W.heap.size, 0, none⟩ : Addr).add j = ⟨W.heap.size, j, none⟩ := by unfold Addr.add; split <;> simp_all
    have hj : j < s.length := by have := (List.getElem?_eq_some_iff.1 hu).1; simpa using this
    rw [hadd, Lib.bytesWorld_cell _ _ _ j (by rw [S_size]; exact hj), S_toList]
    simp only [List.getElem?_map, List.getElem?_eq_getElem hj, Option.map_some, Option.some.injEq] at hu
    rw [← hu]
    simp [List.getD, hj, B]⟩

theorem size_toList (s : ByteArray) : s.data.toList.length = s.size := by rw [Array.length_toList]; rfl
theorem cell_blk {w : World} {g i : Nat} {cs : Array Value} {t : TypeId} {v : Value} (h : w.heap[g]? = some (.cells cs t (0, 0))) (hv : cs[i]? = some v) : w.cell? ⟨g, i, none⟩ = some v := by
  rw [cell_of_row w g i cs t (0, 0) h]; exact hv

theorem set_blk {w : World} {g : Nat} {cs : Array Value} {t : TypeId} (h : w.heap[g]? = some (.cells cs t (0, 0))) (i : Nat) (u : Value) :
    (w.setCell ⟨g, i, none⟩ u).heap[g]? = some (.cells (cs.setIfInBounds i u) t (0, 0)) := by
  simp [World.setCell, Array.getElem?_modify, h]

theorem S_of (s : ByteArray) : S s.data.toList = s := by cases s; simp [S]
theorem toList_B (x : ByteArray) : x.toList = x.data.toList := ByteArray.toList_eq x
theorem bs_eq {x y : ByteArray} (h : x.data.toList = y.data.toList) : x = y := by rw [← S_of x, ← S_of y, h]
theorem bs_beq (x y : ByteArray) : (x.toList == y.toList) = decide (x = y) := by
  rw [toList_B, toList_B, Bool.eq_iff_iff]
  simp only [beq_iff_eq, decide_eq_true_eq]
  exact ⟨bs_eq, fun h => by rw [h]⟩

end Go.Proofs.YtlcpljpeljoboaaDoor

/- frame.Out.Text, bywashref07.Text: a text's bytes. For every text. -/
namespace Go.Proofs.YtlcpljpeljoboaaDoor
open Go.RowKit

/-- a text's bytes -/
def encT (s : ByteArray) : List UInt8 := encI s.size ++ s.data.toList
theorem encI_length (n : Int) : 1 ≤ (encI n).length ∧ (encI n).length ≤ 9 := by
  unfold encI
  have := le_length 8 (if n < 0 then (-1 - n).toNat else n.toNat)
  simp; omega
theorem encT_length (s : ByteArray) : (encT s).length = (encI s.size).length + s.size := by
  unfold encT; rw [List.length_append, size_toList]

set_option maxHeartbeats 400000 in
theorem refText_any (s : ByteArray) (hs : s.size ≤ 140737488000000) (w : World) :
    Calls Tryd.prog 45 #[.string s] w fun e w' => ∃ A c, e = .returned (.slice A (encT s).length c) ∧ OwnB w' A c (encT s) ∧ Touch [] w w' ∧ (∀ b ∈ fpo A, w.heap.size ≤ b) := by
  go_enter Tryd.func45, Tryd.ntmps45
  have hL := encI_length s.size
  have hT := encT_length s
  go_wp2_with fail
  refine (refInt_any s.size (by omega) (by omega) w).mono ?_
  rintro e w1 ⟨A1, c1, rfl, hown1, ht1, hf1⟩
  have Hd := Lib.hid (show encT s = encI s.size ++ s.data.toList from rfl)
  go_wp2_with (at_builtin; refine stop ?_)
  refine go ?_
  refine wpList_appStr rfl (.tmp 5) (.tmp 6) rfl A1 (encI s.size).length c1 (encI s.size) rfl rfl hown1 s rfl (by omega) ?_
  intro A2 c2 w2 hown2 ht2 hf2
  go_wp2_with fail
  go_ret
  refine ⟨A2, c2, ret_slice hT.symm, hown2, ht1.trans ht2 (fun b hb => .inr (hf1 b hb)), fun b hb => ?_⟩
  have := ht1.size
  rcases hf2 b hb with h | h
  · exact hf1 b h
  · omega

set_option maxHeartbeats 400000 in
theorem outText_any (g : Nat) (A : Option Addr) (l : List UInt8) (s : ByteArray) (hl : l.length + s.size ≤ 140737487900000) (w : World) (ho : OutAt w g A l) :
    Calls Tryd.prog 61 #[.pointer (some ⟨g, 0, none⟩), .string s] w fun e w' => e = .returned (.pointer (some ⟨g, 0, none⟩)) ∧ OutPost g A (l ++ encT s) w w' := by
  go_enter Tryd.func61, Tryd.ntmps61
  have hL := encI_length s.size
  have hT := encT_length s
  have hgl : g < w.heap.size := by obtain ⟨c, hg, _⟩ := ho; exact lt_of_block hg
  go_wp2_with fail
  refine (outInt_any g A l s.size (by omega) (by omega) (by omega) w ho).mono ?_
  rintro e w1 ⟨rfl, A1, ⟨c1, hg1, hown1, hgA1⟩, ht1, hf1⟩
  have hcell1 := cell_of_one hg1
  have hfree1 := free_of_one hg1
  have hlen1 : (l ++ encI s.size).length = l.length + (encI s.size).length := by simp
  go_wp2_with (at_builtin; refine stop ?_)
  refine go ?_
  refine wpList_appStr rfl (.tmp 13) (.tmp 14) rfl A1 (l.length + (encI s.size).length) c1 (l ++ encI s.size) hlen1 rfl hown1 s rfl (by omega) ?_
  intro A2 c2 w2 hown2 ht2 hf2
  obtain ⟨hg3, hown3, hgA3, ht3, hcell3, hfree3⟩ := outStep hg1 hgA1 (l.length + (encI s.size).length + s.size) (by rw [List.length_append, size_toList, hlen1]) hown2 ht2 hf2
  have hs1 := ht1.size
  go_wp2_with fail
  go_ret
  have he : l ++ encT s = (l ++ encI s.size) ++ s.data.toList := by unfold encT; rw [List.append_assoc]
  refine ⟨rfl, A2, ⟨c2, ?_, ?_, hgA3⟩, ht1.trans ht3 (fun b hb => ?_), fun b hb => ?_⟩
  · rw [he]; exact hg3
  · rw [he]; exact hown3
  · rcases List.mem_cons.1 hb with h | h
    · exact .inl (by simp [h])
    · rcases hf1 b h with h' | h'
      · exact .inl (by simp [h'])
      · exact .inr h'
  · rcases hf2 b hb with h | h
    · exact hf1 b h
    · exact .inr (by omega)
end Go.Proofs.YtlcpljpeljoboaaDoor

/- bytes.Clone: a copy of its own. For every slice of bytes. -/
namespace Go.Proofs.YtlcpljpeljoboaaDoor
open Go.RowKit

def CloneAt (l : List UInt8) (w w' : World) (A : Option Addr) (c : Nat) : Prop := OwnB w' A c l ∧ Touch [] w w' ∧ ∀ b ∈ fpo A, w.heap.size ≤ b

set_option maxHeartbeats 400000 in
theorem clone_any (A : Option Addr) (c : Nat) (l : List UInt8) (w : World) (h : RdB w A l) (hl : l.length ≤ 140737488000000) :
    Calls Tryd.prog 43 #[.slice A l.length c] w fun e w' => ∃ A' c', e = .returned (.slice A' l.length c') ∧ CloneAt l w w' A' c' := by
  go_enter Tryd.func43, Tryd.ntmps43
  rcases A with _ | ad
  · have h0 : l = [] := by
      rcases List.eq_nil_or_concat l with h0 | ⟨m, b, h0⟩
      · exact h0
      · obtain ⟨_, hx, _⟩ := h (by subst h0; simp)
        cases hx
    subst h0
    clear hl h
    have hnil : (binOp .eql 22 (.slice none 0 c) (.slice none 0 0)).run Tryd.prog w = .ok (.bool true) w := Lib.run_eql_slice_nil (P := Tryd.prog) w 22 5 none 0 c 0 0 Tryd.underlying22
    go_wp2
    go_ret
    exact ⟨none, 0, rfl, OwnB.nil _, Touch.refl _ _, by simp [fpo]⟩
  · have hnil : (binOp .eql 22 (.slice (some ad) l.length c) (.slice none 0 0)).run Tryd.prog w = .ok (.bool false) w := Lib.run_eql_slice_nil (P := Tryd.prog) w 22 5 (some ad) l.length c 0 0 Tryd.underlying22
    go_wp2_with (at_builtin; refine wpList_appB rfl (.tmp 5) (.tmp 6) rfl (some ⟨w.heap.size, 0, none⟩) 0 0 [] rfl rfl (OwnB.empty_new w) (some ad) l.length c l rfl rfl (h.touch0 ((Touch.refl [] w).alloc _)) (by omega) ?_; intro A1 c1 w1 hown1 ht1 hf1)
    go_ret
    exact ⟨A1, c1, ret_slice (by simp), hown1, ((Touch.refl [] w).alloc _).trans ht1 (by simp [fpo]), fun b hb => by
      rcases hf1 b hb with h | h
      · simp [fpo] at h; omega
      · simp at h; omega⟩
theorem clone_len (A : Option Addr) (n c : Nat) (l : List UInt8) (hn : l.length = n) (w : World) (h : RdB w A l) (hl : n ≤ 140737488000000) :
    Calls Tryd.prog 43 #[.slice A n c] w fun e w' => ∃ A' c', e = .returned (.slice A' n c') ∧ CloneAt l w w' A' c' := by
  subst hn
  exact clone_any A c l w h hl
theorem RdB.take {w : World} {A : Option Addr} {l : List UInt8} (h : RdB w A l) (k : Nat) : RdB w A (l.take k) := by
  have := Rd.cut h (A' := A) (k := 0) (n := k) (fun ad e _ => by rw [e]; simp [Addr.add])
  unfold RdB
  rw [List.map_take]
  simpa using this
end Go.Proofs.YtlcpljpeljoboaaDoor

/- frame.In: NewIn, take, Done, Bad. -/
namespace Go.Proofs.YtlcpljpeljoboaaDoor
open Go.RowKit

/-- what an In holds: the bytes that are left, and whether it is bad -/
structure InAt (w : World) (g : Nat) (A : Option Addr) (l : List UInt8) (bad : Bool) : Prop where
  blk : ∃ c, l.length ≤ c ∧ w.heap[g]? = some (.cells #[.slice A l.length c, .bool bad] 108 (0, 0))
  rd : RdB w A l
  ne : g ∉ fpo A
  sm : l.length ≤ 140737488000000

theorem InAt.touch {w w' : World} {g : Nat} {A : Option Addr} {l : List UInt8} {bad : Bool} {fp : List Nat} (h : InAt w g A l bad) (ht : Touch fp w w') (hg : g ∉ fp) (hA : ∀ b ∈ fpo A, b ∉ fp) : InAt w' g A l bad := by
  obtain ⟨⟨c, hc, hb⟩, hr, hn, hs⟩ := h
  exact ⟨⟨c, hc, ht.blk hb hg⟩, hr.touch ht hA, hn, hs⟩

/-- the outcome of a call that reads on -/
def InPost (g : Nat) (A : Option Addr) (l : List UInt8) (bad : Bool) (w w' : World) : Prop :=
  ∃ A', InAt w' g A' l bad ∧ Touch [g] w w' ∧ ∀ b ∈ fpo A', b ∈ fpo A

theorem InAt.mk' {w : World} {g : Nat} {A : Option Addr} {l : List UInt8} {bad : Bool} (hi : InAt w g A l bad) : ∃ c, l.length ≤ c ∧ w.heap[g]? = some (.cells #[.slice A l.length c, .bool bad] 108 (0, 0)) ∧
    g < w.heap.size ∧ w.cell? ⟨g, 0, none⟩ = some (.slice A l.length c) ∧ w.cell? ⟨g, 1, none⟩ = some (.bool bad) ∧ w.frozen? ⟨g, 0, none⟩ = false ∧ w.frozen? ⟨g, 1, none⟩ = false := by
  obtain ⟨⟨c, hc, hg⟩, hr, hne, hsm⟩ := hi
  exact ⟨c, hc, hg, lt_of_block hg, by rw [cell_of_row _ _ _ _ _ _ hg]; rfl, by rw [cell_of_row _ _ _ _ _ _ hg]; rfl, by simp [World.frozen?, hg], by simp [World.frozen?, hg]⟩

theorem InAt.spoil {w : World} {g : Nat} {A : Option Addr} {l : List UInt8} {bad : Bool} (hi : InAt w g A l bad) : InPost g A l true w (w.setCell ⟨g, 1, none⟩ (.bool true)) := by
  obtain ⟨⟨c, hc, hg⟩, hr, hne, hsm⟩ := hi
  have T1 := (Touch.refl [g] w).setCell (p := ⟨g, 1, none⟩) (.inl (by simp)) (.bool true)
  exact ⟨A, ⟨⟨c, hc, heap_setCell_same w g 1 _ _ _ hg⟩, hr.touch T1 (fun b hb hm => hne ((by simpa using hm : b = g) ▸ hb)), hne, hsm⟩, T1, fun b hb => hb⟩

theorem RdB.pre {w : World} {A : Option Addr} {l : List UInt8} (h : RdB w A l) (k : Nat) : RdB w A (l.take k) := by
  have := Rd.cut h (A' := A) (k := 0) (n := k) (fun ad e _ => by rw [e]; simp [Addr.add])
  unfold RdB
  rw [List.map_take]
  simpa using this
theorem RdB.drop {w : World} {A : Option Addr} {l : List UInt8} (h : RdB w A l) (k : Nat) : RdB w (A.map (fun x => x.add k)) (l.drop k) := by
  have := Rd.cut h (A' := A.map (fun x => x.add k)) (k := k) (n := l.length) (fun ad e _ => by rw [e]; rfl)
  unfold RdB
  rw [List.map_drop]
  rwa [List.take_of_length_le (by simp)] at this

theorem InAt.on {w : World} {g : Nat} {A : Option Addr} {l : List UInt8} {c : Nat} (hi : InAt w g A l false) (hg : w.heap[g]? = some (.cells #[.slice A l.length c, .bool false] 108 (0, 0))) (k n m : Nat) (A' : Option Addr)
    (hk : k ≤ l.length) (hn : n = l.length - k) (hm : n ≤ m) (hA : A' = A.map (fun x => x.add k) ∨ n = 0 ∧ (A' = A ∨ A' = none)) : InPost g A (l.drop k) false w (w.setCell ⟨g, 0, none⟩ (.slice A' n m)) := by
  obtain ⟨_, hr, hne, hsm⟩ := hi
  have T1 := (Touch.refl [g] w).setCell (p := ⟨g, 0, none⟩) (.inl (by simp)) (.slice A' n m)
  have hl : (l.drop k).length = n := by simp [hn]
  have hf : ∀ b ∈ fpo A', b ∈ fpo A := by
    rcases hA with rfl | ⟨_, rfl | rfl⟩
    · cases A with
      | none => simp [fpo]
      | some ad => simp [fpo, block_of_add]
    · exact fun _ h => h
    · simp [fpo]
  have hr' : RdB w A' (l.drop k) := by
    rcases hA with rfl | ⟨h0, _⟩
    · exact hr.drop k
    · rw [List.eq_nil_of_length_eq_zero (hl.trans h0)]; exact Rd.nil _ _
  refine ⟨A', ⟨⟨m, by omega, ?_⟩, hr'.touch T1 (fun b hb hm => hne ((by simpa using hm : b = g) ▸ hf b hb)), fun h => hne (hf _ h), by omega⟩, T1, hf⟩
  rw [hl]
  exact heap_setCell_same w g 0 _ _ _ hg

set_option maxHeartbeats 400000 in
theorem take_no (g : Nat) (A : Option Addr) (l : List UInt8) (bad : Bool) (n : Int) (h1 : -9223372036854775808 ≤ n) (h2 : n ≤ 9223372036854775807) (w : World) (hi : InAt w g A l bad) (hno : bad = true ∨ n < 0 ∨ l.length < n) :
    Calls Tryd.prog 66 #[.pointer (some ⟨g, 0, none⟩), .int .i64 n] w fun e w' => e = .returned (.slice none 0 0) ∧ InPost g A l true w w' := by
  obtain ⟨c, hc, hg, hgl, hc0, hc1, hfr, hfr1⟩ := hi.mk'
  have P1 := hi.spoil
  have hsm := hi.sm
  clear hi hg
  go_enter Tryd.func66, Tryd.ntmps66
  cases bad
  · by_cases hn : n < 0
    · go_wp2
      go_ret
      exact ⟨rfl, P1⟩
    · obtain ⟨k, rfl⟩ : ∃ k : Nat, n = (k : Int) := ⟨n.toNat, by omega⟩
      have hk : ¬ k ≤ l.length := by rcases hno with h | h | h <;> first | cases h | omega
      clear hno
      go_wp2
      go_ret
      exact ⟨rfl, P1⟩
  · go_wp2
    go_ret
    exact ⟨rfl, P1⟩

set_option maxHeartbeats 400000 in
theorem take_ok (g : Nat) (A : Option Addr) (l : List UInt8) (k : Nat) (hk : k ≤ l.length) (w : World) (hi : InAt w g A l false) :
    Calls Tryd.prog 66 #[.pointer (some ⟨g, 0, none⟩), .int .i64 k] w fun e w' => (∃ A0, e = .returned (.slice A0 k k) ∧ RdB w A0 (l.take k) ∧ (∀ b ∈ fpo A0, b ∈ fpo A)) ∧ InPost g A (l.drop k) false w w' := by
  obtain ⟨c, hc, hg, hgl, hc0, hc1, hfr, hfr1⟩ := hi.mk'
  have P1 := fun k n m A' => hi.on hg k n m A'
  have hsm := hi.sm
  have hr := RdB.pre hi.rd k
  clear hi hg
  go_enter Tryd.func66, Tryd.ntmps66
  by_cases hck : c = k
  · subst hck
    go_wp2
    go_ret
    exact ⟨⟨A, rfl, hr, fun b hb => hb⟩, P1 c 0 0 A hk (by omega) (by omega) (.inr ⟨rfl, .inl rfl⟩)⟩
  · go_wp2
    go_ret
    exact ⟨⟨A, rfl, hr, fun b hb => hb⟩, P1 k _ _ _ hk rfl (by omega) (.inl rfl)⟩

theorem bad_any (g : Nat) (A : Option Addr) (l : List UInt8) (bad : Bool) (w : World) (hi : InAt w g A l bad) :
    Calls Tryd.prog 73 #[.pointer (some ⟨g, 0, none⟩)] w fun e w' => e = .returned (.bool bad) ∧ w' = w := by
  obtain ⟨c, hc, hg, hgl, hc0, hc1, hfr, hfr1⟩ := hi.mk'
  clear hi hg
  go_enter Tryd.func73, Tryd.ntmps73
  go_wp2
  go_ret
  exact ⟨rfl, rfl⟩

theorem done_any (g : Nat) (A : Option Addr) (l : List UInt8) (bad : Bool) (w : World) (hi : InAt w g A l bad) :
    Calls Tryd.prog 71 #[.pointer (some ⟨g, 0, none⟩)] w fun e w' => e = .returned (.bool (!bad && decide (l.length = 0))) ∧ w' = w := by
  obtain ⟨c, hc, hg, hgl, hc0, hc1, hfr, hfr1⟩ := hi.mk'
  have hsm := hi.sm
  clear hi hg
  go_enter Tryd.func71, Tryd.ntmps71
  have hd : ((l.length : Int) == 0) = decide (l.length = 0) := by rw [Bool.eq_iff_iff]; simp
  have Hd := Lib.hid hd; clear hd
  cases bad
  · go_wp2
    go_ret
    exact ⟨ret_bool Hd.out, rfl⟩
  · go_wp2
    go_ret
    exact ⟨rfl, rfl⟩

set_option maxHeartbeats 400000 in
theorem newIn_any (A : Option Addr) (n c : Nat) (l : List UInt8) (hn : l.length = n) (hl : n ≤ 140737488000000) (w : World) (h : RdB w A l) :
    Calls Tryd.prog 64 #[.slice A n c] w fun e w' => ∃ g A', e = .returned (.pointer (some ⟨g, 0, none⟩)) ∧ InAt w' g A' l false ∧ Touch [] w w' ∧ w.heap.size ≤ g ∧ ∀ b ∈ fpo A', w.heap.size ≤ b := by
  subst hn
  go_enter Tryd.func64, Tryd.ntmps64
  go_wp2_with (go_at_call 43; refine (clone_any A c l w h hl).mono ?_; rintro e w1 ⟨A1, c1, rfl, h1⟩)
  obtain ⟨hown1, ht1, hf1⟩ := h1
  go_ret
  exact ⟨w1.heap.size, A1, rfl, ⟨⟨c1, hown1.le, heap_alloc_new w1 _⟩, hown1.rd.touch0 ((Touch.refl [] w1).alloc _), fun hm => by have := hown1.lt _ hm; omega, hl⟩, ht1.alloc _, ht1.size, hf1⟩
end Go.Proofs.YtlcpljpeljoboaaDoor

/- slices.Backward over bytes: its contract, as an iterator that reads the slice between two rounds. -/
namespace Go.Proofs.YtlcpljpeljoboaaDoor
open Go.RowKit Go.Shelf

attribute [local go_sem] Oper.semAt_some

def upto {α : Type} (f : Nat → α) (k : Nat) : List α := (List.range k).map f
theorem upto_succ {α : Type} (f : Nat → α) (k : Nat) : upto f (k + 1) = upto f k ++ [f k] := by simp [upto, List.range_succ]
theorem upto_length {α : Type} (f : Nat → α) (k : Nat) : (upto f k).length = k := by simp [upto]

/-- what comes as the k-th: the last but k -/
def backAt (zs : List UInt8) (k : Nat) : Nat × UInt8 := (zs.length - 1 - k, zs[zs.length - 1 - k]?.getD 0)

/-- these blocks lie as they lay -/
def KpB (bs : List Nat) (W W' : World) : Prop := ∀ k ∈ bs, W'.heap[k]? = W.heap[k]?
theorem KpB.refl (bs : List Nat) (W : World) : KpB bs W W := fun _ _ => rfl
theorem KpB.trans {bs : List Nat} {A B C : World} (h : KpB bs A B) (k : KpB bs B C) : KpB bs A C := fun b hb => (k b hb).trans (h b hb)
theorem KpB.cell {bs : List Nat} {W W' : World} (h : KpB bs W W') {a : Addr} (hb : a.block ∈ bs) : W'.cell? a = W.cell? a := by
  unfold World.cell?; rw [h _ hb]
theorem KpB.put {bs : List Nat} {w : World} (hbs : ∀ k ∈ bs, k < w.heap.size) (W : World) (l : Nat) (o o' : Obj) (hl : w.heap.size ≤ l) (_ : W.heap[l]? = some o) (_ : o.isCells = false) (_ : o.isWalk = false) : KpB bs W (W.putObj l o') := fun k hk => by
  have := hbs k hk
  have hne : l ≠ k := by omega
  simp [World.putObj, hne]
theorem KpB.setCell {bs : List Nat} (W : World) (p : Addr) (u : Value) (hp : p.block ∉ bs) : KpB bs W (W.setCell p u) := fun k hk => Below.heap_setCell W p u k (fun e => hp (e ▸ hk))

set_option maxRecDepth 100000 in
set_option maxHeartbeats 2000000 in
theorem back1_in (F : Fence) (n : Nat) (h7 : F.fn 77) (hro : F.round = none) (hn : 1 ≤ n) (l Bs cap : Nat) (ad : Addr) (zs : List UInt8) (hreach : zs.length ≤ 140737488000000) (J Jx : List (Nat × UInt8) → World → Prop)
    (hY : ∀ pre x W, J pre W → pre.length < zs.length → YieldAt F (n - 1) Tryd.prog l #[.int .i64 (x.1 : Int), .int .u8 x.2.toNat] W fun e W' =>
      (e = .returned (.bool true) ∧ J (pre ++ [x]) W' ∧ KpB [Bs, ad.block] W W') ∨ (e = .returned (.bool false) ∧ Jx (pre ++ [x]) W'))
    (W : World) (hBs : W.cell? ⟨Bs, 0, none⟩ = some (.slice (some ad) zs.length cap)) (hc : ∀ j (h : j < zs.length), W.cell? (ad.add j) = some (.int .u8 zs[j].toNat)) (h0 : J [] W) :
    CallsIn F n Tryd.prog 77 #[.func (.yield l) #[] #[], .pointer (some ⟨Bs, 0, none⟩)] W fun e W' => (∃ v, e = .returned v) ∧
      ((∃ ys, ys = upto (backAt zs) zs.length ∧ J ys W') ∨ (∃ pre, (∃ k, k ≤ zs.length ∧ pre = upto (backAt zs) k) ∧ Jx pre W')) := by
  refine callsIn_of_wp Tryd.func77 rfl h7 ?_ hro
  simp only [Tryd.ntmps77, List.size_toArray, List.length_cons, List.length_nil, Nat.reduceAdd, Nat.reduceSub, Array.replicate_succ, Array.replicate_zero, List.push_toArray, List.append_toArray, List.nil_append, List.cons_append]
  gi_wp2
  gi_loopw [3] (fun i wr => ∃ m : Nat, m ≤ zs.length ∧ i = .int .i64 ((m : Int) - 1) ∧ J (upto (backAt zs) (zs.length - m)) wr ∧ KpB [Bs, ad.block] W wr)
    (fun i _ => (intOf i + 1).toNat)
  case atStart => exact ⟨zs.length, Nat.le_refl _, rfl, by rw [Nat.sub_self]; exact h0, KpB.refl _ _⟩
  case round =>
    obtain ⟨m, hm, rfl, hJs, hnx⟩ := hrel
    rcases m with _ | j
    · gi_wp2
      go_end0
      exact ⟨⟨_, rfl⟩, .inl ⟨_, rfl, by simpa using hJs⟩⟩
    · have e1 : ((j + 1 : Nat) : Int) - 1 = (j : Int) := by omega
      rw [e1]
      have hcx := (hnx.cell (a := ad.add j) (by simp [block_of_add])).trans (hc j (by omega))
      have hbx := (hnx.cell (a := ⟨Bs, 0, none⟩) (by simp)).trans hBs
      have hlen : (upto (backAt zs) (zs.length - (j + 1))).length < zs.length := by rw [upto_length]; omega
      obtain ⟨fn, tmps, assign, body, hy, hR⟩ := hY _ (backAt zs (zs.length - (j + 1))) wr hJs hlen
      have e2 : backAt zs (zs.length - (j + 1)) = (j, zs[j]) := by
        have : zs.length - 1 - (zs.length - (j + 1)) = j := by omega
        simp [backAt, this, List.getElem?_eq_getElem (show j < zs.length by omega)]
      have e3 : upto (backAt zs) (zs.length - (j + 1)) ++ [backAt zs (zs.length - (j + 1))] = upto (backAt zs) (zs.length - j) := by
        rw [← upto_succ]; congr 1; omega
      rw [e3] at hR
      rw [e2] at hy
      dsimp only at hy
      obtain ⟨x, hx⟩ : ∃ x, x = zs[j] := ⟨_, rfl⟩
      rw [← hx] at hy hcx
      have hx' := Lib.hid hx; clear hx
      clear e1 e2 e3 hlen
      gi_wp2
      refine hR.mono ?_
      rintro e W3 (⟨rfl, hJ3, hk3⟩ | ⟨rfl, hJx3⟩)
      · gi_wp2
        go_roundw
        case rel => exact ⟨j, by omega, rfl, hJ3, hnx.trans hk3⟩
        case measure => simp [intOf]
      · gi_wp2
        refine bodyPost_ret (results_none rfl _ _ _) rfl ?_
        exact ⟨⟨_, rfl⟩, .inr ⟨_, ⟨zs.length - j, by omega, rfl⟩, hJx3⟩⟩

set_option maxRecDepth 100000 in
set_option maxHeartbeats 1000000 in
theorem back1_nil_in (F : Fence) (n : Nat) (h7 : F.fn 77) (hro : F.round = none) (l Bs cap : Nat) (A : Option Addr) (J : List (Nat × UInt8) → World → Prop) (W : World) (hBs : W.cell? ⟨Bs, 0, none⟩ = some (.slice A 0 cap)) (h0 : J [] W) :
    CallsIn F n Tryd.prog 77 #[.func (.yield l) #[] #[], .pointer (some ⟨Bs, 0, none⟩)] W fun e W' => (∃ v, e = .returned v) ∧ J [] W' := by
  refine callsIn_of_wp Tryd.func77 rfl h7 ?_ hro
  simp only [Tryd.ntmps77, List.size_toArray, List.length_cons, List.length_nil, Nat.reduceAdd, Nat.reduceSub, Array.replicate_succ, Array.replicate_zero, List.push_toArray, List.append_toArray, List.nil_append, List.cons_append]
  gi_wp2
  gi_loopw [3] (fun i wr => i = .int .i64 (-1) ∧ J [] wr) (fun _ _ => 0)
  case atStart => exact ⟨rfl, h0⟩
  case round =>
    obtain ⟨rfl, hJs⟩ := hrel
    gi_wp2
    go_end0
    exact ⟨⟨_, rfl⟩, hJs⟩

/-- slices.Backward: the slice is boxed; the function value holds the box -/
theorem back_in (F : Fence) (n : Nat) (h5 : F.fn 75) (hro : F.round = none) (a : Option Addr) (len cap : Nat) (w : World) :
    CallsIn F n Tryd.prog 75 #[.slice a len cap] w fun e w' => e = .returned (.func (.func 77) #[] #[.pointer (some ⟨w.heap.size, 0, none⟩)]) ∧ w' = w.alloc (.cells #[.slice a len cap] 22) := by
  refine callsIn_of_wp Tryd.func75 rfl h5 ?_ hro
  simp only [Tryd.ntmps75, List.size_toArray, List.length_cons, List.length_nil, Nat.reduceAdd, Nat.reduceSub, Array.replicate_succ, Array.replicate_zero, List.push_toArray, List.append_toArray, List.nil_append, List.cons_append]
  gi_wp2
  go_ret
  exact ⟨rfl, rfl⟩

/-- what the loop's body must let lie: the box, and the bytes -/
def backs (Bs : Nat) (A : Option Addr) (zs : List UInt8) : List Nat := if zs.length = 0 then [Bs] else Bs :: fpo A
theorem back_stops (F : Fence) (n : Nat) (h7 : F.fn 77) (hro : F.round = none) (hn : 1 ≤ n) (Bs : Nat) (A : Option Addr) (cap : Nat) (zs : List UInt8) (hreach : zs.length ≤ 140737488000000) (w : World)
    (hBs : w.cell? ⟨Bs, 0, none⟩ = some (.slice A zs.length cap)) (hr : RdB w A zs) :
    SeqStopsK F n Tryd.prog 77 #[.pointer (some ⟨Bs, 0, none⟩)] (fun x : Nat × UInt8 => #[Value.int .i64 (x.1 : Int), Value.int .u8 x.2.toNat]) (KpB (backs Bs A zs)) (fun ys => ys = upto (backAt zs) zs.length)
      (fun pre => ∃ k, k ≤ zs.length ∧ pre = upto (backAt zs) k) zs.length w := fun l J Jx W hW _ _ hY h0 => by
  have hBl : Bs < w.heap.size := World.block_lt_of_cell? w ⟨Bs, 0, none⟩ hBs
  have hc' := (hW.cell (p := ⟨Bs, 0, none⟩) hBl).trans hBs
  by_cases hz : zs.length = 0
  · obtain rfl := List.eq_nil_of_length_eq_zero hz
    exact (back1_nil_in F n h7 hro l Bs cap A J W hc' h0).mono fun e W' ⟨he, hj⟩ => ⟨he, .inl ⟨_, rfl, hj⟩⟩
  · obtain ⟨ad, rfl, _⟩ := hr.at_ 0 (by omega)
    have hbe : backs Bs (some ad) zs = [Bs, ad.block] := by simp [backs, hz, fpo]
    rw [hbe] at hY
    refine (back1_in F n h7 hro hn l Bs cap ad zs hreach J Jx hY W hc' (fun j hj => ?_) h0).mono ?_
    · obtain ⟨ad', e, hcell⟩ := hr.at_ j hj
      obtain rfl : ad = ad' := by injection e
      have hlt : (ad.add j).block < w.heap.size := World.block_lt_of_cell? w _ hcell
      exact (hW.cell hlt).trans hcell
    · rintro e W' ⟨he, ⟨ys, rfl, hj⟩ | ⟨pre, ⟨k, hk, rfl⟩, hj⟩⟩
      · exact ⟨he, .inl ⟨_, rfl, hj⟩⟩
      · exact ⟨he, .inr ⟨_, ⟨k, hk, rfl⟩, hj⟩⟩
end Go.Proofs.YtlcpljpeljoboaaDoor
