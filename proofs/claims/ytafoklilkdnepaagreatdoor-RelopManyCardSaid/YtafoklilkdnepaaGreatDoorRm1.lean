/- Part 1 of the texts of this proof, one behind the other; each begins with its own sentence. No condition beyond those that its theorems state. -/
import Derived.Test.YtafoklilkdnepaaGreatDoorChecked
import Derived.WalkKit
import Derived.WalkSpells
import Derived.WalkLawsBesides
import Derived.Lib.Hide
import Derived.Maps.AppendAt
import Derived.Deep.QuietTactic
import Derived.BigQuiet
import Derived.Laws.BytesArg
import Derived.Lib.LazyBuf
import Derived.Lib.SliceRun
import Derived.Lib.SlBytesConst
import Derived.Lib.ConvBytes
import Derived.IntWalk
import Derived.Shelf.Small.Bits
import Derived.Shelf.Small.Strs
import Derived.Shelf.Small.Wraps
import Derived.Shelf.Strconv.Itoa0
import Derived.Shelf.Strconv.Itoa1
import Derived.Shelf.LaysM
import Derived.Shelf.Strconv.Itoa2
import Derived.Shelf.Strconv.Itoa3
import Derived.Shelf.Strings.Search1
import Derived.Test.YtafoklilkdnepaaGreatDoorProg
import Derived.StillTailTactics
import Derived.Lib.IndexMore
import Derived.Lib.Join
/- Worlds, rows of bytes and what a call may touch: small facts that all walks of this seat share. No condition. -/
namespace Go.Proofs.YtafoklilkdnepaaGreatDoor
open Go.RowKit

theorem ret_int {k : IntKind} {a b : Int} (h : a = b) : Ending.returned (.int k a) = .returned (.int k b) := by rw [h]
theorem ret_bool {a b : Bool} (h : a = b) : Ending.returned (.bool a) = .returned (.bool b) := by rw [h]
theorem ret_slice {A : Option Addr} {c n m : Nat} (h : n = m) : Ending.returned (.slice A n c) = .returned (.slice A m c) := by rw [h]
theorem ret_str {a b : ByteArray} (h : a = b) : Ending.returned (.string a) = .returned (.string b) := by rw [h]

/-- the walk stands still at a goal that is hidden; 'go' brings it back -/
theorem stop {p : Prop} (h : Hid p) : p := h
theorem go {p : Prop} (h : p) : Hid p := h

/-- which old blocks a call may have written: those on the list; all else that was there stands as it stood. -/
structure Touch (fp : List Nat) (w w' : World) : Prop where
  os : w'.os = w.os
  tape : w'.tape = w.tape
  output : w'.output = w.output
  size : w.heap.size ≤ w'.heap.size
  block : ∀ k, k < w.heap.size → k ∉ fp → w'.heap[k]? = w.heap[k]?

theorem Touch.refl (fp : List Nat) (w : World) : Touch fp w w := ⟨rfl, rfl, rfl, Nat.le_refl _, fun _ _ _ => rfl⟩
theorem Touch.trans {fp fp2 : List Nat} {w w1 w2 : World} (h : Touch fp w w1) (k : Touch fp2 w1 w2) (hs : ∀ b ∈ fp2, b ∈ fp ∨ w.heap.size ≤ b) : Touch fp w w2 :=
  ⟨k.os.trans h.os, k.tape.trans h.tape, k.output.trans h.output, Nat.le_trans h.size k.size, fun b hb hn =>
    (k.block b (Nat.lt_of_lt_of_le hb h.size) (fun hm => by rcases hs b hm with h1 | h1; exact hn h1; omega)).trans (h.block b hb hn)⟩
theorem Touch.trans0 {fp : List Nat} {w w1 w2 : World} (h : Touch fp w w1) (k : Touch [] w1 w2) : Touch fp w w2 := h.trans k (by simp)
theorem Touch.mono {fp fp2 : List Nat} {w w1 : World} (h : Touch fp w w1) (hs : ∀ b ∈ fp, b ∈ fp2 ∨ w.heap.size ≤ b) : Touch fp2 w w1 :=
  ⟨h.os, h.tape, h.output, h.size, fun b hb hn => h.block b hb (fun hm => by rcases hs b hm with h1 | h1; exact hn h1; omega)⟩
theorem Touch.alloc {fp : List Nat} {w w1 : World} (h : Touch fp w w1) (o : Obj) : Touch fp w (w1.alloc o) :=
  ⟨h.os, h.tape, h.output, Nat.le_trans h.size (by simp), fun b hb hn => (Below.heap_alloc w1 o b (Nat.lt_of_lt_of_le hb h.size)).trans (h.block b hb hn)⟩
theorem Touch.drewN {fp : List Nat} {w w1 : World} (h : Touch fp w w1) (n : Nat) : Touch fp w (w1.drewN n) := ⟨h.os, h.tape, h.output, h.size, h.block⟩
theorem Touch.drew {fp : List Nat} {w w1 : World} (h : Touch fp w w1) : Touch fp w w1.drew := ⟨h.os, h.tape, h.output, h.size, h.block⟩
theorem Touch.ofDrew {fp : List Nat} {w w1 : World} (h : Touch fp w.drew w1) : Touch fp w w1 := ⟨h.os, h.tape, h.output, h.size, h.block⟩
theorem Touch.ofDrewN {fp : List Nat} {w w1 : World} {n : Nat} (h : Touch fp (w.drewN n) w1) : Touch fp w w1 := ⟨h.os, h.tape, h.output, h.size, h.block⟩
theorem Touch.setCell {fp : List Nat} {w w1 : World} (h : Touch fp w w1) {p : Addr} (hp : p.block ∈ fp ∨ w.heap.size ≤ p.block) (u : Value) : Touch fp w (w1.setCell p u) :=
  ⟨h.os, h.tape, h.output, by simpa [World.setCell] using h.size, fun b hb hn => (Below.heap_setCell w1 p u b (by
    rintro rfl
    rcases hp with hp | hp
    · exact hn hp
    · omega)).trans (h.block b hb hn)⟩
theorem Touch.of_grown {w w' : World} {row : Option Nat} (h : w.grownBy w' row) : Touch row.toList w w' :=
  ⟨h.os, h.tape, h.output, h.size, fun k hk hn => h.block k hk (fun e => hn (by rw [← e]; simp))⟩
theorem Touch.of_below {w w' : World} (h : Below w.heap.size w w') (fp : List Nat) : Touch fp w w' := ⟨h.os, h.tape, h.output, h.size, fun k hk _ => h.block k hk⟩
theorem Touch.below {fp : List Nat} {w w' : World} (h : Touch fp w w') {n : Nat} (hn : n ≤ w.heap.size) (hf : ∀ b ∈ fp, n ≤ b) : Below n w w' :=
  ⟨h.os, h.tape, h.output, h.size, fun k hk => h.block k (Nat.lt_of_lt_of_le hk hn) (fun hm => by have := hf k hm; omega)⟩
theorem Touch.below0 {w w' : World} (h : Touch [] w w') : Below w.heap.size w w' := h.below (Nat.le_refl _) (by simp)
theorem Touch.cell {fp : List Nat} {w w' : World} (h : Touch fp w w') {a : Addr} {v : Value} (hc : w.cell? a = some v) (hn : a.block ∉ fp) : w'.cell? a = some v :=
  (World.cell?_of_block (h.block a.block (World.block_lt_of_cell? w a hc) hn)).trans hc
theorem Touch.blk {fp : List Nat} {w w' : World} (h : Touch fp w w') {g : Nat} {o : Obj} (hc : w.heap[g]? = some o) (hn : g ∉ fp) : w'.heap[g]? = some o :=
  (h.block g (by rcases Nat.lt_or_ge g w.heap.size with hl | hl; exact hl; rw [Array.getElem?_eq_none hl] at hc; cases hc) hn).trans hc

theorem block_of_add (a : Addr) (n : Nat) : (a.add n).block = a.block := by unfold Addr.add; split <;> rfl
theorem add_of_add (a : Addr) (i j : Nat) : (a.add i).add j = a.add (i + j) := by
  unfold Addr.add
  by_cases hi : i = 0 <;> by_cases hj : j = 0 <;> simp [hi, hj, Nat.add_assoc]

/-- the block of a slice's address -/
def fpo : Option Addr → List Nat
  | some a => [a.block]
  | none => []

/-- a slice's address leads to these cells (an empty one's to whatever) -/
def Rd (w : World) (A : Option Addr) (xs : List Value) : Prop := 0 < xs.length → ∃ ad, A = some ad ∧ ∀ j u, xs[j]? = some u → w.cell? (ad.add j) = some u

theorem Rd.touch {w w' : World} {A : Option Addr} {xs : List Value} {fp : List Nat} (h : Rd w A xs) (ht : Touch fp w w') (hn : ∀ b ∈ fpo A, b ∉ fp) : Rd w' A xs := by
  intro h0
  obtain ⟨ad, rfl, hc⟩ := h h0
  exact ⟨ad, rfl, fun j u hu => ht.cell (hc j u hu) (by rw [block_of_add]; exact hn _ (by simp [fpo]))⟩
theorem Rd.touch0 {w w' : World} {A : Option Addr} {xs : List Value} (h : Rd w A xs) (ht : Touch [] w w') : Rd w' A xs := h.touch ht (by simp)
theorem Rd.nil (w : World) (A : Option Addr) : Rd w A [] := fun h => absurd h (by simp)
theorem Rd.lt {w : World} {A : Option Addr} {xs : List Value} (h : Rd w A xs) (h0 : 0 < xs.length) : ∀ b ∈ fpo A, b < w.heap.size := by
  obtain ⟨ad, rfl, hc⟩ := h h0
  intro b hb
  have : b = ad.block := by simpa [fpo] using hb
  subst this
  have := World.block_lt_of_cell? w _ (hc 0 xs[0] (List.getElem?_eq_getElem h0))
  rwa [block_of_add] at this
theorem Rd.cut {w : World} {A : Option Addr} {xs : List Value} (h : Rd w A xs) {A' : Option Addr} {k n : Nat} (hA : ∀ ad, A = some ad → k < xs.length → A' = some (ad.add k)) : Rd w A' ((xs.drop k).take n) := by
  intro h0
  have hk : k < xs.length := by simp at h0; omega
  obtain ⟨ad, rfl, hc⟩ := h (by omega)
  refine ⟨ad.add k, hA ad rfl hk, fun j u hu => ?_⟩
  rw [add_of_add]
  refine hc _ u ?_
  rw [List.getElem?_take] at hu
  split at hu
  · rwa [List.getElem?_drop] at hu
  · cases hu

/-- bytes as the memory holds them -/
def B (b : UInt8) : Value := .int .u8 b.toNat
theorem oneCell_B (l : List UInt8) : ∀ u ∈ l.map B, u.oneCell' = true := by
  intro u hu
  obtain ⟨b, _, rfl⟩ := List.mem_map.1 hu
  rfl
def RdB (w : World) (A : Option Addr) (l : List UInt8) : Prop := Rd w A (l.map B)
theorem RdB.at_ {w : World} {A : Option Addr} {l : List UInt8} (h : RdB w A l) (k : Nat) (hk : k < l.length) : ∃ ad, A = some ad ∧ w.cell? (ad.add k) = some (.int .u8 l[k].toNat) := by
  obtain ⟨ad, e, hc⟩ := h (by simpa using Nat.lt_of_le_of_lt (Nat.zero_le _) hk)
  exact ⟨ad, e, hc k _ (by simp [hk, B])⟩

/-- a slice that the calls own: it holds these bytes and nobody shares its row -/
def OwnB (w : World) (A : Option Addr) (c : Nat) (l : List UInt8) : Prop := w.ownsRow 0 5 1 (.slice A l.length c) l.length (l.map B)
theorem OwnB.rd {w : World} {A : Option Addr} {c : Nat} {l : List UInt8} (h : OwnB w A c l) : RdB w A l := by
  intro h0
  rcases h.2 with hv | ⟨g, cap, cur, hv, _⟩
  · simp at h0; omega
  · have hA : A = some ⟨g, 0, none⟩ := by injection hv
    subst hA
    exact ⟨_, rfl, World.ownsRow.cells h (g := g) rfl⟩
theorem OwnB.le {w : World} {A : Option Addr} {c : Nat} {l : List UInt8} (h : OwnB w A c l) : l.length ≤ c := by
  obtain ⟨_, ⟨hv, hn⟩ | ⟨g, cap, cur, hv, _, _, hnc, _⟩⟩ := h
  · omega
  · injection hv with _ _ h3; omega
theorem OwnB.cap {w : World} {A : Option Addr} {c : Nat} {l : List UInt8} (h : OwnB w A c l) : c ≤ 9223372036854775807 := by
  obtain ⟨_, ⟨hv, hn⟩ | ⟨g, cap, cur, hv, _, _, _, hm, _⟩⟩ := h
  · injection hv with _ _ h3; omega
  · injection hv with _ _ h3; unfold maxLen at hm; omega
theorem OwnB.nil (w : World) : OwnB w none 0 [] := World.ownsRow_nil _ _ _ _
theorem OwnB.touch {w w' : World} {A : Option Addr} {c : Nat} {l : List UInt8} {fp : List Nat} (h : OwnB w A c l) (ht : Touch fp w w') (hn : ∀ b ∈ fpo A, b ∉ fp) : OwnB w' A c l := by
  refine ⟨h.1, ?_⟩
  rcases h.2 with hv | ⟨g, cap, cur, hv, hb, hg, rest⟩
  · exact .inl hv
  · have hA : A = some ⟨g, 0, none⟩ := by injection hv
    subst hA
    exact .inr ⟨g, cap, cur, hv, hb, ht.blk hg (hn g (by simp [fpo])), rest⟩
theorem OwnB.touch0 {w w' : World} {A : Option Addr} {c : Nat} {l : List UInt8} (h : OwnB w A c l) (ht : Touch [] w w') : OwnB w' A c l := h.touch ht (by simp)
theorem OwnB.lt {w : World} {A : Option Addr} {c : Nat} {l : List UInt8} (h : OwnB w A c l) : ∀ b ∈ fpo A, b < w.heap.size := by
  intro b hb
  rcases h.2 with ⟨hv, _⟩ | ⟨g, cap, cur, hv, _, hg, _⟩
  · injection hv with hA _ _; subst hA; cases hb
  · have hA : A = some ⟨g, 0, none⟩ := by injection hv
    subst hA
    have : b = g := by simpa [fpo] using hb
    subst this
    exact (Array.getElem?_eq_some_iff.1 hg).1
theorem OwnB.head {w : World} {A : Option Addr} {c : Nat} {l : List UInt8} (h : OwnB w A c l) : A = none ∧ l = [] ∧ c = 0 ∨ ∃ g, A = some ⟨g, 0, none⟩ := by
  rcases h.2 with ⟨hv, h0⟩ | ⟨g, cap, cur, hv, _⟩
  · injection hv with hA _ hc; exact .inl ⟨hA, List.eq_nil_of_length_eq_zero h0, hc⟩
  · injection hv with hA _ _; exact .inr ⟨g, hA⟩
theorem OwnB.empty_new (w : World) : OwnB (w.alloc (.cells #[] 5)) (some ⟨w.heap.size, 0, none⟩) 0 [] :=
  ⟨rfl, .inr ⟨w.heap.size, 0, #[], rfl, Nat.zero_le _, heap_alloc_new w _, Nat.le_refl _, Nat.zero_le _, rfl, rfl⟩⟩
/-- a block just made, all of whose cells are these -/
theorem OwnB.new (w : World) (l : List UInt8) (hl : l.length ≤ maxLen) : OwnB (w.alloc (.cells (l.map B).toArray 5)) (some ⟨w.heap.size, 0, none⟩) l.length l :=
  ⟨by simp, .inr ⟨w.heap.size, l.length, (l.map B).toArray, rfl, Nat.zero_le _, heap_alloc_new w _, Nat.le_refl _, hl, by simp, by simp [List.take_of_length_le]⟩⟩

section
variable {P : Program} (w : World)
theorem run_append_of_nil (base : Nat) (t ty e : TypeId) (i : TypeInfo) (size : Nat) (ht : P.underlying t = some (.slice e)) (hi : P.info? e = some i)
    (v : Value) (n : Nat) (xs : List Value) (hown : w.ownsRow base e size v n xs) (c : Nat) : (Builtin.append_ #[t, t] ty #[v, .slice none 0 c]).run P w = .ok v w := by
  rcases hown.2 with ⟨rfl, rfl⟩ | ⟨g, cap, cur, rfl, _, _, hnc, _⟩
  · simp [Builtin.append_, run_underlying ht, sizeOf, typeInfo, hi, Builtin.lenOf, Builtin.firstCells]
  · simp [Builtin.append_, run_underlying ht, sizeOf, typeInfo, hi, Builtin.lenOf, Builtin.firstCells, hnc, storeCells]

theorem run_app (t ty e : TypeId) (i : TypeInfo) (z : Value) (size bytes : Nat) (ht : P.underlying t = some (.slice e)) (hi : P.info? e = some i) (hz : i.zero = some z)
    (hsize : i.size = size) (hby : i.bytes = bytes) (hzs : z.cells.size = size) (hsz : 0 < size)
    (A0 : Option Addr) (n c0 : Nat) (xs : List Value) (hown : w.ownsRow 0 e size (.slice A0 n c0) n xs)
    (A : Option Addr) (m c : Nat) (news : List Value) (hl : news.length = m * size) (hr : Rd w A news) (h1 : ∀ u ∈ news, u.oneCell' = true)
    (h63 : n + m ≤ maxLen) (hbytes : (n + m) * bytes ≤ 140737488355328) :
    ∃ A' c' w', (Builtin.append_ #[t, t] ty #[.slice A0 n c0, .slice A m c]).run P w = .ok (.slice A' (n + m) c') w' ∧ w'.ownsRow 0 e size (.slice A' (n + m) c') (n + m) (xs ++ news) ∧ Touch (fpo A0) w w' ∧
      (∀ b ∈ fpo A', b ∈ fpo A0 ∨ b = w.heap.size) := by
  have hfp : ∀ v : Value, ∀ A1 n1 c1, v = .slice A1 n1 c1 → v.ownBlock.toList = fpo A1 := by
    rintro v A1 n1 c1 rfl
    cases A1 <;> rfl
  rcases A with _ | ad
  · have hm : m = 0 := by
      rcases Nat.eq_zero_or_pos m with h0 | h0
      · exact h0
      · obtain ⟨ad, h, _⟩ := hr (by rw [hl]; exact Nat.mul_pos h0 hsz)
        cases h
    subst hm
    have hn : news = [] := List.eq_nil_of_length_eq_zero (by simpa using hl)
    subst hn
    exact ⟨A0, c0, w, run_append_of_nil w 0 t ty e i size ht hi _ n xs hown c, by simpa using hown, Touch.refl _ _, fun b hb => .inl hb⟩
  · have hcells : ∀ j u, news[j]? = some u → w.cell? (ad.add j) = some u := by
      intro j u hu
      obtain ⟨ad', h, hc⟩ := hr (Nat.lt_of_le_of_lt (Nat.zero_le _) (List.getElem?_eq_some_iff.1 hu).1)
      injection h with h
      subst h
      exact hc j u hu
    obtain ⟨v', w', hrun, h2, h3, h4, h5⟩ := run_append_own_at (P := P) w 0 t ty e i z size bytes ht hi hz hsize hby hzs hsz _ n xs hown ad m c news hl hcells h1 h63 hbytes (Nat.zero_le _)
    have ht' : Touch (fpo A0) w w' := by
      have := Touch.of_grown h3
      rwa [hfp _ _ _ _ rfl] at this
    have hv : ∃ A' c', v' = .slice A' (n + m) c' := by
      rcases h2.2 with ⟨e1, e2⟩ | ⟨g, cap, cur, e1, _⟩
      · exact ⟨none, 0, by rw [e1, e2]⟩
      · exact ⟨_, _, e1⟩
    obtain ⟨A', c', rfl⟩ := hv
    refine ⟨A', c', w', hrun, h2, ht', fun b hb => ?_⟩
    have hb' : b ∈ (Value.slice A' (n + m) c').ownBlock.toList := by rw [hfp _ _ _ _ rfl]; exact hb
    rcases h5 with e5 | e5
    · left; rw [e5, hfp _ _ _ _ rfl] at hb'; exact hb'
    · right; rw [e5] at hb'; simpa using hb'

theorem wp_app {o : Oper} {a : Act} {K : Act → World → Prop} {Q : Exit → Act → World → Prop} (s x : Operand) (t : TypeId)
    (ho : o.op = .call { callee := .builtin .append, args := #[s, x], argTypes := #[t, t] })
    (e : TypeId) (i : TypeInfo) (z : Value) (size bytes : Nat) (ht : P.underlying t = some (.slice e)) (hi : P.info? e = some i) (hz : i.zero = some z)
    (hsize : i.size = size) (hby : i.bytes = bytes) (hzs : z.cells.size = size) (hsz : 0 < size)
    (A0 : Option Addr) (n c0 : Nat) (xs : List Value) (hs : a.eval s = .slice A0 n c0) (hown : w.ownsRow 0 e size (.slice A0 n c0) n xs)
    (A : Option Addr) (m c : Nat) (news : List Value) (hx : a.eval x = .slice A m c) (hl : news.length = m * size) (hr : Rd w A news) (h1 : ∀ u ∈ news, u.oneCell' = true)
    (h63 : n + m ≤ maxLen) (hbytes : (n + m) * bytes ≤ 140737488355328)
    (h : ∀ A' c' w', w'.ownsRow 0 e size (.slice A' (n + m) c') (n + m) (xs ++ news) → Touch (fpo A0) w w' → (∀ b ∈ fpo A', b ∈ fpo A0 ∨ b = w.heap.size) → K (a.put o.dst (.slice A' (n + m) c')) w') : o.wp P a w K Q := by
  obtain ⟨A', c', w', hrun, h2, h3, h4⟩ := run_app (P := P) w t o.type e i z size bytes ht hi hz hsize hby hzs hsz A0 n c0 xs hown A m c news hl hr h1 h63 hbytes
  unfold Oper.wp execOp
  simp only [ho, resolve, invoke, builtin, Sem.run_bind, Sem.run_pure, Result.andThen_ok, List.map_toArray, List.map_cons, List.map_nil, hs, hx, hrun]
  exact h A' c' w' h2 h3 h4

theorem wpList_app {ops : Array Oper} {rest : List Oper} {o : Oper} {a : Act} {Q : Exit → Act → World → Prop} (hgd : o.guard = none) (s x : Operand) (t : TypeId)
    (ho : o.op = .call { callee := .builtin .append, args := #[s, x], argTypes := #[t, t] })
    (e : TypeId) (i : TypeInfo) (z : Value) (size bytes : Nat) (ht : P.underlying t = some (.slice e)) (hi : P.info? e = some i) (hz : i.zero = some z)
    (hsize : i.size = size) (hby : i.bytes = bytes) (hzs : z.cells.size = size) (hsz : 0 < size)
    (A0 : Option Addr) (n c0 : Nat) (xs : List Value) (hs : a.eval s = .slice A0 n c0) (hown : w.ownsRow 0 e size (.slice A0 n c0) n xs)
    (A : Option Addr) (m c : Nat) (news : List Value) (hx : a.eval x = .slice A m c) (hl : news.length = m * size) (hr : Rd w A news) (h1 : ∀ u ∈ news, u.oneCell' = true)
    (h63 : n + m ≤ maxLen) (hbytes : (n + m) * bytes ≤ 140737488355328)
    (h : ∀ A' c' w', w'.ownsRow 0 e size (.slice A' (n + m) c') (n + m) (xs ++ news) → Touch (fpo A0) w w' → (∀ b ∈ fpo A', b ∈ fpo A0 ∨ b = w.heap.size) → wpList P ops Q rest (a.put o.dst (.slice A' (n + m) c')) w') :
    wpList P ops Q (o :: rest) a w :=
  wpList_plain hgd fun _ hK => wp_app w s x t ho e i z size bytes ht hi hz hsize hby hzs hsz A0 n c0 xs hs hown A m c news hx hl hr h1 h63 hbytes fun A' c' w' h2 h3 h4 => hK _ _ (h A' c' w' h2 h3 h4)

/-- the same as one step of a region that draws its order -/
theorem step_app {ops : Array Oper} {o : Oper} {a : Act} {K : Act → World → Prop} {Q : Exit → Act → World → Prop} {E : Prop} (hgd : o.guard = none) (s x : Operand) (t : TypeId)
    (ho : o.op = .call { callee := .builtin .append, args := #[s, x], argTypes := #[t, t] })
    (e : TypeId) (i : TypeInfo) (z : Value) (size bytes : Nat) (ht : P.underlying t = some (.slice e)) (hi : P.info? e = some i) (hz : i.zero = some z)
    (hsize : i.size = size) (hby : i.bytes = bytes) (hzs : z.cells.size = size) (hsz : 0 < size)
    (A0 : Option Addr) (n c0 : Nat) (xs : List Value) (hs : a.eval s = .slice A0 n c0) (hown : w.ownsRow 0 e size (.slice A0 n c0) n xs)
    (A : Option Addr) (m c : Nat) (news : List Value) (hx : a.eval x = .slice A m c) (hl : news.length = m * size) (hr : Rd w A news) (h1 : ∀ u ∈ news, u.oneCell' = true)
    (h63 : n + m ≤ maxLen) (hbytes : (n + m) * bytes ≤ 140737488355328)
    (h : ∀ A' c' w', w'.ownsRow 0 e size (.slice A' (n + m) c') (n + m) (xs ++ news) → Touch (fpo A0) w w' → (∀ b ∈ fpo A', b ∈ fpo A0 ∨ b = w.heap.size) → K (a.put o.dst (.slice A' (n + m) c')) w') :
    if Region.wanted o (yielded ops a.tmps) = true then Oper.wp P o a w K Q else E := by
  have hw : Region.wanted o (yielded ops a.tmps) = true := by simp [Region.wanted, hgd]
  rw [if_pos hw]
  exact wp_app w s x t ho e i z size bytes ht hi hz hsize hby hzs hsz A0 n c0 xs hs hown A m c news hx hl hr h1 h63 hbytes h
end

theorem info_u8 : (Tryz.prog.info? 5).map (fun i => (i.zero, i.size, i.bytes)) = some (some (.int .u8 0), 1, 1) := by kernel_rfl

/-- append onto bytes that the calls own -/
theorem wpList_appB {w : World} {ops : Array Oper} {rest : List Oper} {o : Oper} {a : Act} {Q : Exit → Act → World → Prop} (hgd : o.guard = none) (s x : Operand)
    (ho : o.op = .call { callee := .builtin .append, args := #[s, x], argTypes := #[165, 165] })
    (A0 : Option Addr) (n c0 : Nat) (l : List UInt8) (hn : l.length = n) (hs : a.eval s = .slice A0 n c0) (hown : OwnB w A0 c0 l)
    (A : Option Addr) (k c : Nat) (m : List UInt8) (hk : m.length = k) (hx : a.eval x = .slice A k c) (hr : RdB w A m) (hbytes : n + k ≤ 140737488355328)
    (h : ∀ A' c' w', OwnB w' A' c' (l ++ m) → Touch (fpo A0) w w' → (∀ b ∈ fpo A', b ∈ fpo A0 ∨ b = w.heap.size) → wpList Tryz.prog ops Q rest (a.put o.dst (.slice A' (n + k) c')) w') :
    wpList Tryz.prog ops Q (o :: rest) a w := by
  obtain ⟨i0, hi0, hz0, hz1, hz2⟩ := info_parts info_u8
  subst hn hk
  refine wpList_app w hgd s x _ ho 5 i0 _ 1 1 Tryz.underlying165 hi0 hz0 hz1 hz2 rfl (by omega) A0 l.length c0 _ hs hown A m.length c _ hx (by simp) hr (oneCell_B _) (by simp only [maxLen]; omega) (by omega) ?_
  intro A' c' w' h2 h3 h4
  exact h A' c' w' (by unfold OwnB; rw [List.map_append, List.length_append]; exact h2) h3 h4

theorem step_appB {w : World} {ops : Array Oper} {o : Oper} {a : Act} {K : Act → World → Prop} {Q : Exit → Act → World → Prop} {E : Prop} (hgd : o.guard = none) (s x : Operand)
    (ho : o.op = .call { callee := .builtin .append, args := #[s, x], argTypes := #[165, 165] })
    (A0 : Option Addr) (n c0 : Nat) (l : List UInt8) (hn : l.length = n) (hs : a.eval s = .slice A0 n c0) (hown : OwnB w A0 c0 l)
    (A : Option Addr) (k c : Nat) (m : List UInt8) (hk : m.length = k) (hx : a.eval x = .slice A k c) (hr : RdB w A m) (hbytes : n + k ≤ 140737488355328)
    (h : ∀ A' c' w', OwnB w' A' c' (l ++ m) → Touch (fpo A0) w w' → (∀ b ∈ fpo A', b ∈ fpo A0 ∨ b = w.heap.size) → K (a.put o.dst (.slice A' (n + k) c')) w') :
    if Region.wanted o (yielded ops a.tmps) = true then Oper.wp Tryz.prog o a w K Q else E := by
  obtain ⟨i0, hi0, hz0, hz1, hz2⟩ := info_parts info_u8
  subst hn hk
  refine step_app w hgd s x _ ho 5 i0 _ 1 1 Tryz.underlying165 hi0 hz0 hz1 hz2 rfl (by omega) A0 l.length c0 _ hs hown A m.length c _ hx (by simp) hr (oneCell_B _) (by simp only [maxLen]; omega) (by omega) ?_
  intro A' c' w' h2 h3 h4
  exact h A' c' w' (by unfold OwnB; rw [List.map_append, List.length_append]; exact h2) h3 h4

/-- one byte in a block of its own -/
theorem RdB.one (w : World) (x : UInt8) : RdB (w.alloc (.cells #[B x] 5)) (some ⟨w.heap.size, 0, none⟩) [x] :=
  (OwnB.new w [x] (by simp [maxLen])).rd
theorem RdB.one' (w : World) (x : UInt8) {z : Int} (h : z = x.toNat) : RdB (w.alloc (.cells #[.int .u8 z] 5)) (some ⟨w.heap.size, 0, none⟩) [x] := by
  subst h; exact RdB.one w x

/-- a block just made, whatever of it is marked -/
theorem RdB.newf (w : World) (l : List UInt8) (fr : Nat × Nat) : RdB (w.alloc (.cells (l.map B).toArray 5 fr)) (some ⟨w.heap.size, 0, none⟩) l := fun _ =>
  ⟨_, rfl, fun j u hu => by
    have hadd : (⟨w.heap.size, 0, none⟩ : Addr).add j = ⟨w.heap.size, j, none⟩ := by unfold Addr.add; split <;> simp_all
    rw [hadd, cell_of_row _ w.heap.size j (l.map B).toArray 5 fr (heap_alloc_new w _)]
    simpa using hu⟩

theorem RdB.new' (w : World) (l : List UInt8) (fr : Nat × Nat) (cs : Array Value) (h : cs = (l.map B).toArray) : RdB (w.alloc (.cells cs 5 fr)) (some ⟨w.heap.size, 0, none⟩) l := by
  subst h; exact RdB.newf w l fr

/-- a text of these bytes -/
def S (l : List UInt8) : ByteArray := ⟨l.toArray⟩
theorem run_str_of {w : World} {A : Option Addr} {n : Nat} (c : Nat) {l : List UInt8} (hn : l.length = n) (hr : RdB w A l) : (convert 165 9 (.slice A n c)).run Tryz.prog w = .ok (.string (S l)) w := by
  subst hn
  rcases Nat.eq_zero_or_pos l.length with h0 | h0
  · obtain rfl := List.eq_nil_of_length_eq_zero h0
    cases A with
    | none => exact run_convert_bytes_nil (P := Tryz.prog) w 165 5 Tryz.underlying165 Tryz.underlying5 _ _ _ Tryz.underlying9
    | some ad =>
      have hl : (loadCells ad 0).run Tryz.prog w = .ok (([] : List Int).map (Value.int .u8)).toArray w := run_loadCells_list (P := Tryz.prog) w ad [] (by simp)
      rw [run_convert_bytes_string w _ _ _ _ _ c Tryz.underlying165 Tryz.underlying5 Tryz.underlying9]
      exact run_bytesToString w ad 0 c [] hl
  · obtain ⟨ad, rfl, hc⟩ := hr (by simpa using h0)
    have hl : (loadCells ad l.length).run Tryz.prog w = .ok ((l.map (fun b => (b.toNat : Int))).map (Value.int .u8)).toArray w := by
      have := run_loadCells_list (P := Tryz.prog) w ad (l.map B) hc
      rw [List.length_map] at this
      rw [this, List.map_map]; rfl
    rw [run_convert_bytes_string w _ _ _ _ _ c Tryz.underlying165 Tryz.underlying5 Tryz.underlying9, run_bytesToString w ad _ c _ hl, foldl_push_bytes]
    simp [S, ByteArray.empty, ByteArray.emptyWithCapacity, Function.comp_def]
    rfl

theorem madeCells_one (v : Value) (n : Nat) : madeCells #[v] n = (List.replicate n v).toArray := by
  apply Array.ext
  · simp [madeCells]
  · intro i h1 h2
    simp [madeCells, Nat.mod_one]
/-- make([]byte, n) -/
theorem run_makeB (n : Nat) (hn : n ≤ 281474976710656) (w : World) : (Instr.makeSlice 165 (.int .i64 (n : Int)) (.int .i64 (n : Int))).run Tryz.prog w =
    .ok (.slice (some ⟨w.heap.size, 0, none⟩) n n) (w.alloc (.cells ((List.replicate n (0 : UInt8)).map B).toArray 5)) := by
  obtain ⟨i0, hi0, hz0, hz1, hz2⟩ := info_parts info_u8
  have h := run_make (P := Tryz.prog) w 165 5 i0 _ Tryz.underlying165 hi0 hz0 .i64 .i64 (n : Int) (n : Int) (by omega) (by omega) (by rw [hz2]; omega) (by omega)
  rw [Int.toNat_natCast, hz1, Nat.mul_one] at h
  rw [h, List.map_replicate, ← madeCells_one]
  rfl

end Go.Proofs.YtafoklilkdnepaaGreatDoor

/- Texts, bytes of texts, values: what all layers above the bytes share; value.plain, value.Value.Right. -/
namespace Go.Proofs.YtafoklilkdnepaaGreatDoor
open Go.RowKit

theorem S_inj {a b : List UInt8} (h : S a = S b) : a = b := by
  have := congrArg (fun x : ByteArray => x.data.toList) h
  simpa [S] using this
theorem S_eq (a b : List UInt8) : (S a = S b) = (a = b) := propext ⟨S_inj, fun h => by rw [h]⟩

theorem S_list (a : List UInt8) : (S a).toList = a := by rw [ByteArray.toList_eq]; simp [S]
theorem S_beq (a b : List UInt8) : ((S a).toList == (S b).toList) = decide (a = b) := by
  rw [S_list, S_list, Bool.eq_iff_iff]; simp
theorem S_bne (a b : List UInt8) : (!(S a).toList == (S b).toList) = !decide (a = b) := by
  rw [S_beq]

theorem S_size (s : List UInt8) : (S s).size = s.length := by simp [S, ByteArray.size]
theorem S_toList (s : List UInt8) : (S s).data.toList = s := by simp [S]
/-- []byte(s) -/
theorem run_bytes_of (s : List UInt8) (W : World) : (convert 9 165 (.string (S s))).run Tryz.prog W = .ok (.slice (some ⟨W.heap.size, 0, none⟩) s.length (grownCap W s.length 0 5)) (Lib.bytesWorld W 5 (S s)) := by
  have := Lib.run_convert_string_bytes (P := Tryz.prog) W 9 165 5 (S s) Tryz.underlying9 Tryz.underlying165 Tryz.underlying5
  rw [S_size] at this
  exact this
theorem touch_bytes (W : World) (s : List UInt8) : Touch [] W (Lib.bytesWorld W 5 (S s)) :=
  ⟨rfl, rfl, rfl, by rw [Lib.bytesWorld_size]; omega, fun k hk _ => Lib.bytesWorld_at_old W _ _ k hk⟩
theorem rd_bytes (W : World) (s : List UInt8) : RdB (Lib.bytesWorld W 5 (S s)) (some ⟨W.heap.size, 0, none⟩) s := fun _ =>
  ⟨_, rfl, fun j u hu => by
    have hadd : (⟨W.heap.size, 0, none⟩ : Addr).add j = ⟨W.heap.size, j, none⟩ := by unfold Addr.add; split <;> simp_all
    have hj : j < s.length := by have := (List.getElem?_eq_some_iff.1 hu).1; simpa using this
    rw [hadd, Lib.bytesWorld_cell _ _ _ j (by rw [S_size]; exact hj), S_toList]
    simp only [List.getElem?_map, List.getElem?_eq_getElem hj, Option.map_some, Option.some.injEq] at hu
    rw [← hu]
    simp [List.getD, hj, B]⟩

theorem size_toList (s : ByteArray) : s.data.toList.length = s.size := by rw [Array.length_toList]; rfl
/-- a value: its kind, its number, its text -/
structure VD where
  kind : Int
  num : Int
  text : ByteArray
/-- as the program lays it -/
def VD.val (v : VD) : Value := .agg #[.int .i64 v.kind, .int .i64 v.num, .string v.text]
/-- numbers within bounds, the text short -/
structure VD.Ok (v : VD) (m : Nat) : Prop where
  k : -9223372036854775808 ≤ v.kind ∧ v.kind ≤ 9223372036854775807
  n : -9223372036854775808 ≤ v.num ∧ v.num ≤ 9223372036854775807
  t : v.text.size ≤ m
theorem cell_blk {w : World} {g i : Nat} {cs : Array Value} {t : TypeId} {v : Value} (h : w.heap[g]? = some (.cells cs t (0, 0))) (hv : cs[i]? = some v) : w.cell? ⟨g, i, none⟩ = some v := by
  rw [cell_of_row w g i cs t (0, 0) h]; exact hv

theorem set_blk {w : World} {g : Nat} {cs : Array Value} {t : TypeId} (h : w.heap[g]? = some (.cells cs t (0, 0))) (i : Nat) (u : Value) :
    (w.setCell ⟨g, i, none⟩ u).heap[g]? = some (.cells (cs.setIfInBounds i u) t (0, 0)) := by
  simp [World.setCell, Array.getElem?_modify, h]

theorem S_of (s : ByteArray) : S s.data.toList = s := by cases s; simp [S]
theorem toList_B (x : ByteArray) : x.toList = x.data.toList := ByteArray.toList_eq x
theorem bs_eq {x y : ByteArray} (h : x.data.toList = y.data.toList) : x = y := by rw [← S_of x, ← S_of y, h]
theorem bs_beq (x y : ByteArray) : (x.toList == y.toList) = decide (x = y) := by
  rw [toList_B, toList_B, Bool.eq_iff_iff]
  simp only [beq_iff_eq, decide_eq_true_eq]
  exact ⟨bs_eq, fun h => by rw [h]⟩

/-- may a byte stand in a table's text? -/
def okB (c : UInt8) : Bool := decide (32 ≤ c.toNat) && decide (c.toNat ≤ 126)
/-- a text that may stand in a table -/
def plainV (t : List UInt8) : Bool := t.all okB && decide (t.length ≤ 64)

set_option maxRecDepth 20000 in
set_option maxHeartbeats 800000 in
theorem plain_any (t : List UInt8) (hs : t.length ≤ 140737000000000) (w : World) :
    Calls Tryz.prog 182 #[.string (S t)] w fun e w' => e = .returned (.bool (plainV t)) ∧ Touch [] w w' := by
  go_enter Tryz.func182, Tryz.ntmps182
  have hconv := run_bytes_of t w
  have hsz := S_size t
  have hr := rd_bytes w t
  have ht := touch_bytes w t
  obtain ⟨W, hW⟩ : ∃ W, W = Lib.bytesWorld w 5 (S t) := ⟨_, rfl⟩
  rw [← hW] at hconv hr ht
  clear hW
  go_wp2_with fail
  clear hconv
  go_loop [8] (fun i => ∃ k : Nat, k ≤ t.length ∧ i = .int .i64 k ∧ Hid ((t.take k).all okB = true)) (fun i => t.length - (intOf i).toNat)
  case atStart => exact ⟨0, by omega, rfl, Lib.hid rfl⟩
  case round =>
    obtain ⟨k, hk, rfl, hall⟩ := hrel
    by_cases hlt : k < t.length
    · obtain ⟨ad, e1, hcell⟩ := hr.at_ k hlt
      obtain rfl : ⟨w.heap.size, 0, none⟩ = ad := by injection e1
      obtain ⟨x, hx⟩ : ∃ x, x = t[k] := ⟨_, rfl⟩
      have hadd : (⟨w.heap.size, 0, none⟩ : Addr).add k = ⟨w.heap.size, k, none⟩ := by unfold Addr.add; split <;> simp_all
      rw [← hx, hadd] at hcell
      have hxl := x.toNat_lt
      have hbad : okB x = false → plainV t = false := fun h => by
        unfold plainV
        have : t.all okB = false := by
          rw [List.all_eq_false]
          exact ⟨t[k], List.getElem_mem hlt, by rw [← hx, h]; simp⟩
        rw [this]; rfl
      have hgood : okB x = true → (t.take (k + 1)).all okB = true := fun h => by
        rw [List.take_succ_eq_append_getElem hlt, List.all_append, hall.out, ← hx]
        simp [h]
      have Hb := Lib.hid hbad
      have Hg := Lib.hid hgood
      clear hbad hgood hx hall e1 hadd
      by_cases h1 : x.toNat < 32
      · have hz : ((x.toNat : Int) < 32) = True := eq_true (by omega)
        go_wp2
        go_ret
        exact ⟨by rw [Hb.out (by simp [okB]; omega)]; rfl, ht⟩
      have hz : ((x.toNat : Int) < 32) = False := eq_false (by omega)
      by_cases h2 : 126 < x.toNat
      · have hy : (126 < (x.toNat : Int)) = True := eq_true (by omega)
        go_wp2
        go_ret
        exact ⟨by rw [Hb.out (by simp [okB]; omega)]; rfl, ht⟩
      · have hy : (126 < (x.toNat : Int)) = False := eq_false (by omega)
        go_wp2
        go_round
        case rel => exact ⟨k + 1, by omega, by go_num, Lib.hid (Hg.out (by simp [okB]; omega))⟩
        case measure => simp [intOf]; omega
    · obtain rfl : k = t.length := by omega
      have hfin : plainV t = decide ((t.length : Int) ≤ 64) := by
        have h := hall.out
        rw [List.take_length] at h
        unfold plainV
        rw [h, Bool.true_and]
        exact decide_eq_decide.2 (by omega)
      have Hf := Lib.hid hfin
      clear hfin hall
      go_wp2
      go_ret
      exact ⟨by rw [Hf.out]; rfl, ht⟩
/-- is a value right? -/
def VD.right (v : VD) : Bool :=
  if v.kind = 0 then decide (v.num = 0) && v.text.toList.isEmpty else if v.kind = 1 then v.text.toList.isEmpty else if v.kind = 2 then decide (v.num = 0) && plainV v.text.data.toList else false

set_option maxRecDepth 20000 in
set_option maxHeartbeats 800000 in
theorem right_any (v : VD) (hs : v.text.size ≤ 140737000000000) (w : World) :
    Calls Tryz.prog 147 #[v.val] w fun e w' => e = .returned (.bool v.right) ∧ Touch [] w w' := by
  obtain ⟨k, n, s⟩ := v
  dsimp only [VD.val] at *
  go_enter Tryz.func147, Tryz.ntmps147
  have t0 := (Touch.refl [] w).alloc (.cells #[.int .i64 k, .int .i64 n, .string s] 31)
  have hp := plain_any s.data.toList (by rw [size_toList]; exact hs) (w.alloc (.cells #[.int .i64 2, .int .i64 0, .string s] 31))
  rw [S_of] at hp
  have Hp := Lib.hid hp
  clear hp
  by_cases h0 : k = 0
  · subst h0
    by_cases hn : n = 0
    · subst hn
      go_wp2_with fail
      go_ret
      exact ⟨rfl, t0⟩
    · have hne : (n == 0) = false := by simpa using hn
      have hr : VD.right ⟨0, n, s⟩ = false := by simp [VD.right, hn]
      have Hr := Lib.hid hr
      clear hr
      go_wp2_with fail
      go_ret
      exact ⟨by rw [Hr.out]; rfl, t0⟩
  by_cases h1 : k = 1
  · subst h1
    go_wp2_with fail
    go_ret
    exact ⟨rfl, t0⟩
  by_cases h2 : k = 2
  · subst h2
    by_cases hn : n = 0
    · subst hn
      go_wp2_with fail
      refine Hp.out.mono ?_
      rintro e w1 ⟨rfl, t1⟩
      go_wp2_with fail
      go_ret
      exact ⟨rfl, t0.trans0 t1⟩
    · have hne : (n == 0) = false := by simpa using hn
      have hr : VD.right ⟨2, n, s⟩ = false := by simp [VD.right, hn]
      have Hr := Lib.hid hr
      clear hr
      go_wp2_with fail
      go_ret
      exact ⟨by rw [Hr.out]; rfl, t0⟩
  · have hr : VD.right ⟨k, n, s⟩ = false := by simp [VD.right, h0, h1, h2]
    have Hr := Lib.hid hr
    clear hr
    go_wp2_with fail
    go_ret
    exact ⟨by rw [Hr.out]; rfl, t0⟩
end Go.Proofs.YtafoklilkdnepaaGreatDoor

/- Rows of structs: what a slice of structs leads to; such a slice of the calls' own. No condition. -/
namespace Go.Proofs.YtafoklilkdnepaaGreatDoor
open Go.RowKit

theorem flat_length {α β : Type} (enc : α → List β) (k : Nat) (hk : ∀ x, (enc x).length = k) (xs : List α) : (xs.flatMap enc).length = xs.length * k := by
  induction xs with
  | nil => simp
  | cons x xs ih => rw [List.flatMap_cons, List.length_append, hk, ih, List.length_cons, Nat.add_mul]; omega
theorem flat_get {α β : Type} (enc : α → List β) (k : Nat) (hk : ∀ x, (enc x).length = k) (xs : List α) (i j : Nat) (hi : i < xs.length) (hj : j < k) : (xs.flatMap enc)[i * k + j]? = (enc xs[i])[j]? := by
  induction xs generalizing i with
  | nil => simp at hi
  | cons x xs ih =>
    rw [List.flatMap_cons]
    rcases i with _ | i
    · rw [Nat.zero_mul, Nat.zero_add, List.getElem?_append_left (by rw [hk]; exact hj)]; rfl
    · have h1 : (i + 1) * k + j = (enc x).length + (i * k + j) := by rw [hk, Nat.add_mul]; omega
      rw [h1, List.getElem?_append_right (Nat.le_add_right _ _), Nat.add_sub_cancel_left]
      exact ih i (by simpa using hi)

/-- a slice's address leads to these structs -/
def RdK {α : Type} (enc : α → List Value) (w : World) (A : Option Addr) (xs : List α) : Prop := Rd w A (xs.flatMap enc)
theorem RdK.touch0 {α : Type} {enc : α → List Value} {w w' : World} {A : Option Addr} {xs : List α} (h : RdK enc w A xs) (ht : Touch [] w w') : RdK enc w' A xs := Rd.touch0 h ht
theorem RdK.touch {α : Type} {enc : α → List Value} {w w' : World} {A : Option Addr} {xs : List α} {fp : List Nat} (h : RdK enc w A xs) (ht : Touch fp w w') (hn : ∀ b ∈ fpo A, b ∉ fp) : RdK enc w' A xs := Rd.touch h ht hn
theorem RdK.nil {α : Type} (enc : α → List Value) (w : World) (A : Option Addr) : RdK enc w A [] := Rd.nil w A
theorem RdK.at_ {α : Type} {enc : α → List Value} {w : World} {A : Option Addr} {xs : List α} (h : RdK enc w A xs) (k : Nat) (hk : ∀ x, (enc x).length = k) (h0 : 0 < k) (i : Nat) (hi : i < xs.length) :
    ∃ ad b off, A = some ad ∧ ad.add (i * k) = ⟨b, off, none⟩ ∧ b = ad.block ∧ ∀ j u, (enc xs[i])[j]? = some u → w.cell? ⟨b, off + j, none⟩ = some u := by
  have hpos : 0 < (xs.flatMap enc).length := by rw [flat_length enc k hk]; exact Nat.mul_pos (by omega) h0
  obtain ⟨ad, rfl, hc⟩ := h hpos
  have hall : ∀ j u, (enc xs[i])[j]? = some u → w.cell? ((ad.add (i * k)).add j) = some u := fun j u hu => by
    have hj : j < k := by have := (List.getElem?_eq_some_iff.1 hu).1; rwa [hk] at this
    rw [add_of_add]
    exact hc _ u (by rw [flat_get enc k hk xs i j hi hj]; exact hu)
  have hfirst : (enc xs[i])[0]? = some ((enc xs[i])[0]'(by rw [hk]; exact h0)) := List.getElem?_eq_getElem _
  have h1 := hall 0 _ hfirst
  have hb := block_of_add ad (i * k)
  rcases hp : ad.add (i * k) with ⟨b, off, spot⟩
  rw [hp] at h1 hall hb
  have e0 : (⟨b, off, spot⟩ : Addr).add 0 = ⟨b, off, spot⟩ := by simp [Addr.add]
  rw [e0] at h1
  obtain rfl : spot = none := by simpa using World.cell?_spot h1
  refine ⟨ad, b, off, rfl, hp, hb, fun j u hu => ?_⟩
  have := hall j u hu
  have e1 : (⟨b, off, none⟩ : Addr).add j = ⟨b, off + j, none⟩ := by unfold Addr.add; split <;> simp_all
  rwa [e1] at this

/-- a slice of structs that the calls own -/
def OwnK {α : Type} (t k : Nat) (enc : α → List Value) (w : World) (A : Option Addr) (c : Nat) (xs : List α) : Prop := w.ownsRow 0 t k (.slice A xs.length c) xs.length (xs.flatMap enc)
theorem OwnK.nil {α : Type} (t k : Nat) (enc : α → List Value) (w : World) : OwnK t k enc w none 0 [] := World.ownsRow_nil _ _ _ _
theorem OwnK.head {α : Type} {t k : Nat} {enc : α → List Value} {w : World} {A : Option Addr} {c : Nat} {xs : List α} (h : OwnK t k enc w A c xs) : A = none ∧ xs = [] ∧ c = 0 ∨ ∃ g, A = some ⟨g, 0, none⟩ := by
  rcases h.2 with ⟨hv, h0⟩ | ⟨g, cap, cur, hv, _⟩
  · injection hv with hA _ hc; exact .inl ⟨hA, List.eq_nil_of_length_eq_zero h0, hc⟩
  · injection hv with hA _ _; exact .inr ⟨g, hA⟩
theorem OwnK.rd {α : Type} {t k : Nat} {enc : α → List Value} {w : World} {A : Option Addr} {c : Nat} {xs : List α} (h : OwnK t k enc w A c xs) : RdK enc w A xs := by
  intro h0
  rcases h.2 with hv | ⟨g, cap, cur, hv, _⟩
  · obtain rfl := List.eq_nil_of_length_eq_zero hv.2
    simp at h0
  · have hA : A = some ⟨g, 0, none⟩ := by injection hv
    subst hA
    exact ⟨_, rfl, World.ownsRow.cells h (g := g) rfl⟩
theorem OwnK.le {α : Type} {t k : Nat} {enc : α → List Value} {w : World} {A : Option Addr} {c : Nat} {xs : List α} (h : OwnK t k enc w A c xs) : xs.length ≤ c := by
  obtain ⟨_, ⟨hv, hn⟩ | ⟨g, cap, cur, hv, _, _, hnc, _⟩⟩ := h
  · omega
  · injection hv with _ _ h3; omega
theorem OwnK.touch {α : Type} {t k : Nat} {enc : α → List Value} {w w' : World} {A : Option Addr} {c : Nat} {xs : List α} {fp : List Nat} (h : OwnK t k enc w A c xs) (ht : Touch fp w w') (hn : ∀ b ∈ fpo A, b ∉ fp) : OwnK t k enc w' A c xs := by
  refine ⟨h.1, ?_⟩
  rcases h.2 with hv | ⟨g, cap, cur, hv, hb, hg, rest⟩
  · exact .inl hv
  · have hA : A = some ⟨g, 0, none⟩ := by injection hv
    subst hA
    exact .inr ⟨g, cap, cur, hv, hb, ht.blk hg (hn g (by simp [fpo])), rest⟩
theorem OwnK.touch0 {α : Type} {t k : Nat} {enc : α → List Value} {w w' : World} {A : Option Addr} {c : Nat} {xs : List α} (h : OwnK t k enc w A c xs) (ht : Touch [] w w') : OwnK t k enc w' A c xs := h.touch ht (by simp)
theorem OwnK.lt {α : Type} {t k : Nat} {enc : α → List Value} {w : World} {A : Option Addr} {c : Nat} {xs : List α} (h : OwnK t k enc w A c xs) : ∀ b ∈ fpo A, b < w.heap.size := by
  intro b hb
  rcases h.2 with ⟨hv, _⟩ | ⟨g, cap, cur, hv, _, hg, _⟩
  · injection hv with hA _ _; subst hA; cases hb
  · have hA : A = some ⟨g, 0, none⟩ := by injection hv
    subst hA
    have : b = g := by simpa [fpo] using hb
    subst this
    exact (Array.getElem?_eq_some_iff.1 hg).1
theorem OwnK.empty_new {α : Type} (t k : Nat) (enc : α → List Value) (w : World) : OwnK t k enc (w.alloc (.cells #[] t)) (some ⟨w.heap.size, 0, none⟩) 0 [] :=
  ⟨by simp, .inr ⟨w.heap.size, 0, #[], rfl, Nat.zero_le _, heap_alloc_new w _, Nat.le_refl _, Nat.zero_le _, by simp, by simp⟩⟩

/-- append onto structs that the calls own -/
theorem wpList_appK {α : Type} {enc : α → List Value} {w : World} {ops : Array Oper} {rest : List Oper} {o : Oper} {a : Act} {Q : Exit → Act → World → Prop} (hgd : o.guard = none) (s x : Operand) (t : TypeId)
    (ho : o.op = .call { callee := .builtin .append, args := #[s, x], argTypes := #[t, t] })
    (e : TypeId) (z : Value) (k bytes : Nat) (hinfo : (Tryz.prog.info? e).map (fun i => (i.zero, i.size, i.bytes)) = some (some z, k, bytes)) (ht : Tryz.prog.underlying t = some (.slice e))
    (hzs : z.cells.size = k) (hsz : 0 < k) (hk : ∀ x, (enc x).length = k) (hone : ∀ x, ∀ u ∈ enc x, u.oneCell' = true)
    (A0 : Option Addr) (n c0 : Nat) (xs : List α) (hn : xs.length = n) (hs : a.eval s = .slice A0 n c0) (hown : OwnK e k enc w A0 c0 xs)
    (A : Option Addr) (m c : Nat) (news : List α) (hm : news.length = m) (hx : a.eval x = .slice A m c) (hr : RdK enc w A news) (h63 : n + m ≤ 1000000000) (hby : bytes ≤ 1000)
    (h : ∀ A' c' w', OwnK e k enc w' A' c' (xs ++ news) → Touch (fpo A0) w w' → (∀ b ∈ fpo A', b ∈ fpo A0 ∨ b = w.heap.size) → wpList Tryz.prog ops Q rest (a.put o.dst (.slice A' (n + m) c')) w') :
    wpList Tryz.prog ops Q (o :: rest) a w := by
  obtain ⟨i0, hi0, hz0, hz1, hz2⟩ := info_parts hinfo
  subst hn hm
  have hb : (xs.length + news.length) * bytes ≤ 1000000000 * 1000 := Nat.mul_le_mul h63 hby
  refine wpList_app w hgd s x t ho e i0 z k bytes ht hi0 hz0 hz1 hz2 hzs hsz A0 xs.length c0 _ hs hown A news.length c (news.flatMap enc) hx (flat_length enc k hk news) hr
    (fun u hu => by obtain ⟨y, _, hy⟩ := List.mem_flatMap.1 hu; exact hone y u hy) (by simp only [maxLen]; omega) (by omega) ?_
  intro A' c' w' h2 h3 h4
  exact h A' c' w' (by unfold OwnK; rw [List.flatMap_append, List.length_append]; exact h2) h3 h4

/-- the same as one step of a region that draws its order -/
theorem step_appK {α : Type} {enc : α → List Value} {w : World} {ops : Array Oper} {o : Oper} {a : Act} {K : Act → World → Prop} {Q : Exit → Act → World → Prop} {E : Prop} (hgd : o.guard = none) (s x : Operand) (t : TypeId)
    (ho : o.op = .call { callee := .builtin .append, args := #[s, x], argTypes := #[t, t] })
    (e : TypeId) (z : Value) (k bytes : Nat) (hinfo : (Tryz.prog.info? e).map (fun i => (i.zero, i.size, i.bytes)) = some (some z, k, bytes)) (ht : Tryz.prog.underlying t = some (.slice e))
    (hzs : z.cells.size = k) (hsz : 0 < k) (hk : ∀ x, (enc x).length = k) (hone : ∀ x, ∀ u ∈ enc x, u.oneCell' = true)
    (A0 : Option Addr) (n c0 : Nat) (xs : List α) (hn : xs.length = n) (hs : a.eval s = .slice A0 n c0) (hown : OwnK e k enc w A0 c0 xs)
    (A : Option Addr) (m c : Nat) (news : List α) (hm : news.length = m) (hx : a.eval x = .slice A m c) (hr : RdK enc w A news) (h63 : n + m ≤ 1000000000) (hby : bytes ≤ 1000)
    (h : ∀ A' c' w', OwnK e k enc w' A' c' (xs ++ news) → Touch (fpo A0) w w' → (∀ b ∈ fpo A', b ∈ fpo A0 ∨ b = w.heap.size) → K (a.put o.dst (.slice A' (n + m) c')) w') :
    if Region.wanted o (yielded ops a.tmps) = true then Oper.wp Tryz.prog o a w K Q else E := by
  obtain ⟨i0, hi0, hz0, hz1, hz2⟩ := info_parts hinfo
  subst hn hm
  have hb : (xs.length + news.length) * bytes ≤ 1000000000 * 1000 := Nat.mul_le_mul h63 hby
  refine step_app w hgd s x t ho e i0 z k bytes ht hi0 hz0 hz1 hz2 hzs hsz A0 xs.length c0 _ hs hown A news.length c (news.flatMap enc) hx (flat_length enc k hk news) hr
    (fun u hu => by obtain ⟨y, _, hy⟩ := List.mem_flatMap.1 hu; exact hone y u hy) (by simp only [maxLen]; omega) (by omega) ?_
  intro A' c' w' h2 h3 h4
  exact h A' c' w' (by unfold OwnK; rw [List.flatMap_append, List.length_append]; exact h2) h3 h4

/-- one struct in a block of its own -/
theorem RdK.one {α : Type} {enc : α → List Value} (w : World) (t : TypeId) (x : α) (cs : Array Value) (h : cs.toList = enc x) : RdK enc (w.alloc (.cells cs t)) (some ⟨w.heap.size, 0, none⟩) [x] := fun _ =>
  ⟨_, rfl, fun j u hu => by
    have hadd : (⟨w.heap.size, 0, none⟩ : Addr).add j = ⟨w.heap.size, j, none⟩ := by unfold Addr.add; split <;> simp_all
    rw [hadd, cell_of_row _ w.heap.size j cs t (0, 0) (heap_alloc_new w _)]
    simpa [← h] using hu⟩
/-- a row in a block just made -/
theorem RdK.row {α : Type} {enc : α → List Value} (w : World) (t : TypeId) (l : List α) (cs : Array Value) (h : cs.toList = l.flatMap enc) : RdK enc (w.alloc (.cells cs t)) (some ⟨w.heap.size, 0, none⟩) l := fun _ =>
  ⟨_, rfl, fun j u hu => by
    have hadd : (⟨w.heap.size, 0, none⟩ : Addr).add j = ⟨w.heap.size, j, none⟩ := by unfold Addr.add; split <;> simp_all
    rw [hadd, cell_of_row _ w.heap.size j cs t (0, 0) (heap_alloc_new w _)]
    rw [← h] at hu
    simpa using hu⟩
end Go.Proofs.YtafoklilkdnepaaGreatDoor

/- Trees of expressions, and how they lie in memory. No program's function. -/
namespace Go.Proofs.YtafoklilkdnepaaGreatDoor
open Go.RowKit

/-- an expression's own things -/
structure ND where
  kind : Int
  name : ByteArray
  v : VD
  op : ByteArray
/-- numbers within bounds, texts short -/
structure ND.Ok (d : ND) (m : Nat) : Prop where
  k : -9223372036854775808 ≤ d.kind ∧ d.kind ≤ 9223372036854775807
  n : d.name.size ≤ m
  v : d.v.Ok m
  o : d.op.size ≤ m
/-- expressions of so many levels at most -/
def TX : Nat → Type
  | 0 => PEmpty
  | n + 1 => ND × List (TX n)
/-- what an expression's cells hold -/
structure XC where
  nd : ND
  A : Option Addr
  n : Nat
  c : Nat
/-- as the program lays it -/
def xcE (x : XC) : List Value := [.int .i64 x.nd.kind, .string x.nd.name, .int .i64 x.nd.v.kind, .int .i64 x.nd.v.num, .string x.nd.v.text, .string x.nd.op, .slice x.A x.n x.c]
/-- as the document's answer lays it -/
def xcR (x : XC) : List Value := [.int .i64 x.nd.kind, .string x.nd.name, .string x.nd.op, .int .i64 x.nd.v.kind, .int .i64 x.nd.v.num, .string x.nd.v.text, .slice x.A x.n x.c]
theorem xcE_length (x : XC) : (xcE x).length = 7 := rfl
theorem xcR_length (x : XC) : (xcR x).length = 7 := rfl
theorem xcE_one (x : XC) : ∀ u ∈ xcE x, u.oneCell' = true := by
  intro u hu
  simp only [xcE, List.mem_cons, List.not_mem_nil, or_false] at hu
  rcases hu with rfl | rfl | rfl | rfl | rfl | rfl | rfl <;> rfl
theorem xcR_one (x : XC) : ∀ u ∈ xcR x, u.oneCell' = true := by
  intro u hu
  simp only [xcR, List.mem_cons, List.not_mem_nil, or_false] at hu
  rcases hu with rfl | rfl | rfl | rfl | rfl | rfl | rfl <;> rfl

/-- these cells, and what they lead to, are this tree; its blocks are such -/
def ExP (enc : XC → List Value) (p : Nat → Prop) : (n : Nat) → World → XC → TX n → Prop
  | 0, _, _, _ => False
  | n + 1, w, x, e => x.nd = e.1 ∧ x.n = e.2.length ∧ (∀ b ∈ fpo x.A, p b) ∧ ∃ xs : List XC, xs.length = e.2.length ∧ RdK enc w x.A xs ∧ ∀ i (h1 : i < xs.length) (h2 : i < e.2.length), ExP enc p n w xs[i] e.2[i]
def anyB : Nat → Prop := fun _ => True
theorem ExP.mono {enc : XC → List Value} {p q : Nat → Prop} (hpq : ∀ b, p b → q b) : ∀ {n : Nat} {w : World} {x : XC} {e : TX n}, ExP enc p n w x e → ExP enc q n w x e
  | 0, _, _, _, h => h.elim
  | _ + 1, _, _, _, ⟨h1, h2, h3, xs, h4, h5, h6⟩ => ⟨h1, h2, fun b hb => hpq b (h3 b hb), xs, h4, h5, fun i a b => ExP.mono hpq (h6 i a b)⟩
theorem ExP.any {enc : XC → List Value} {p : Nat → Prop} {n : Nat} {w : World} {x : XC} {e : TX n} (h : ExP enc p n w x e) : ExP enc anyB n w x e := h.mono fun _ _ => trivial
theorem ExP.touch {enc : XC → List Value} {p : Nat → Prop} {fp : List Nat} : ∀ {n : Nat} {w w' : World} {x : XC} {e : TX n}, ExP enc p n w x e → Touch fp w w' → (∀ b ∈ fp, ¬ p b) → ExP enc p n w' x e
  | 0, _, _, _, _, h, _, _ => h.elim
  | _ + 1, _, _, _, _, ⟨h1, h2, h3, xs, h4, h5, h6⟩, ht, hp => ⟨h1, h2, h3, xs, h4, RdK.touch h5 ht (fun b hb hm => hp b hm (h3 b hb)), fun i a b => ExP.touch (h6 i a b) ht hp⟩
theorem ExP.touch0 {enc : XC → List Value} {p : Nat → Prop} {n : Nat} {w w' : World} {x : XC} {e : TX n} (h : ExP enc p n w x e) (ht : Touch [] w w') : ExP enc p n w' x e := h.touch ht (by simp)
/-- the Args of an expression lie so -/
def ArgsP (enc : XC → List Value) (p : Nat → Prop) (n : Nat) (w : World) (A : Option Addr) (args : List (TX n)) : Prop :=
  ∃ xs : List XC, xs.length = args.length ∧ RdK enc w A xs ∧ ∀ i (h1 : i < xs.length) (h2 : i < args.length), ExP enc p n w xs[i] args[i]
theorem ArgsP.touch0 {enc : XC → List Value} {p : Nat → Prop} {n : Nat} {w w' : World} {A : Option Addr} {args : List (TX n)} (h : ArgsP enc p n w A args) (ht : Touch [] w w') : ArgsP enc p n w' A args := by
  obtain ⟨xs, h1, h2, h3⟩ := h
  exact ⟨xs, h1, RdK.touch0 h2 ht, fun i a b => (h3 i a b).touch0 ht⟩
theorem ArgsP.nil (enc : XC → List Value) (p : Nat → Prop) (n : Nat) (w : World) (A : Option Addr) : ArgsP enc p n w A [] := ⟨[], rfl, RdK.nil _ _ _, fun i h => absurd h (by simp)⟩
/-- the cells of one of the Args -/
theorem ArgsP.at_ {enc : XC → List Value} (hE : ∀ x, (enc x).length = 7) {p : Nat → Prop} {n : Nat} {w : World} {A : Option Addr} {args : List (TX n)} (h : ArgsP enc p n w A args) (i : Nat) (hi : i < args.length) :
    ∃ ad b off x, A = some ad ∧ ad.add (i * 7) = ⟨b, off, none⟩ ∧ ExP enc p n w x args[i] ∧ ∀ j u, (enc x)[j]? = some u → w.cell? ⟨b, off + j, none⟩ = some u := by
  obtain ⟨xs, h1, h2, h3⟩ := h
  obtain ⟨ad, b, off, e1, e2, _, e3⟩ := RdK.at_ h2 7 hE (by omega) i (by omega)
  exact ⟨ad, b, off, xs[i], e1, e2, h3 i (by omega) hi, e3⟩
theorem ExP.args {enc : XC → List Value} {p : Nat → Prop} {n : Nat} {w : World} {x : XC} {e : TX (n + 1)} (h : ExP enc p (n + 1) w x e) : x.nd = e.1 ∧ x.n = e.2.length ∧ ArgsP enc p n w x.A e.2 := ⟨h.1, h.2.1, h.2.2.2⟩

/-- a thing of each expression holds throughout -/
def allX (q : ND → Prop) : (n : Nat) → TX n → Prop
  | 0, _ => True
  | n + 1, e => q e.1 ∧ ∀ a ∈ e.2, allX q n a
/-- how many expressions -/
def sizeX : (n : Nat) → TX n → Nat
  | 0, _ => 0
  | n + 1, e => 1 + (e.2.map (sizeX n)).sum
/-- .. in a row -/
def sumX (n : Nat) (l : List (TX n)) : Nat := (l.map (sizeX n)).sum
theorem sumX_snoc (n : Nat) (l : List (TX n)) (k : Nat) (h : k < l.length) : sumX n (l.take (k + 1)) = sumX n (l.take k) + sizeX n l[k] := by
  unfold sumX
  rw [List.take_succ_eq_append_getElem h, List.map_append, List.sum_append]; simp
theorem sizeX_succ (n : Nat) (e : TX (n + 1)) : sizeX (n + 1) e = 1 + sumX n e.2 := rfl
theorem sizeX_pos : ∀ (n : Nat) (e : TX n), 1 ≤ sizeX n e
  | 0, e => e.elim
  | n + 1, e => by unfold sizeX; omega
theorem len_le_sum (n : Nat) (l : List (TX n)) : l.length ≤ sumX n l := by
  unfold sumX
  induction l with
  | nil => simp
  | cons a l ih => have := sizeX_pos n a; simp; omega
theorem sum_take_le (n : Nat) (l : List (TX n)) (k : Nat) : sumX n (l.take k) ≤ sumX n l := by
  unfold sumX
  induction l generalizing k with
  | nil => simp
  | cons a l ih => cases k with
    | zero => simp
    | succ k => have := ih k; rw [List.take_succ_cons, List.map_cons, List.map_cons, List.sum_cons, List.sum_cons]; omega
theorem size_mem {n : Nat} {l : List (TX n)} {a : TX n} (h : a ∈ l) : sizeX n a ≤ sumX n l := by
  unfold sumX
  induction l with
  | nil => cases h
  | cons b l ih =>
    rcases List.mem_cons.1 h with rfl | h
    · simp
    · have := ih h; simp; omega
/-- what is handed over -/
def XC.val (x : XC) : Value := .agg #[.int .i64 x.nd.kind, .string x.nd.name, .int .i64 x.nd.v.kind, .int .i64 x.nd.v.num, .string x.nd.v.text, .string x.nd.op, .slice x.A x.n x.c]
def XC.valR (x : XC) : Value := .agg #[.int .i64 x.nd.kind, .string x.nd.name, .string x.nd.op, .int .i64 x.nd.v.kind, .int .i64 x.nd.v.num, .string x.nd.v.text, .slice x.A x.n x.c]
/-- are both one? -/
def eqN (a b : ND) : Bool := decide (a.kind = b.kind) && (decide (a.name = b.name) && ((decide (a.v.kind = b.v.kind) && (decide (a.v.num = b.v.num) && decide (a.v.text = b.v.text))) && decide (a.op = b.op)))
def eqL {α : Type} (f : α → α → Bool) : List α → List α → Bool
  | [], [] => true
  | a :: r, b :: s => f a b && eqL f r s
  | _, _ => false
def eqX : (n : Nat) → TX n → TX n → Bool
  | 0, _, _ => true
  | n + 1, a, b => eqN a.1 b.1 && eqL (eqX n) a.2 b.2
theorem eqN_iff (a b : ND) : eqN a b = true ↔ a = b := by
  obtain ⟨ak, an, ⟨x1, x2, x3⟩, ao⟩ := a
  obtain ⟨bk, bn, ⟨y1, y2, y3⟩, bo⟩ := b
  simp [eqN]
theorem eqL_iff {α : Type} {f : α → α → Bool} (hf : ∀ a b, f a b = true ↔ a = b) : ∀ l r : List α, eqL f l r = true ↔ l = r
  | [], [] => by simp [eqL]
  | [], _ :: _ => by simp [eqL]
  | _ :: _, [] => by simp [eqL]
  | a :: l, b :: r => by simp [eqL, hf, eqL_iff hf l r]
theorem eqX_iff : ∀ (n : Nat) (a b : TX n), eqX n a b = true ↔ a = b
  | 0, a, _ => a.elim
  | n + 1, a, b => by
    obtain ⟨d, l⟩ := a
    obtain ⟨f, r⟩ := b
    show (eqN d f && eqL (eqX n) l r) = true ↔ _
    rw [Bool.and_eq_true, eqN_iff, eqL_iff (eqX_iff n)]
    constructor
    · rintro ⟨rfl, rfl⟩; rfl
    · intro h; cases h; exact ⟨rfl, rfl⟩
end Go.Proofs.YtafoklilkdnepaaGreatDoor

/- Rows of numbers as they lie in memory. No program's function. -/
namespace Go.Proofs.YtafoklilkdnepaaGreatDoor
open Go.RowKit

/-- a number's cell -/
def inE (n : Int) : List Value := [.int .i64 n]
theorem inE_length (n : Int) : (inE n).length = 1 := rfl
theorem inE_one (n : Int) : ∀ u ∈ inE n, u.oneCell' = true := by
  intro u hu
  obtain rfl : u = .int .i64 n := by simpa [inE] using hu
  rfl
theorem RdKI.at_ {w : World} {A : Option Addr} {l : List Int} (h : RdK inE w A l) (i : Nat) (hi : i < l.length) : ∃ ad, A = some ad ∧ w.cell? (ad.add i) = some (.int .i64 l[i]) := by
  obtain ⟨ad, b, off, h1, h2, _, h3⟩ := RdK.at_ h 1 inE_length (by omega) i hi
  rw [Nat.mul_one] at h2
  exact ⟨ad, h1, by rw [h2]; exact h3 0 _ rfl⟩
end Go.Proofs.YtafoklilkdnepaaGreatDoor

/- The contracts of Go library functions at this translation, laid in plain words by the tool of the kit; no condition. -/
namespace Go.Proofs
open Go.Shelf
def Tryz.lays106_ren : Go.Shelf.Ren := ⟨fun | 106 => 157 | 213 => 190 | 265 => 206 | n => n, fun | 9 => 9 | 3 => 3 | n => n, fun | n => n⟩
theorem Tryz.lays106 : Go.Proofs.Lays.n106 Tryz.prog Tryz.lays106_ren := {
  mixed := by kernel_rfl
  f106 := Tryz.func157.trans (congrArg some (by kernel_rfl))
  f213 := Tryz.func190.trans (congrArg some (by kernel_rfl))
  f265 := Tryz.func206.trans (congrArg some (by kernel_rfl))
  t3 := Tryz.underlying3
  a3 := Tryz.isAgg3
  z3 := Tryz.sizeOf3
  v3 := Tryz.zeroValue3
  t9 := Tryz.underlying9
  a9 := Tryz.isAgg9
  z9 := Tryz.sizeOf9
  v9 := Tryz.zeroValue9 }
open Go.RowKit in
/-- strings.Compare: "Compare returns an integer comparing two strings lexicographically. The result will be 0 if a == b, -1 if a < b, and +1 if a > b.": IT RETURNS 'Lib.compareBytes a b'; the world is as it was. (LAID: no walk: one application.) -/
theorem Tryz.strings_Compare (a b : ByteArray) (w : World) :
    Calls Tryz.prog 157 #[.string a, .string b] w fun e w' => e = .returned (.int .i64 (Lib.compareBytes a.data.toList b.data.toList)) ∧ w' = w := Any.strings_Compare Tryz.lays106 a b w
def Tryz.lays122_ren : Go.Shelf.Ren := ⟨fun | 122 => 156 | 215 => 189 | n => n, fun | 3 => 3 | 4 => 4 | n => n, fun | n => n⟩
theorem Tryz.lays122 : Go.Proofs.Lays.n122 Tryz.prog Tryz.lays122_ren := {
  mixed := by kernel_rfl
  f122 := Tryz.func156.trans (congrArg some (by kernel_rfl))
  f215 := Tryz.func189.trans (congrArg some (by kernel_rfl))
  t3 := Tryz.underlying3
  a3 := Tryz.isAgg3
  z3 := Tryz.sizeOf3
  v3 := Tryz.zeroValue3
  t4 := Tryz.underlying4
  a4 := Tryz.isAgg4
  z4 := Tryz.sizeOf4
  v4 := Tryz.zeroValue4 }
open Go.RowKit in
/-- cmp.Compare at int: "Compare returns -1 if x is less than y, 0 if x equals y, +1 if x is greater than y.": IT RETURNS 'Lib.compareInt x y'; the world is as it was. (LAID: no walk: one application.) -/
theorem Tryz.cmp_Compare_int (x y : Int) (w : World) :
    Calls Tryz.prog 156 #[.int .i64 x, .int .i64 y] w fun e w' => e = .returned (.int .i64 (Lib.compareInt x y)) ∧ w' = w := Any.cmp_Compare_int Tryz.lays122 x y w
end Go.Proofs

/- The order of values and of rows: cmp.Or, value.Value.Cmp. For every values. -/
namespace Go.Proofs.YtafoklilkdnepaaGreatDoor
open Go.RowKit

/-- the first that is not 0 -/
def orV : List Int → Int
  | [] => 0
  | x :: r => if x = 0 then orV r else x
def cmpVV (a b : VD) : Int := orV [Lib.compareInt a.kind b.kind, Lib.compareInt a.num b.num, Lib.compareBytes a.text.data.toList b.text.data.toList]
def cmpRV : List VD → List VD → Int
  | [], [] => 0
  | [], _ :: _ => -1
  | _ :: _, [] => 1
  | a :: l, b :: r => if cmpVV a b = 0 then cmpRV l r else cmpVV a b

theorem compareInt_neg (x y : Int) : Lib.compareInt y x = -Lib.compareInt x y := by
  unfold Lib.compareInt
  split <;> split <;> (try split) <;> omega
theorem compareInt_b (x y : Int) : -1 ≤ Lib.compareInt x y ∧ Lib.compareInt x y ≤ 1 := by
  unfold Lib.compareInt
  split <;> (try split) <;> omega
theorem compareBytes_neg : ∀ (x y : List UInt8), Lib.compareBytes y x = -Lib.compareBytes x y
  | [], [] => rfl
  | [], _ :: _ => rfl
  | _ :: _, [] => rfl
  | a :: l, b :: r => by
    unfold Lib.compareBytes
    by_cases h1 : a < b
    · have h2 : ¬ b < a := by rw [UInt8.lt_iff_toNat_lt] at h1 ⊢; omega
      rw [if_neg h2, if_pos h1, if_pos h1]; rfl
    · by_cases h2 : b < a
      · rw [if_pos h2, if_neg h1, if_pos h2]
      · rw [if_neg h2, if_neg h1, if_neg h1, if_neg h2]; exact compareBytes_neg l r
theorem compareBytes_b : ∀ (x y : List UInt8), -1 ≤ Lib.compareBytes x y ∧ Lib.compareBytes x y ≤ 1
  | [], [] => ⟨by decide, by decide⟩
  | [], _ :: _ => ⟨Int.le_refl (-1), show (-1 : Int) ≤ 1 by decide⟩
  | _ :: _, [] => ⟨show (-1 : Int) ≤ 1 by decide, Int.le_refl 1⟩
  | a :: l, b :: r => by
    unfold Lib.compareBytes
    split
    · omega
    · split
      · omega
      · exact compareBytes_b l r
theorem cmpVV_neg (a b : VD) : cmpVV b a = -cmpVV a b := by
  unfold cmpVV
  rw [compareInt_neg a.kind, compareInt_neg a.num, compareBytes_neg a.text.data.toList]
  generalize Lib.compareInt a.kind b.kind = x
  generalize Lib.compareInt a.num b.num = y
  generalize Lib.compareBytes a.text.data.toList b.text.data.toList = z
  simp only [orV]
  by_cases h1 : x = 0 <;> by_cases h2 : y = 0 <;> by_cases h3 : z = 0 <;> simp [h1, h2, h3]
theorem cmpVV_b (a b : VD) : -1 ≤ cmpVV a b ∧ cmpVV a b ≤ 1 := by
  have h1 := compareInt_b a.kind b.kind
  have h2 := compareInt_b a.num b.num
  have h3 := compareBytes_b a.text.data.toList b.text.data.toList
  unfold cmpVV
  simp only [orV]
  split
  · split
    · split <;> omega
    · omega
  · omega
theorem cmpRV_neg : ∀ (l r : List VD), cmpRV r l = -cmpRV l r
  | [], [] => rfl
  | [], _ :: _ => rfl
  | _ :: _, [] => rfl
  | a :: l, b :: r => by
    unfold cmpRV
    rw [cmpVV_neg a b]
    by_cases h : cmpVV a b = 0
    · rw [if_pos (by omega), if_pos h]; exact cmpRV_neg l r
    · rw [if_neg (by omega), if_neg h]
theorem cmpRV_b : ∀ (l r : List VD), -1 ≤ cmpRV l r ∧ cmpRV l r ≤ 1
  | [], [] => ⟨by decide, by decide⟩
  | [], _ :: _ => ⟨Int.le_refl (-1), show (-1 : Int) ≤ 1 by decide⟩
  | _ :: _, [] => ⟨show (-1 : Int) ≤ 1 by decide, Int.le_refl 1⟩
  | a :: l, b :: r => by
    unfold cmpRV
    split
    · exact cmpRV_b l r
    · exact cmpVV_b a b

set_option maxHeartbeats 800000 in
theorem or_any (A : Option Addr) (cap n : Nat) (l : List Int) (hn : l.length = n) (w : World) (h : RdK inE w A l) (hl : n ≤ 140737000000000) :
    Calls Tryz.prog 155 #[.slice A n cap] w fun e w' => e = .returned (.int .i64 (orV l)) ∧ w' = w := by
  subst hn
  go_enter Tryz.func155, Tryz.ntmps155
  go_wp2
  go_loopw [8] (fun i wr => ∃ k : Nat, k ≤ l.length ∧ i = .int .i64 k ∧ Hid (orV l = orV (l.drop k)) ∧ wr = w) (fun i _ => l.length - (intOf i).toNat)
  case atStart => exact ⟨0, by omega, rfl, Lib.hid rfl, rfl⟩
  case round =>
    obtain ⟨k, hk, rfl, Ho, rfl⟩ := hrel
    by_cases hlt : k < l.length
    · obtain ⟨ad, rfl, c0⟩ := RdKI.at_ h k hlt
      have hst : orV (l.drop k) = if l[k] = 0 then orV (l.drop (k + 1)) else l[k] := by rw [List.drop_eq_getElem_cons hlt]; rfl
      obtain ⟨x, hx⟩ : ∃ x, x = l[k] := ⟨_, rfl⟩
      rw [← hx] at hst c0
      have Hst := Lib.hid hst
      clear hst hx
      by_cases h0 : x = 0
      · subst h0
        have Hq := Lib.hid (show orV l = orV (l.drop (k + 1)) by rw [Ho.out, Hst.out, if_pos rfl])
        go_wp2
        go_roundw
        case rel => exact ⟨k + 1, by omega, by go_num, Hq, trivial⟩
        case measure => simp [intOf]; omega
      · have Hq := Lib.hid (show orV l = x by rw [Ho.out, Hst.out, if_neg h0])
        have hq : (x == 0) = false := by rw [beq_eq_false_iff_ne]; exact h0
        have hq' : (x != 0) = true := by rw [bne, hq]; rfl
        go_wp2
        go_ret
        exact ⟨ret_int Hq.out.symm, rfl⟩
    · obtain rfl : k = l.length := by omega
      have Hq := Lib.hid (show orV l = 0 by rw [Ho.out, List.drop_length]; rfl)
      go_wp2
      go_ret
      exact ⟨ret_int Hq.out.symm, rfl⟩

theorem wp_still_tail' {P : Program} {id : Nat} {Q : Exit → Act → World → Prop} {a : Act} {w : World} {l : List Oper} (n : Nat) (hm : P.follows .mixedOrders = true) (hB : Region.lexTailB .any l.toArray n = true)
    (h : ∀ w2, w2 = w.drew → wpStill P l.toArray w2 (fun a' => wpList P l.toArray Q (l.drop n) a' w2) (l.take n) a) : (Code.region id l.toArray true).wp P Q a w :=
  wp_region_still_tail n hm hB (h _ rfl)

set_option maxRecDepth 20000 in
set_option maxHeartbeats 1600000 in
theorem cmpVal_any (a b : VD) (w : World) :
    Calls Tryz.prog 112 #[a.val, b.val] w fun e w' => e = .returned (.int .i64 (cmpVV a b)) ∧ Touch [] w w' := by
  obtain ⟨k1, n1, s1⟩ := a
  obtain ⟨k2, n2, s2⟩ := b
  have h1 := fun w' => Tryz.cmp_Compare_int k1 k2 w'
  have h2 := fun w' => Tryz.cmp_Compare_int n1 n2 w'
  have h3 := fun w' => Tryz.strings_Compare s1 s2 w'
  have hc : cmpVV ⟨k1, n1, s1⟩ ⟨k2, n2, s2⟩ = orV [Lib.compareInt k1 k2, Lib.compareInt n1 n2, Lib.compareBytes s1.data.toList s2.data.toList] := rfl
  rw [hc]
  obtain ⟨x, hx⟩ : ∃ x, x = Lib.compareInt k1 k2 := ⟨_, rfl⟩
  obtain ⟨y, hy⟩ : ∃ y, y = Lib.compareInt n1 n2 := ⟨_, rfl⟩
  obtain ⟨z, hz⟩ : ∃ z, z = Lib.compareBytes s1.data.toList s2.data.toList := ⟨_, rfl⟩
  rw [← hx, ← hy, ← hz]
  rw [← hx] at h1
  rw [← hy] at h2
  rw [← hz] at h3
  have H1 := Lib.hid h1; have H2 := Lib.hid h2; have H3 := Lib.hid h3
  have t0 := (((Touch.refl [] w).alloc (.cells #[.int .i64 k1, .int .i64 n1, .string s1] 31)).alloc (.cells #[.int .i64 k2, .int .i64 n2, .string s2] 31))
  clear h1 h2 h3 hx hy hz hc
  dsimp only [VD.val]
  go_enter Tryz.func112, Tryz.ntmps112
  go_wp2_with fail
  refine wp_still_tail' 15 (by kernel_rfl) (by kernel_rfl) ?_
  intro w2 hw2
  have ta := (((Touch.refl [] (w.alloc (.cells #[.int .i64 k1, .int .i64 n1, .string s1] 31))).alloc (.cells #[.int .i64 k2, .int .i64 n2, .string s2] 31))).drew
  have tb := ((Touch.refl [] ((w.alloc (.cells #[.int .i64 k1, .int .i64 n1, .string s1] 31)).alloc (.cells #[.int .i64 k2, .int .i64 n2, .string s2] 31)))).drew
  have t2 := t0.drew
  rw [← hw2] at ta tb t2
  have hb1 := heap_alloc_new w (.cells #[.int .i64 k1, .int .i64 n1, .string s1] 31)
  have hb2 := heap_alloc_new (w.alloc (.cells #[.int .i64 k1, .int .i64 n1, .string s1] 31)) (.cells #[.int .i64 k2, .int .i64 n2, .string s2] 31)
  rw [World.size_alloc] at hb2
  have e0 := ta.cell (cell_blk hb1 (i := 0) rfl) (by simp)
  have e1 := ta.cell (cell_blk hb1 (i := 1) rfl) (by simp)
  have e2 := ta.cell (cell_blk hb1 (i := 2) rfl) (by simp)
  have f0 := tb.cell (cell_blk hb2 (i := 0) rfl) (by simp)
  have f1 := tb.cell (cell_blk hb2 (i := 1) rfl) (by simp)
  have f2 := tb.cell (cell_blk hb2 (i := 2) rfl) (by simp)
  clear hb1 hb2 ta tb t0 hw2
  simp only [List.take_succ_cons, List.take_zero, List.drop_succ_cons, List.drop_zero]
  repeat still_step
  still_call (H1.out _)
  repeat still_step
  still_call (H2.out _)
  repeat still_step
  still_call (H3.out _)
  refine wpStill_nil ?_
  have r3 : RdK inE (w2.alloc (.cells #[.int .i64 x, .int .i64 y, .int .i64 z] 3)) (some ⟨w2.heap.size, 0, none⟩) [x, y, z] := RdK.row w2 3 [x, y, z] _ rfl
  go_wp2_with fail
  refine (or_any _ 3 3 [x, y, z] rfl _ r3 (by omega)).mono ?_
  rintro e w3 ⟨rfl, rfl⟩
  go_wp2
  go_ret
  exact ⟨rfl, t2.alloc _⟩
end Go.Proofs.YtafoklilkdnepaaGreatDoor

/- A schema in plain words: names, checks, texts, what is read back. No program. -/
namespace Go.Proofs.YtafoklilkdnepaaGreatDoor

/-- a column -/
structure CD where
  name : ByteArray
  typ : Int

def letB (c : UInt8) : Bool := decide (97 ≤ c.toNat) && decide (c.toNat ≤ 122)
def innB (c : UInt8) : Bool := letB c || (decide (c.toNat = 95) || (decide (48 ≤ c.toNat) && decide (c.toNat ≤ 57)))
/-- is it a right name? -/
def nameV (s : List UInt8) : Bool := match s with
  | [] => false
  | c :: _ => decide (s.length ≤ 16) && (letB c && s.all innB)
/-- the error of a column behind others -/
def errC (pre : List CD) (c : CD) : Int :=
  if nameV c.name.data.toList = false then 13 else if c.typ ≠ 1 ∧ c.typ ≠ 2 then 12 else if (pre.any fun d => decide (d.name = c.name)) = true then 14 else 0
def chkL (pre : List CD) : List CD → Int
  | [] => 0
  | c :: r => if errC pre c = 0 then chkL (pre ++ [c]) r else errC pre c
def checkV (cs : List CD) : Int := if cs.length < 1 ∨ 16 < cs.length then 31 else chkL [] cs

theorem chk_step {cs : List CD} {k : Nat} (h : k < cs.length) : chkL (cs.take k) (cs.drop k) = if errC (cs.take k) cs[k] = 0 then chkL (cs.take (k + 1)) (cs.drop (k + 1)) else errC (cs.take k) cs[k] := by
  rw [List.drop_eq_getElem_cons h]
  show (if _ then _ else _) = _
  rw [List.take_succ_eq_append_getElem h]
theorem chk_zero {cs : List CD} {k : Nat} (h : chkL (cs.take k) (cs.drop k) = 0) (j : Nat) (h1 : k ≤ j) (h2 : j < cs.length) : errC (cs.take j) cs[j] = 0 := by
  have hk : k < cs.length := by omega
  rw [chk_step hk] at h
  by_cases he : errC (cs.take k) cs[k] = 0
  · rw [if_pos he] at h
    by_cases hj : j = k
    · subst hj; exact he
    · exact chk_zero h j (by omega) h2
  · rw [if_neg he] at h; exact absurd h he
termination_by cs.length - k
theorem errC_zero {pre : List CD} {c : CD} (h : errC pre c = 0) : nameV c.name.data.toList = true ∧ (c.typ = 1 ∨ c.typ = 2) ∧ ∀ d ∈ pre, d.name ≠ c.name := by
  unfold errC at h
  split at h
  · cases h
  · rename_i h1
    split at h
    · cases h
    · rename_i h2
      split at h
      · cases h
      · rename_i h3
        refine ⟨by simpa using h1, by omega, fun d hd he => h3 ?_⟩
        rw [List.any_eq_true]
        exact ⟨d, hd, by simpa using he⟩
theorem check_zero {cs : List CD} (h : checkV cs = 0) : 1 ≤ cs.length ∧ cs.length ≤ 16 ∧ ∀ j (hj : j < cs.length), nameV cs[j].name.data.toList = true ∧ (cs[j].typ = 1 ∨ cs[j].typ = 2) := by
  unfold checkV at h
  split at h
  · cases h
  · refine ⟨by omega, by omega, fun j hj => ?_⟩
    have := errC_zero (chk_zero (cs := cs) (k := 0) (by simpa using h) j (by omega) hj)
    exact ⟨this.1, this.2.1⟩
theorem errC_cases (pre : List CD) (c : CD) : errC pre c = 0 ∨ errC pre c = 12 ∨ errC pre c = 13 ∨ errC pre c = 14 := by
  unfold errC
  split
  · exact .inr (.inr (.inl rfl))
  · split
    · exact .inr (.inl rfl)
    · split
      · exact .inr (.inr (.inr rfl))
      · exact .inl rfl
theorem chkL_cases (pre cs : List CD) : chkL pre cs = 0 ∨ chkL pre cs = 12 ∨ chkL pre cs = 13 ∨ chkL pre cs = 14 := by
  induction cs generalizing pre with
  | nil => exact .inl rfl
  | cons c r ih =>
    have e : chkL pre (c :: r) = if errC pre c = 0 then chkL (pre ++ [c]) r else errC pre c := rfl
    rw [e]
    split
    · exact ih _
    · rcases errC_cases pre c with h | h
      · contradiction
      · exact .inr h
theorem checkV_cases (cs : List CD) : checkV cs = 0 ∨ (12 ≤ checkV cs ∧ checkV cs ≤ 31) := by
  unfold checkV
  split
  · exact .inr (by omega)
  · rcases chkL_cases [] cs with h | h
    · exact .inl h
    · right; omega

/-- the word of a type -/
def wordV (t : Int) : List UInt8 := if t = 1 then [105, 110, 116] else [116, 101, 120, 116]
def partV (c : CD) : List UInt8 := c.name.data.toList ++ 32 :: wordV c.typ
/-- the text of a right schema -/
def textV (cs : List CD) : List UInt8 := 40 :: (Lib.join (cs.map partV) [44, 32] ++ [41])
def showV (cs : List CD) : List UInt8 := if checkV cs = 0 then textV cs else []

/-- the pieces between ", " -/
def splitF (sep : List UInt8) : Nat → List UInt8 → List (List UInt8)
  | 0, s => [s]
  | f + 1, s => if Lib.index s sep = -1 then [s] else s.take (Lib.index s sep).toNat :: splitF sep f (s.drop ((Lib.index s sep).toNat + sep.length))
def splitV (s : List UInt8) (sep : List UInt8) : List (List UInt8) := splitF sep s.length s
/-- the type of a word -/
def typV (w : List UInt8) : Int := if w = [105, 110, 116] then 1 else if w = [116, 101, 120, 116] then 2 else 0
def colV (p : List UInt8) : CD := let x := Lib.cut p [32]; ⟨⟨x.1.toArray⟩, typV x.2.1⟩
/-- between the brackets -/
def bodyV (t : List UInt8) : List UInt8 := Lib.trimSuffix (Lib.trimPrefix t [40]) [41]
def colsV (t : List UInt8) : List CD := (splitV (bodyV t) [44, 32]).map colV
/-- the schema of a text -/
def parseV (t : List UInt8) : Option (List CD) := if t = [] ∨ showV (colsV t) ≠ t then none else some (colsV t)
end Go.Proofs.YtafoklilkdnepaaGreatDoor

/- schema.letter, inner, Name; bywashref02.Name: is it a right name? For every text. -/
namespace Go.Proofs.YtafoklilkdnepaaGreatDoor
open Go.RowKit

theorem S_get (t : List UInt8) (k : Nat) (h : k < (S t).size) : (S t)[k] = t[k]'(by rwa [S_size] at h) := rfl

theorem letter_any (x : UInt8) (w : World) : Calls Tryz.prog 104 #[.int .u8 x.toNat] w fun e w' => e = .returned (.bool (letB x)) ∧ w = w' := by
  have hx := x.toNat_lt
  go_enter Tryz.func104, Tryz.ntmps104
  go_wp2
  all_goals
    go_ret
    exact ⟨ret_bool (by rw [Bool.eq_iff_iff]; simp [letB]; omega), rfl⟩

theorem inner_any (x : UInt8) (w : World) : Calls Tryz.prog 105 #[.int .u8 x.toNat] w fun e w' => e = .returned (.bool (innB x)) ∧ w = w' := by
  have hx := x.toNat_lt
  rcases hl : letB x with _ | _
  · have hc := letter_any x w
    rw [hl] at hc
    have Hc := Lib.hid hc; have Hl := Lib.hid hl; clear hc hl
    go_enter Tryz.func105, Tryz.ntmps105
    go_wp2_with (go_at_call 104; refine Hc.out.mono ?_; rintro e w' ⟨rfl, rfl⟩)
    all_goals
      go_ret
      exact ⟨ret_bool (by rw [Bool.eq_iff_iff]; simp [innB, Hl.out]; omega), rfl⟩
  · have hc := letter_any x w
    rw [hl] at hc
    have Hc := Lib.hid hc; have Hl := Lib.hid hl; clear hc hl
    go_enter Tryz.func105, Tryz.ntmps105
    go_wp2_with (go_at_call 104; refine Hc.out.mono ?_; rintro e w' ⟨rfl, rfl⟩)
    all_goals
      go_ret
      exact ⟨ret_bool (by rw [Bool.eq_iff_iff]; simp [innB, Hl.out]), rfl⟩

theorem nameV_cons (c : UInt8) (r : List UInt8) : nameV (c :: r) = (decide ((c :: r).length ≤ 16) && (letB c && (c :: r).all innB)) := rfl
theorem letB_int (x : UInt8) : letB x = (decide (97 ≤ (x.toNat : Int)) && decide ((x.toNat : Int) ≤ 122)) := by
  unfold letB
  congr 1 <;> exact decide_eq_decide.2 (by omega)
theorem innB_int (x : UInt8) : innB x = (letB x || (decide ((x.toNat : Int) = 95) || (decide (48 ≤ (x.toNat : Int)) && decide ((x.toNat : Int) ≤ 57)))) := by
  unfold innB
  congr 1; congr 1
  · exact decide_eq_decide.2 (by omega)
  · congr 1 <;> exact decide_eq_decide.2 (by omega)
/-- a byte that spoils a name -/
theorem nameV_bad {t : List UInt8} {k : Nat} (h : k < t.length) (hb : innB t[k] = false) : nameV t = false := by
  cases t with
  | nil => rfl
  | cons c r =>
    have : (c :: r).all innB = false := by
      rw [List.all_eq_false]
      exact ⟨_, List.getElem_mem h, by rw [hb]; simp⟩
    rw [nameV_cons, this, Bool.and_false, Bool.and_false]

set_option maxRecDepth 20000 in
set_option maxHeartbeats 1600000 in
theorem name_any (t : List UInt8) (hs : t.length ≤ 140737000000000) (w : World) :
    Calls Tryz.prog 71 #[.string (S t)] w fun e w' => e = .returned (.bool (nameV t)) ∧ Touch [] w w' := by
  have hsz := S_size t
  by_cases h0 : t = []
  · subst h0
    go_enter Tryz.func71, Tryz.ntmps71
    have h1 : (S []).toList = [] := by rw [S_list]
    go_wp2
    go_ret
    exact ⟨rfl, Touch.refl _ _⟩
  · have hl0 : 0 < t.length := List.length_pos_iff.2 h0
    have hq : (S t).toList.isEmpty = false := by rw [S_list]; cases t; exact absurd rfl h0; rfl
    have hq2 : ((S t).toList == []) = false := by rw [S_list]; cases t; exact absurd rfl h0; rfl
    have hq3 : ((S t).toList = []) = False := eq_false (by rw [S_list]; exact h0)
    by_cases h16 : 16 < t.length
    · have hn : nameV t = false := by
        cases t with
        | nil => rfl
        | cons c r => rw [nameV_cons, decide_eq_false (by omega)]; rfl
      have Hn := Lib.hid hn; clear hn h0
      go_enter Tryz.func71, Tryz.ntmps71
      go_wp2
      go_ret
      exact ⟨ret_bool Hn.out.symm, Touch.refl _ _⟩
    have hg0 := S_get t 0 (by rw [hsz]; exact hl0)
    obtain ⟨x, hx⟩ : ∃ x, x = t[0] := ⟨_, rfl⟩
    rw [← hx] at hg0
    have Hx := Lib.hid hx; clear hx
    have hc := letter_any x w
    rcases hl : letB x with _ | _
    · have hn : nameV t = false := by
        cases t with
        | nil => rfl
        | cons c r =>
          have : x = c := Hx.out
          rw [nameV_cons, ← this, hl, Bool.false_and, Bool.and_false]
      rw [hl] at hc
      have Hn := Lib.hid hn; have Hc := Lib.hid hc; clear hn h0 hl hc
      go_enter Tryz.func71, Tryz.ntmps71
      go_wp2_with (go_at_call 104; refine Hc.out.mono ?_; rintro e w' ⟨rfl, rfl⟩)
      go_ret
      exact ⟨ret_bool Hn.out.symm, Touch.refl _ _⟩
    · rw [hl] at hc
      have Hc := Lib.hid hc; have Hl := Lib.hid hl; clear hl hc h0
      go_enter Tryz.func71, Tryz.ntmps71
      have hconv := run_bytes_of t w
      have hr := rd_bytes w t
      have ht := touch_bytes w t
      obtain ⟨W, hW⟩ : ∃ W, W = Lib.bytesWorld w 5 (S t) := ⟨_, rfl⟩
      rw [← hW] at hconv hr ht
      clear hW
      go_wp2_with (go_at_call 104; refine Hc.out.mono ?_; rintro e w' ⟨rfl, rfl⟩)
      clear hconv Hc hg0 hq hq2 hq3
      go_loop [21] (fun i => ∃ k : Nat, k ≤ t.length ∧ i = .int .i64 k ∧ Hid ((t.take k).all innB = true)) (fun i => t.length - (intOf i).toNat)
      case atStart => exact ⟨0, by omega, rfl, Lib.hid rfl⟩
      case round =>
        obtain ⟨k, hk, rfl, hall⟩ := hrel
        by_cases hlt : k < t.length
        · obtain ⟨ad, e1, hcell⟩ := hr.at_ k hlt
          obtain rfl : ⟨w.heap.size, 0, none⟩ = ad := by injection e1
          obtain ⟨y, hy⟩ : ∃ y, y = t[k] := ⟨_, rfl⟩
          have hadd : (⟨w.heap.size, 0, none⟩ : Addr).add k = ⟨w.heap.size, k, none⟩ := by unfold Addr.add; split <;> simp_all
          rw [← hy, hadd] at hcell
          have Hy := Lib.hid hy; clear hy e1 hadd
          have hc := inner_any y W
          rcases hl : innB y with _ | _
          · rw [hl] at hc
            have Hc := Lib.hid hc; clear hc
            have Hn := Lib.hid (nameV_bad hlt (by rw [← Hy.out]; exact hl)); clear hl
            go_wp2_with (go_at_call 105; refine Hc.out.mono ?_; rintro e w' ⟨rfl, rfl⟩)
            go_ret
            exact ⟨ret_bool Hn.out.symm, ht⟩
          · rw [hl] at hc
            have Hc := Lib.hid hc; have Hl2 := Lib.hid hl; clear hc hl
            go_wp2_with (go_at_call 105; refine Hc.out.mono ?_; rintro e w' ⟨rfl, rfl⟩)
            go_round
            case rel => exact ⟨k + 1, by omega, by go_num, Lib.hid (by
              rw [List.take_succ_eq_append_getElem hlt, List.all_append, hall.out, ← Hy.out]
              simp [Hl2.out])⟩
            case measure => simp [intOf]; omega
        · obtain rfl : k = t.length := by omega
          go_wp2
          go_ret
          refine ⟨ret_bool (Eq.symm ?_), ht⟩
          have h := hall.out
          rw [List.take_length] at h
          cases t with
          | nil => simp at hl0
          | cons c r =>
            have e : x = c := Hx.out
            subst e
            rw [nameV_cons, h, Hl.out, decide_eq_true (by omega)]; rfl

end Go.Proofs.YtafoklilkdnepaaGreatDoor
