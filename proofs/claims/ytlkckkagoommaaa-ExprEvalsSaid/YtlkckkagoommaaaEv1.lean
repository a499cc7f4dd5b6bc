/- Part 1 of the texts of this proof, one behind the other; each begins with its own sentence. No condition beyond those that its theorems state. -/
import Derived.Test.YtlkckkagoommaaaChecked
import Derived.WalkKit
import Derived.WalkSpells
import Derived.WalkLawsBesides
import Derived.Lib.Hide
import Derived.Maps.AppendAt
import Derived.Deep.QuietTactic
import Derived.BigQuiet
import Derived.Laws.BytesArg
import Derived.Lib.LazyBuf
import Derived.Lib.SliceRun
import Derived.Lib.SlBytesConst
import Derived.Lib.ConvBytes
import Derived.IntWalk
import Derived.Lib.IndexMore
import Derived.Lib.Join
import Derived.Maps.OwnSet
/- Worlds, rows of bytes and what a call may touch: small facts that all walks of this seat share. No condition. -/
namespace Go.Proofs.Ytlkckkagoommaaa
open Go.RowKit

theorem ret_int {k : IntKind} {a b : Int} (h : a = b) : Ending.returned (.int k a) = .returned (.int k b) := by rw [h]
theorem ret_bool {a b : Bool} (h : a = b) : Ending.returned (.bool a) = .returned (.bool b) := by rw [h]
theorem ret_slice {A : Option Addr} {c n m : Nat} (h : n = m) : Ending.returned (.slice A n c) = .returned (.slice A m c) := by rw [h]
theorem ret_str {a b : ByteArray} (h : a = b) : Ending.returned (.string a) = .returned (.string b) := by rw [h]

/-- the walk stands still at a goal that is hidden; 'go' brings it back -/
theorem stop {p : Prop} (h : Hid p) : p := h
theorem go {p : Prop} (h : p) : Hid p := h

/-- which old blocks a call may have written: those on the list; all else that was there stands as it stood. -/
structure Touch (fp : List Nat) (w w' : World) : Prop where
  os : w'.os = w.os
  tape : w'.tape = w.tape
  output : w'.output = w.output
  size : w.heap.size ≤ w'.heap.size
  block : ∀ k, k < w.heap.size → k ∉ fp → w'.heap[k]? = w.heap[k]?

theorem Touch.refl (fp : List Nat) (w : World) : Touch fp w w := ⟨rfl, rfl, rfl, Nat.le_refl _, fun _ _ _ => rfl⟩
theorem Touch.trans {fp fp2 : List Nat} {w w1 w2 : World} (h : Touch fp w w1) (k : Touch fp2 w1 w2) (hs : ∀ b ∈ fp2, b ∈ fp ∨ w.heap.size ≤ b) : Touch fp w w2 :=
  ⟨k.os.trans h.os, k.tape.trans h.tape, k.output.trans h.output, Nat.le_trans h.size k.size, fun b hb hn =>
    (k.block b (Nat.lt_of_lt_of_le hb h.size) (fun hm => by rcases hs b hm with h1 | h1; exact hn h1; omega)).trans (h.block b hb hn)⟩
theorem Touch.trans0 {fp : List Nat} {w w1 w2 : World} (h : Touch fp w w1) (k : Touch [] w1 w2) : Touch fp w w2 := h.trans k (by simp)
theorem Touch.mono {fp fp2 : List Nat} {w w1 : World} (h : Touch fp w w1) (hs : ∀ b ∈ fp, b ∈ fp2 ∨ w.heap.size ≤ b) : Touch fp2 w w1 :=
  ⟨h.os, h.tape, h.output, h.size, fun b hb hn => h.block b hb (fun hm => by rcases hs b hm with h1 | h1; exact hn h1; omega)⟩
theorem Touch.alloc {fp : List Nat} {w w1 : World} (h : Touch fp w w1) (o : Obj) : Touch fp w (w1.alloc o) :=
  ⟨h.os, h.tape, h.output, Nat.le_trans h.size (by simp), fun b hb hn => (Below.heap_alloc w1 o b (Nat.lt_of_lt_of_le hb h.size)).trans (h.block b hb hn)⟩
theorem Touch.drewN {fp : List Nat} {w w1 : World} (h : Touch fp w w1) (n : Nat) : Touch fp w (w1.drewN n) := ⟨h.os, h.tape, h.output, h.size, h.block⟩
theorem Touch.drew {fp : List Nat} {w w1 : World} (h : Touch fp w w1) : Touch fp w w1.drew := ⟨h.os, h.tape, h.output, h.size, h.block⟩
theorem Touch.ofDrew {fp : List Nat} {w w1 : World} (h : Touch fp w.drew w1) : Touch fp w w1 := ⟨h.os, h.tape, h.output, h.size, h.block⟩
theorem Touch.ofDrewN {fp : List Nat} {w w1 : World} {n : Nat} (h : Touch fp (w.drewN n) w1) : Touch fp w w1 := ⟨h.os, h.tape, h.output, h.size, h.block⟩
theorem Touch.setCell {fp : List Nat} {w w1 : World} (h : Touch fp w w1) {p : Addr} (hp : p.block ∈ fp ∨ w.heap.size ≤ p.block) (u : Value) : Touch fp w (w1.setCell p u) :=
  ⟨h.os, h.tape, h.output, by simpa [World.setCell] using h.size, fun b hb hn => (Below.heap_setCell w1 p u b (by
    rintro rfl
    rcases hp with hp | hp
    · exact hn hp
    · omega)).trans (h.block b hb hn)⟩
theorem Touch.of_grown {w w' : World} {row : Option Nat} (h : w.grownBy w' row) : Touch row.toList w w' :=
  ⟨h.os, h.tape, h.output, h.size, fun k hk hn => h.block k hk (fun e => hn (by rw [← e]; simp))⟩
theorem Touch.of_below {w w' : World} (h : Below w.heap.size w w') (fp : List Nat) : Touch fp w w' := ⟨h.os, h.tape, h.output, h.size, fun k hk _ => h.block k hk⟩
theorem Touch.below {fp : List Nat} {w w' : World} (h : Touch fp w w') {n : Nat} (hn : n ≤ w.heap.size) (hf : ∀ b ∈ fp, n ≤ b) : Below n w w' :=
  ⟨h.os, h.tape, h.output, h.size, fun k hk => h.block k (Nat.lt_of_lt_of_le hk hn) (fun hm => by have := hf k hm; omega)⟩
theorem Touch.below0 {w w' : World} (h : Touch [] w w') : Below w.heap.size w w' := h.below (Nat.le_refl _) (by simp)
theorem Touch.cell {fp : List Nat} {w w' : World} (h : Touch fp w w') {a : Addr} {v : Value} (hc : w.cell? a = some v) (hn : a.block ∉ fp) : w'.cell? a = some v :=
  (World.cell?_of_block (h.block a.block (World.block_lt_of_cell? w a hc) hn)).trans hc
theorem Touch.blk {fp : List Nat} {w w' : World} (h : Touch fp w w') {g : Nat} {o : Obj} (hc : w.heap[g]? = some o) (hn : g ∉ fp) : w'.heap[g]? = some o :=
  (h.block g (by rcases Nat.lt_or_ge g w.heap.size with hl | hl; exact hl; rw [Array.getElem?_eq_none hl] at hc; cases hc) hn).trans hc

theorem block_of_add (a : Addr) (n : Nat) : (a.add n).block = a.block := by unfold Addr.add; split <;> rfl
theorem add_of_add (a : Addr) (i j : Nat) : (a.add i).add j = a.add (i + j) := by
  unfold Addr.add
  by_cases hi : i = 0 <;> by_cases hj : j = 0 <;> simp [hi, hj, Nat.add_assoc]

/-- the block of a slice's address -/
def fpo : Option Addr → List Nat
  | some a => [a.block]
  | none => []

/-- a slice's address leads to these cells (an empty one's to whatever) -/
def Rd (w : World) (A : Option Addr) (xs : List Value) : Prop := 0 < xs.length → ∃ ad, A = some ad ∧ ∀ j u, xs[j]? = some u → w.cell? (ad.add j) = some u

theorem Rd.touch {w w' : World} {A : Option Addr} {xs : List Value} {fp : List Nat} (h : Rd w A xs) (ht : Touch fp w w') (hn : ∀ b ∈ fpo A, b ∉ fp) : Rd w' A xs := by
  intro h0
  obtain ⟨ad, rfl, hc⟩ := h h0
  exact ⟨ad, rfl, fun j u hu => ht.cell (hc j u hu) (by rw [block_of_add]; exact hn _ (by simp [fpo]))⟩
theorem Rd.touch0 {w w' : World} {A : Option Addr} {xs : List Value} (h : Rd w A xs) (ht : Touch [] w w') : Rd w' A xs := h.touch ht (by simp)
theorem Rd.nil (w : World) (A : Option Addr) : Rd w A [] := fun h => absurd h (by simp)
theorem Rd.lt {w : World} {A : Option Addr} {xs : List Value} (h : Rd w A xs) (h0 : 0 < xs.length) : ∀ b ∈ fpo A, b < w.heap.size := by
  obtain ⟨ad, rfl, hc⟩ := h h0
  intro b hb
  have : b = ad.block := by simpa [fpo] using hb
  subst this
  have := World.block_lt_of_cell? w _ (hc 0 xs[0] (List.getElem?_eq_getElem h0))
  rwa [block_of_add] at this
theorem Rd.cut {w : World} {A : Option Addr} {xs : List Value} (h : Rd w A xs) {A' : Option Addr} {k n : Nat} (hA : ∀ ad, A = some ad → k < xs.length → A' = some (ad.add k)) : Rd w A' ((xs.drop k).take n) := by
  intro h0
  have hk : k < xs.length := by simp at h0; omega
  obtain ⟨ad, rfl, hc⟩ := h (by omega)
  refine ⟨ad.add k, hA ad rfl hk, fun j u hu => ?_⟩
  rw [add_of_add]
  refine hc _ u ?_
  rw [List.getElem?_take] at hu
  split at hu
  · rwa [List.getElem?_drop] at hu
  · cases hu

/-- bytes as the memory holds them -/
def B (b : UInt8) : Value := .int .u8 b.toNat
theorem oneCell_B (l : List UInt8) : ∀ u ∈ l.map B, u.oneCell' = true := by
  intro u hu
  obtain ⟨b, _, rfl⟩ := List.mem_map.1 hu
  rfl
def RdB (w : World) (A : Option Addr) (l : List UInt8) : Prop := Rd w A (l.map B)
theorem RdB.at_ {w : World} {A : Option Addr} {l : List UInt8} (h : RdB w A l) (k : Nat) (hk : k < l.length) : ∃ ad, A = some ad ∧ w.cell? (ad.add k) = some (.int .u8 l[k].toNat) := by
  obtain ⟨ad, e, hc⟩ := h (by simpa using Nat.lt_of_le_of_lt (Nat.zero_le _) hk)
  exact ⟨ad, e, hc k _ (by simp [hk, B])⟩

/-- a slice that the calls own: it holds these bytes and nobody shares its row -/
def OwnB (w : World) (A : Option Addr) (c : Nat) (l : List UInt8) : Prop := w.ownsRow 0 5 1 (.slice A l.length c) l.length (l.map B)
theorem OwnB.rd {w : World} {A : Option Addr} {c : Nat} {l : List UInt8} (h : OwnB w A c l) : RdB w A l := by
  intro h0
  rcases h.2 with hv | ⟨g, cap, cur, hv, _⟩
  · simp at h0; omega
  · have hA : A = some ⟨g, 0, none⟩ := by injection hv
    subst hA
    exact ⟨_, rfl, World.ownsRow.cells h (g := g) rfl⟩
theorem OwnB.le {w : World} {A : Option Addr} {c : Nat} {l : List UInt8} (h : OwnB w A c l) : l.length ≤ c := by
  obtain ⟨_, ⟨hv, hn⟩ | ⟨g, cap, cur, hv, _, _, hnc, _⟩⟩ := h
  · omega
  · injection hv with _ _ h3; omega
theorem OwnB.cap {w : World} {A : Option Addr} {c : Nat} {l : List UInt8} (h : OwnB w A c l) : c ≤ 9223372036854775807 := by
  obtain ⟨_, ⟨hv, hn⟩ | ⟨g, cap, cur, hv, _, _, _, hm, _⟩⟩ := h
  · injection hv with _ _ h3; omega
  · injection hv with _ _ h3; unfold maxLen at hm; omega
theorem OwnB.nil (w : World) : OwnB w none 0 [] := World.ownsRow_nil _ _ _ _
theorem OwnB.touch {w w' : World} {A : Option Addr} {c : Nat} {l : List UInt8} {fp : List Nat} (h : OwnB w A c l) (ht : Touch fp w w') (hn : ∀ b ∈ fpo A, b ∉ fp) : OwnB w' A c l := by
  refine ⟨h.1, ?_⟩
  rcases h.2 with hv | ⟨g, cap, cur, hv, hb, hg, rest⟩
  · exact .inl hv
  · have hA : A = some ⟨g, 0, none⟩ := by injection hv
    subst hA
    exact .inr ⟨g, cap, cur, hv, hb, ht.blk hg (hn g (by simp [fpo])), rest⟩
theorem OwnB.touch0 {w w' : World} {A : Option Addr} {c : Nat} {l : List UInt8} (h : OwnB w A c l) (ht : Touch [] w w') : OwnB w' A c l := h.touch ht (by simp)
theorem OwnB.lt {w : World} {A : Option Addr} {c : Nat} {l : List UInt8} (h : OwnB w A c l) : ∀ b ∈ fpo A, b < w.heap.size := by
  intro b hb
  rcases h.2 with ⟨hv, _⟩ | ⟨g, cap, cur, hv, _, hg, _⟩
  · injection hv with hA _ _; subst hA; cases hb
  · have hA : A = some ⟨g, 0, none⟩ := by injection hv
    subst hA
    have : b = g := by simpa [fpo] using hb
    subst this
    exact (Array.getElem?_eq_some_iff.1 hg).1
theorem OwnB.head {w : World} {A : Option Addr} {c : Nat} {l : List UInt8} (h : OwnB w A c l) : A = none ∧ l = [] ∧ c = 0 ∨ ∃ g, A = some ⟨g, 0, none⟩ := by
  rcases h.2 with ⟨hv, h0⟩ | ⟨g, cap, cur, hv, _⟩
  · injection hv with hA _ hc; exact .inl ⟨hA, List.eq_nil_of_length_eq_zero h0, hc⟩
  · injection hv with hA _ _; exact .inr ⟨g, hA⟩
theorem OwnB.empty_new (w : World) : OwnB (w.alloc (.cells #[] 5)) (some ⟨w.heap.size, 0, none⟩) 0 [] :=
  ⟨rfl, .inr ⟨w.heap.size, 0, #[], rfl, Nat.zero_le _, heap_alloc_new w _, Nat.le_refl _, Nat.zero_le _, rfl, rfl⟩⟩
/-- a block just made, all of whose cells are these -/
theorem OwnB.new (w : World) (l : List UInt8) (hl : l.length ≤ maxLen) : OwnB (w.alloc (.cells (l.map B).toArray 5)) (some ⟨w.heap.size, 0, none⟩) l.length l :=
  ⟨by simp, .inr ⟨w.heap.size, l.length, (l.map B).toArray, rfl, Nat.zero_le _, heap_alloc_new w _, Nat.le_refl _, hl, by simp, by simp [List.take_of_length_le]⟩⟩

section
variable {P : Program} (w : World)
theorem run_append_of_nil (base : Nat) (t ty e : TypeId) (i : TypeInfo) (size : Nat) (ht : P.underlying t = some (.slice e)) (hi : P.info? e = some i)
    (v : Value) (n : Nat) (xs : List Value) (hown : w.ownsRow base e size v n xs) (c : Nat) : (Builtin.append_ #[t, t] ty #[v, .slice none 0 c]).run P w = .ok v w := by
  rcases hown.2 with ⟨rfl, rfl⟩ | ⟨g, cap, cur, rfl, _, _, hnc, _⟩
  · simp [Builtin.append_, run_underlying ht, sizeOf, typeInfo, hi, Builtin.lenOf, Builtin.firstCells]
  · simp [Builtin.append_, run_underlying ht, sizeOf, typeInfo, hi, Builtin.lenOf, Builtin.firstCells, hnc, storeCells]

theorem run_app (t ty e : TypeId) (i : TypeInfo) (z : Value) (size bytes : Nat) (ht : P.underlying t = some (.slice e)) (hi : P.info? e = some i) (hz : i.zero = some z)
    (hsize : i.size = size) (hby : i.bytes = bytes) (hzs : z.cells.size = size) (hsz : 0 < size)
    (A0 : Option Addr) (n c0 : Nat) (xs : List Value) (hown : w.ownsRow 0 e size (.slice A0 n c0) n xs)
    (A : Option Addr) (m c : Nat) (news : List Value) (hl : news.length = m * size) (hr : Rd w A news) (h1 : ∀ u ∈ news, u.oneCell' = true)
    (h63 : n + m ≤ maxLen) (hbytes : (n + m) * bytes ≤ 140737488355328) :
    ∃ A' c' w', (Builtin.append_ #[t, t] ty #[.slice A0 n c0, .slice A m c]).run P w = .ok (.slice A' (n + m) c') w' ∧ w'.ownsRow 0 e size (.slice A' (n + m) c') (n + m) (xs ++ news) ∧ Touch (fpo A0) w w' ∧
      (∀ b ∈ fpo A', b ∈ fpo A0 ∨ b = w.heap.size) := by
  have hfp : ∀ v : Value, ∀ A1 n1 c1, v = .slice A1 n1 c1 → v.ownBlock.toList = fpo A1 := by
    rintro v A1 n1 c1 rfl
    cases A1 <;> rfl
  rcases A with _ | ad
  · have hm : m = 0 := by
      rcases Nat.eq_zero_or_pos m with h0 | h0
      · exact h0
      · obtain ⟨ad, h, _⟩ := hr (by rw [hl]; exact Nat.mul_pos h0 hsz)
        cases h
    subst hm
    have hn : news = [] := List.eq_nil_of_length_eq_zero (by simpa using hl)
    subst hn
    exact ⟨A0, c0, w, run_append_of_nil w 0 t ty e i size ht hi _ n xs hown c, by simpa using hown, Touch.refl _ _, fun b hb => .inl hb⟩
  · have hcells : ∀ j u, news[j]? = some u → w.cell? (ad.add j) = some u := by
      intro j u hu
      obtain ⟨ad', h, hc⟩ := hr (Nat.lt_of_le_of_lt (Nat.zero_le _) (List.getElem?_eq_some_iff.1 hu).1)
      injection h with h
      subst h
      exact hc j u hu
    obtain ⟨v', w', hrun, h2, h3, h4, h5⟩ := run_append_own_at (P := P) w 0 t ty e i z size bytes ht hi hz hsize hby hzs hsz _ n xs hown ad m c news hl hcells h1 h63 hbytes (Nat.zero_le _)
    have ht' : Touch (fpo A0) w w' := by
      have := Touch.of_grown h3
      rwa [hfp _ _ _ _ rfl] at this
    have hv : ∃ A' c', v' = .slice A' (n + m) c' := by
      rcases h2.2 with ⟨e1, e2⟩ | ⟨g, cap, cur, e1, _⟩
      · exact ⟨none, 0, by rw [e1, e2]⟩
      · exact ⟨_, _, e1⟩
    obtain ⟨A', c', rfl⟩ := hv
    refine ⟨A', c', w', hrun, h2, ht', fun b hb => ?_⟩
    have hb' : b ∈ (Value.slice A' (n + m) c').ownBlock.toList := by rw [hfp _ _ _ _ rfl]; exact hb
    rcases h5 with e5 | e5
    · left; rw [e5, hfp _ _ _ _ rfl] at hb'; exact hb'
    · right; rw [e5] at hb'; simpa using hb'

theorem wp_app {o : Oper} {a : Act} {K : Act → World → Prop} {Q : Exit → Act → World → Prop} (s x : Operand) (t : TypeId)
    (ho : o.op = .call { callee := .builtin .append, args := #[s, x], argTypes := #[t, t] })
    (e : TypeId) (i : TypeInfo) (z : Value) (size bytes : Nat) (ht : P.underlying t = some (.slice e)) (hi : P.info? e = some i) (hz : i.zero = some z)
    (hsize : i.size = size) (hby : i.bytes = bytes) (hzs : z.cells.size = size) (hsz : 0 < size)
    (A0 : Option Addr) (n c0 : Nat) (xs : List Value) (hs : a.eval s = .slice A0 n c0) (hown : w.ownsRow 0 e size (.slice A0 n c0) n xs)
    (A : Option Addr) (m c : Nat) (news : List Value) (hx : a.eval x = .slice A m c) (hl : news.length = m * size) (hr : Rd w A news) (h1 : ∀ u ∈ news, u.oneCell' = true)
    (h63 : n + m ≤ maxLen) (hbytes : (n + m) * bytes ≤ 140737488355328)
    (h : ∀ A' c' w', w'.ownsRow 0 e size (.slice A' (n + m) c') (n + m) (xs ++ news) → Touch (fpo A0) w w' → (∀ b ∈ fpo A', b ∈ fpo A0 ∨ b = w.heap.size) → K (a.put o.dst (.slice A' (n + m) c')) w') : o.wp P a w K Q := by
  obtain ⟨A', c', w', hrun, h2, h3, h4⟩ := run_app (P := P) w t o.type e i z size bytes ht hi hz hsize hby hzs hsz A0 n c0 xs hown A m c news hl hr h1 h63 hbytes
  unfold Oper.wp execOp
  simp only [ho, resolve, invoke, builtin, Sem.run_bind, Sem.run_pure, Result.andThen_ok, List.map_toArray, List.map_cons, List.map_nil, hs, hx, hrun]
  exact h A' c' w' h2 h3 h4

theorem wpList_app {ops : Array Oper} {rest : List Oper} {o : Oper} {a : Act} {Q : Exit → Act → World → Prop} (hgd : o.guard = none) (s x : Operand) (t : TypeId)
    (ho : o.op = .call { callee := .builtin .append, args := #[s, x], argTypes := #[t, t] })
    (e : TypeId) (i : TypeInfo) (z : Value) (size bytes : Nat) (ht : P.underlying t = some (.slice e)) (hi : P.info? e = some i) (hz : i.zero = some z)
    (hsize : i.size = size) (hby : i.bytes = bytes) (hzs : z.cells.size = size) (hsz : 0 < size)
    (A0 : Option Addr) (n c0 : Nat) (xs : List Value) (hs : a.eval s = .slice A0 n c0) (hown : w.ownsRow 0 e size (.slice A0 n c0) n xs)
    (A : Option Addr) (m c : Nat) (news : List Value) (hx : a.eval x = .slice A m c) (hl : news.length = m * size) (hr : Rd w A news) (h1 : ∀ u ∈ news, u.oneCell' = true)
    (h63 : n + m ≤ maxLen) (hbytes : (n + m) * bytes ≤ 140737488355328)
    (h : ∀ A' c' w', w'.ownsRow 0 e size (.slice A' (n + m) c') (n + m) (xs ++ news) → Touch (fpo A0) w w' → (∀ b ∈ fpo A', b ∈ fpo A0 ∨ b = w.heap.size) → wpList P ops Q rest (a.put o.dst (.slice A' (n + m) c')) w') :
    wpList P ops Q (o :: rest) a w :=
  wpList_plain hgd fun _ hK => wp_app w s x t ho e i z size bytes ht hi hz hsize hby hzs hsz A0 n c0 xs hs hown A m c news hx hl hr h1 h63 hbytes fun A' c' w' h2 h3 h4 => hK _ _ (h A' c' w' h2 h3 h4)

/-- the same as one step of a region that draws its order -/
theorem step_app {ops : Array Oper} {o : Oper} {a : Act} {K : Act → World → Prop} {Q : Exit → Act → World → Prop} {E : Prop} (hgd : o.guard = none) (s x : Operand) (t : TypeId)
    (ho : o.op = .call { callee := .builtin .append, args := #[s, x], argTypes := #[t, t] })
    (e : TypeId) (i : TypeInfo) (z : Value) (size bytes : Nat) (ht : P.underlying t = some (.slice e)) (hi : P.info? e = some i) (hz : i.zero = some z)
    (hsize : i.size = size) (hby : i.bytes = bytes) (hzs : z.cells.size = size) (hsz : 0 < size)
    (A0 : Option Addr) (n c0 : Nat) (xs : List Value) (hs : a.eval s = .slice A0 n c0) (hown : w.ownsRow 0 e size (.slice A0 n c0) n xs)
    (A : Option Addr) (m c : Nat) (news : List Value) (hx : a.eval x = .slice A m c) (hl : news.length = m * size) (hr : Rd w A news) (h1 : ∀ u ∈ news, u.oneCell' = true)
    (h63 : n + m ≤ maxLen) (hbytes : (n + m) * bytes ≤ 140737488355328)
    (h : ∀ A' c' w', w'.ownsRow 0 e size (.slice A' (n + m) c') (n + m) (xs ++ news) → Touch (fpo A0) w w' → (∀ b ∈ fpo A', b ∈ fpo A0 ∨ b = w.heap.size) → K (a.put o.dst (.slice A' (n + m) c')) w') :
    if Region.wanted o (yielded ops a.tmps) = true then Oper.wp P o a w K Q else E := by
  have hw : Region.wanted o (yielded ops a.tmps) = true := by simp [Region.wanted, hgd]
  rw [if_pos hw]
  exact wp_app w s x t ho e i z size bytes ht hi hz hsize hby hzs hsz A0 n c0 xs hs hown A m c news hx hl hr h1 h63 hbytes h
end

theorem info_u8 : (Try.prog.info? 5).map (fun i => (i.zero, i.size, i.bytes)) = some (some (.int .u8 0), 1, 1) := by kernel_rfl

/-- append onto bytes that the calls own -/
theorem wpList_appB {w : World} {ops : Array Oper} {rest : List Oper} {o : Oper} {a : Act} {Q : Exit → Act → World → Prop} (hgd : o.guard = none) (s x : Operand)
    (ho : o.op = .call { callee := .builtin .append, args := #[s, x], argTypes := #[108, 108] })
    (A0 : Option Addr) (n c0 : Nat) (l : List UInt8) (hn : l.length = n) (hs : a.eval s = .slice A0 n c0) (hown : OwnB w A0 c0 l)
    (A : Option Addr) (k c : Nat) (m : List UInt8) (hk : m.length = k) (hx : a.eval x = .slice A k c) (hr : RdB w A m) (hbytes : n + k ≤ 140737488355328)
    (h : ∀ A' c' w', OwnB w' A' c' (l ++ m) → Touch (fpo A0) w w' → (∀ b ∈ fpo A', b ∈ fpo A0 ∨ b = w.heap.size) → wpList Try.prog ops Q rest (a.put o.dst (.slice A' (n + k) c')) w') :
    wpList Try.prog ops Q (o :: rest) a w := by
  obtain ⟨i0, hi0, hz0, hz1, hz2⟩ := info_parts info_u8
  subst hn hk
  refine wpList_app w hgd s x _ ho 5 i0 _ 1 1 Try.underlying108 hi0 hz0 hz1 hz2 rfl (by omega) A0 l.length c0 _ hs hown A m.length c _ hx (by simp) hr (oneCell_B _) (by simp only [maxLen]; omega) (by omega) ?_
  intro A' c' w' h2 h3 h4
  exact h A' c' w' (by unfold OwnB; rw [List.map_append, List.length_append]; exact h2) h3 h4

theorem step_appB {w : World} {ops : Array Oper} {o : Oper} {a : Act} {K : Act → World → Prop} {Q : Exit → Act → World → Prop} {E : Prop} (hgd : o.guard = none) (s x : Operand)
    (ho : o.op = .call { callee := .builtin .append, args := #[s, x], argTypes := #[108, 108] })
    (A0 : Option Addr) (n c0 : Nat) (l : List UInt8) (hn : l.length = n) (hs : a.eval s = .slice A0 n c0) (hown : OwnB w A0 c0 l)
    (A : Option Addr) (k c : Nat) (m : List UInt8) (hk : m.length = k) (hx : a.eval x = .slice A k c) (hr : RdB w A m) (hbytes : n + k ≤ 140737488355328)
    (h : ∀ A' c' w', OwnB w' A' c' (l ++ m) → Touch (fpo A0) w w' → (∀ b ∈ fpo A', b ∈ fpo A0 ∨ b = w.heap.size) → K (a.put o.dst (.slice A' (n + k) c')) w') :
    if Region.wanted o (yielded ops a.tmps) = true then Oper.wp Try.prog o a w K Q else E := by
  obtain ⟨i0, hi0, hz0, hz1, hz2⟩ := info_parts info_u8
  subst hn hk
  refine step_app w hgd s x _ ho 5 i0 _ 1 1 Try.underlying108 hi0 hz0 hz1 hz2 rfl (by omega) A0 l.length c0 _ hs hown A m.length c _ hx (by simp) hr (oneCell_B _) (by simp only [maxLen]; omega) (by omega) ?_
  intro A' c' w' h2 h3 h4
  exact h A' c' w' (by unfold OwnB; rw [List.map_append, List.length_append]; exact h2) h3 h4

/-- one byte in a block of its own -/
theorem RdB.one (w : World) (x : UInt8) : RdB (w.alloc (.cells #[B x] 5)) (some ⟨w.heap.size, 0, none⟩) [x] :=
  (OwnB.new w [x] (by simp [maxLen])).rd
theorem RdB.one' (w : World) (x : UInt8) {z : Int} (h : z = x.toNat) : RdB (w.alloc (.cells #[.int .u8 z] 5)) (some ⟨w.heap.size, 0, none⟩) [x] := by
  subst h; exact RdB.one w x

/-- a block just made, whatever of it is marked -/
theorem RdB.newf (w : World) (l : List UInt8) (fr : Nat × Nat) : RdB (w.alloc (.cells (l.map B).toArray 5 fr)) (some ⟨w.heap.size, 0, none⟩) l := fun _ =>
  ⟨_, rfl, fun j u hu => by
    have hadd : (⟨w.heap.size, 0, none⟩ : Addr).add j = ⟨w.heap.size, j, none⟩ := by unfold Addr.add; split <;> simp_all
    rw [hadd, cell_of_row _ w.heap.size j (l.map B).toArray 5 fr (heap_alloc_new w _)]
    simpa using hu⟩

theorem RdB.new' (w : World) (l : List UInt8) (fr : Nat × Nat) (cs : Array Value) (h : cs = (l.map B).toArray) : RdB (w.alloc (.cells cs 5 fr)) (some ⟨w.heap.size, 0, none⟩) l := by
  subst h; exact RdB.newf w l fr

/-- a text of these bytes -/
def S (l : List UInt8) : ByteArray := ⟨l.toArray⟩
theorem run_str_of {w : World} {A : Option Addr} {n : Nat} (c : Nat) {l : List UInt8} (hn : l.length = n) (hr : RdB w A l) : (convert 108 9 (.slice A n c)).run Try.prog w = .ok (.string (S l)) w := by
  subst hn
  rcases Nat.eq_zero_or_pos l.length with h0 | h0
  · obtain rfl := List.eq_nil_of_length_eq_zero h0
    cases A with
    | none => exact run_convert_bytes_nil (P := Try.prog) w 108 5 Try.underlying108 Try.underlying5 _ _ _ Try.underlying9
    | some ad =>
      have hl : (loadCells ad 0).run Try.prog w = .ok (([] : List Int).map (Value.int .u8)).toArray w := run_loadCells_list (P := Try.prog) w ad [] (by simp)
      rw [run_convert_bytes_string w _ _ _ _ _ c Try.underlying108 Try.underlying5 Try.underlying9]
      exact run_bytesToString w ad 0 c [] hl
  · obtain ⟨ad, rfl, hc⟩ := hr (by simpa using h0)
    have hl : (loadCells ad l.length).run Try.prog w = .ok ((l.map (fun b => (b.toNat : Int))).map (Value.int .u8)).toArray w := by
      have := run_loadCells_list (P := Try.prog) w ad (l.map B) hc
      rw [List.length_map] at this
      rw [this, List.map_map]; rfl
    rw [run_convert_bytes_string w _ _ _ _ _ c Try.underlying108 Try.underlying5 Try.underlying9, run_bytesToString w ad _ c _ hl, foldl_push_bytes]
    simp [S, ByteArray.empty, ByteArray.emptyWithCapacity, Function.comp_def]
    rfl

theorem madeCells_one (v : Value) (n : Nat) : madeCells #[v] n = (List.replicate n v).toArray := by
  apply Array.ext
  · simp [madeCells]
  · intro i h1 h2
    simp [madeCells, Nat.mod_one]
/-- make([]byte, n) -/
theorem run_makeB (n : Nat) (hn : n ≤ 281474976710656) (w : World) : (Instr.makeSlice 108 (.int .i64 (n : Int)) (.int .i64 (n : Int))).run Try.prog w =
    .ok (.slice (some ⟨w.heap.size, 0, none⟩) n n) (w.alloc (.cells ((List.replicate n (0 : UInt8)).map B).toArray 5)) := by
  obtain ⟨i0, hi0, hz0, hz1, hz2⟩ := info_parts info_u8
  have h := run_make (P := Try.prog) w 108 5 i0 _ Try.underlying108 hi0 hz0 .i64 .i64 (n : Int) (n : Int) (by omega) (by omega) (by rw [hz2]; omega) (by omega)
  rw [Int.toNat_natCast, hz1, Nat.mul_one] at h
  rw [h, List.map_replicate, ← madeCells_one]
  rfl

end Go.Proofs.Ytlkckkagoommaaa

/- Texts, bytes of texts, values: what all layers above the bytes share; value.plain, value.Value.Right. -/
namespace Go.Proofs.Ytlkckkagoommaaa
open Go.RowKit

theorem S_inj {a b : List UInt8} (h : S a = S b) : a = b := by
  have := congrArg (fun x : ByteArray => x.data.toList) h
  simpa [S] using this
theorem S_eq (a b : List UInt8) : (S a = S b) = (a = b) := propext ⟨S_inj, fun h => by rw [h]⟩

theorem S_list (a : List UInt8) : (S a).toList = a := by rw [ByteArray.toList_eq]; simp [S]
theorem S_beq (a b : List UInt8) : ((S a).toList == (S b).toList) = decide (a = b) := by
  rw [S_list, S_list, Bool.eq_iff_iff]; simp
theorem S_bne (a b : List UInt8) : (!(S a).toList == (S b).toList) = !decide (a = b) := by
  rw [S_beq]

theorem S_size (s : List UInt8) : (S s).size = s.length := by simp [S, ByteArray.size]
theorem S_toList (s : List UInt8) : (S s).data.toList = s := by simp [S]
/-- []byte(s) -/
theorem run_bytes_of (s : List UInt8) (W : World) : (convert 9 108 (.string (S s))).run Try.prog W = .ok (.slice (some ⟨W.heap.size, 0, none⟩) s.length (grownCap W s.length 0 5)) (Lib.bytesWorld W 5 (S s)) := by
  have := Lib.run_convert_string_bytes (P := Try.prog) W 9 108 5 (S s) Try.underlying9 Try.underlying108 Try.underlying5
  rw [S_size] at this
  exact this
theorem touch_bytes (W : World) (s : List UInt8) : Touch [] W (Lib.bytesWorld W 5 (S s)) :=
  ⟨rfl, rfl, rfl, by rw [Lib.bytesWorld_size]; omega, fun k hk _ => Lib.bytesWorld_at_old W _ _ k hk⟩
theorem rd_bytes (W : World) (s : List UInt8) : RdB (Lib.bytesWorld W 5 (S s)) (some ⟨W.heap.size, 0, none⟩) s := fun _ =>
  ⟨_, rfl, fun j u hu => by
    have hadd : (⟨W.heap.size, 0, none⟩ : Addr).add j = ⟨W.heap.size, j, none⟩ := by unfold Addr.add; split <;> simp_all
    have hj : j < s.length := by have := (List.getElem?_eq_some_iff.1 hu).1; simpa using this
    rw [hadd, Lib.bytesWorld_cell _ _ _ j (by rw [S_size]; exact hj), S_toList]
    simp only [List.getElem?_map, List.getElem?_eq_getElem hj, Option.map_some, Option.some.injEq] at hu
    rw [← hu]
    simp [List.getD, hj, B]⟩

theorem size_toList (s : ByteArray) : s.data.toList.length = s.size := by rw [Array.length_toList]; rfl
/-- a value: its kind, its number, its text -/
structure VD where
  kind : Int
  num : Int
  text : ByteArray
/-- as the program lays it -/
def VD.val (v : VD) : Value := .agg #[.int .i64 v.kind, .int .i64 v.num, .string v.text]
/-- numbers within bounds, the text short -/
structure VD.Ok (v : VD) (m : Nat) : Prop where
  k : -9223372036854775808 ≤ v.kind ∧ v.kind ≤ 9223372036854775807
  n : -9223372036854775808 ≤ v.num ∧ v.num ≤ 9223372036854775807
  t : v.text.size ≤ m
theorem cell_blk {w : World} {g i : Nat} {cs : Array Value} {t : TypeId} {v : Value} (h : w.heap[g]? = some (.cells cs t (0, 0))) (hv : cs[i]? = some v) : w.cell? ⟨g, i, none⟩ = some v := by
  rw [cell_of_row w g i cs t (0, 0) h]; exact hv

theorem set_blk {w : World} {g : Nat} {cs : Array Value} {t : TypeId} (h : w.heap[g]? = some (.cells cs t (0, 0))) (i : Nat) (u : Value) :
    (w.setCell ⟨g, i, none⟩ u).heap[g]? = some (.cells (cs.setIfInBounds i u) t (0, 0)) := by
  simp [World.setCell, Array.getElem?_modify, h]

theorem S_of (s : ByteArray) : S s.data.toList = s := by cases s; simp [S]
theorem toList_B (x : ByteArray) : x.toList = x.data.toList := ByteArray.toList_eq x
theorem bs_eq {x y : ByteArray} (h : x.data.toList = y.data.toList) : x = y := by rw [← S_of x, ← S_of y, h]
theorem bs_beq (x y : ByteArray) : (x.toList == y.toList) = decide (x = y) := by
  rw [toList_B, toList_B, Bool.eq_iff_iff]
  simp only [beq_iff_eq, decide_eq_true_eq]
  exact ⟨bs_eq, fun h => by rw [h]⟩

/-- may a byte stand in a table's text? -/
def okB (c : UInt8) : Bool := decide (32 ≤ c.toNat) && decide (c.toNat ≤ 126)
/-- a text that may stand in a table -/
def plainV (t : List UInt8) : Bool := t.all okB && decide (t.length ≤ 64)

set_option maxRecDepth 20000 in
set_option maxHeartbeats 800000 in
theorem plain_any (t : List UInt8) (hs : t.length ≤ 140737000000000) (w : World) :
    Calls Try.prog 39 #[.string (S t)] w fun e w' => e = .returned (.bool (plainV t)) ∧ Touch [] w w' := by
  go_enter Try.func39, Try.ntmps39
  have hconv := run_bytes_of t w
  have hsz := S_size t
  have hr := rd_bytes w t
  have ht := touch_bytes w t
  obtain ⟨W, hW⟩ : ∃ W, W = Lib.bytesWorld w 5 (S t) := ⟨_, rfl⟩
  rw [← hW] at hconv hr ht
  clear hW
  go_wp2_with fail
  clear hconv
  go_loop [8] (fun i => ∃ k : Nat, k ≤ t.length ∧ i = .int .i64 k ∧ Hid ((t.take k).all okB = true)) (fun i => t.length - (intOf i).toNat)
  case atStart => exact ⟨0, by omega, rfl, Lib.hid rfl⟩
  case round =>
    obtain ⟨k, hk, rfl, hall⟩ := hrel
    by_cases hlt : k < t.length
    · obtain ⟨ad, e1, hcell⟩ := hr.at_ k hlt
      obtain rfl : ⟨w.heap.size, 0, none⟩ = ad := by injection e1
      obtain ⟨x, hx⟩ : ∃ x, x = t[k] := ⟨_, rfl⟩
      have hadd : (⟨w.heap.size, 0, none⟩ : Addr).add k = ⟨w.heap.size, k, none⟩ := by unfold Addr.add; split <;> simp_all
      rw [← hx, hadd] at hcell
      have hxl := x.toNat_lt
      have hbad : okB x = false → plainV t = false := fun h => by
        unfold plainV
        have : t.all okB = false := by
          rw [List.all_eq_false]
          exact ⟨t[k], List.getElem_mem hlt, by rw [← hx, h]; simp⟩
        rw [this]; rfl
      have hgood : okB x = true → (t.take (k + 1)).all okB = true := fun h => by
        rw [List.take_succ_eq_append_getElem hlt, List.all_append, hall.out, ← hx]
        simp [h]
      have Hb := Lib.hid hbad
      have Hg := Lib.hid hgood
      clear hbad hgood hx hall e1 hadd
      by_cases h1 : x.toNat < 32
      · have hz : ((x.toNat : Int) < 32) = True := eq_true (by omega)
        go_wp2
        go_ret
        exact ⟨by rw [Hb.out (by simp [okB]; omega)]; rfl, ht⟩
      have hz : ((x.toNat : Int) < 32) = False := eq_false (by omega)
      by_cases h2 : 126 < x.toNat
      · have hy : (126 < (x.toNat : Int)) = True := eq_true (by omega)
        go_wp2
        go_ret
        exact ⟨by rw [Hb.out (by simp [okB]; omega)]; rfl, ht⟩
      · have hy : (126 < (x.toNat : Int)) = False := eq_false (by omega)
        go_wp2
        go_round
        case rel => exact ⟨k + 1, by omega, by go_num, Lib.hid (Hg.out (by simp [okB]; omega))⟩
        case measure => simp [intOf]; omega
    · obtain rfl : k = t.length := by omega
      have hfin : plainV t = decide ((t.length : Int) ≤ 64) := by
        have h := hall.out
        rw [List.take_length] at h
        unfold plainV
        rw [h, Bool.true_and]
        exact decide_eq_decide.2 (by omega)
      have Hf := Lib.hid hfin
      clear hfin hall
      go_wp2
      go_ret
      exact ⟨by rw [Hf.out]; rfl, ht⟩
/-- is a value right? -/
def VD.right (v : VD) : Bool :=
  if v.kind = 0 then decide (v.num = 0) && v.text.toList.isEmpty else if v.kind = 1 then v.text.toList.isEmpty else if v.kind = 2 then decide (v.num = 0) && plainV v.text.data.toList else false

set_option maxRecDepth 20000 in
set_option maxHeartbeats 800000 in
theorem right_any (v : VD) (hs : v.text.size ≤ 140737000000000) (w : World) :
    Calls Try.prog 16 #[v.val] w fun e w' => e = .returned (.bool v.right) ∧ Touch [] w w' := by
  obtain ⟨k, n, s⟩ := v
  dsimp only [VD.val] at *
  go_enter Try.func16, Try.ntmps16
  have t0 := (Touch.refl [] w).alloc (.cells #[.int .i64 k, .int .i64 n, .string s] 30)
  have hp := plain_any s.data.toList (by rw [size_toList]; exact hs) (w.alloc (.cells #[.int .i64 2, .int .i64 0, .string s] 30))
  rw [S_of] at hp
  have Hp := Lib.hid hp
  clear hp
  by_cases h0 : k = 0
  · subst h0
    by_cases hn : n = 0
    · subst hn
      go_wp2_with fail
      go_ret
      exact ⟨rfl, t0⟩
    · have hne : (n == 0) = false := by simpa using hn
      have hr : VD.right ⟨0, n, s⟩ = false := by simp [VD.right, hn]
      have Hr := Lib.hid hr
      clear hr
      go_wp2_with fail
      go_ret
      exact ⟨by rw [Hr.out]; rfl, t0⟩
  by_cases h1 : k = 1
  · subst h1
    go_wp2_with fail
    go_ret
    exact ⟨rfl, t0⟩
  by_cases h2 : k = 2
  · subst h2
    by_cases hn : n = 0
    · subst hn
      go_wp2_with fail
      refine Hp.out.mono ?_
      rintro e w1 ⟨rfl, t1⟩
      go_wp2_with fail
      go_ret
      exact ⟨rfl, t0.trans0 t1⟩
    · have hne : (n == 0) = false := by simpa using hn
      have hr : VD.right ⟨2, n, s⟩ = false := by simp [VD.right, hn]
      have Hr := Lib.hid hr
      clear hr
      go_wp2_with fail
      go_ret
      exact ⟨by rw [Hr.out]; rfl, t0⟩
  · have hr : VD.right ⟨k, n, s⟩ = false := by simp [VD.right, h0, h1, h2]
    have Hr := Lib.hid hr
    clear hr
    go_wp2_with fail
    go_ret
    exact ⟨by rw [Hr.out]; rfl, t0⟩
end Go.Proofs.Ytlkckkagoommaaa

/- Rows of structs: what a slice of structs leads to; such a slice of the calls' own. No condition. -/
namespace Go.Proofs.Ytlkckkagoommaaa
open Go.RowKit

theorem flat_length {α β : Type} (enc : α → List β) (k : Nat) (hk : ∀ x, (enc x).length = k) (xs : List α) : (xs.flatMap enc).length = xs.length * k := by
  induction xs with
  | nil => simp
  | cons x xs ih => rw [List.flatMap_cons, List.length_append, hk, ih, List.length_cons, Nat.add_mul]; omega
theorem flat_get {α β : Type} (enc : α → List β) (k : Nat) (hk : ∀ x, (enc x).length = k) (xs : List α) (i j : Nat) (hi : i < xs.length) (hj : j < k) : (xs.flatMap enc)[i * k + j]? = (enc xs[i])[j]? := by
  induction xs generalizing i with
  | nil => simp at hi
  | cons x xs ih =>
    rw [List.flatMap_cons]
    rcases i with _ | i
    · rw [Nat.zero_mul, Nat.zero_add, List.getElem?_append_left (by rw [hk]; exact hj)]; rfl
    · have h1 : (i + 1) * k + j = (enc x).length + (i * k + j) := by rw [hk, Nat.add_mul]; omega
      rw [h1, List.getElem?_append_right (Nat.le_add_right _ _), Nat.add_sub_cancel_left]
      exact ih i (by simpa using hi)

/-- a slice's address leads to these structs -/
def RdK {α : Type} (enc : α → List Value) (w : World) (A : Option Addr) (xs : List α) : Prop := Rd w A (xs.flatMap enc)
theorem RdK.touch0 {α : Type} {enc : α → List Value} {w w' : World} {A : Option Addr} {xs : List α} (h : RdK enc w A xs) (ht : Touch [] w w') : RdK enc w' A xs := Rd.touch0 h ht
theorem RdK.touch {α : Type} {enc : α → List Value} {w w' : World} {A : Option Addr} {xs : List α} {fp : List Nat} (h : RdK enc w A xs) (ht : Touch fp w w') (hn : ∀ b ∈ fpo A, b ∉ fp) : RdK enc w' A xs := Rd.touch h ht hn
theorem RdK.nil {α : Type} (enc : α → List Value) (w : World) (A : Option Addr) : RdK enc w A [] := Rd.nil w A
theorem RdK.at_ {α : Type} {enc : α → List Value} {w : World} {A : Option Addr} {xs : List α} (h : RdK enc w A xs) (k : Nat) (hk : ∀ x, (enc x).length = k) (h0 : 0 < k) (i : Nat) (hi : i < xs.length) :
    ∃ ad b off, A = some ad ∧ ad.add (i * k) = ⟨b, off, none⟩ ∧ b = ad.block ∧ ∀ j u, (enc xs[i])[j]? = some u → w.cell? ⟨b, off + j, none⟩ = some u := by
  have hpos : 0 < (xs.flatMap enc).length := by rw [flat_length enc k hk]; exact Nat.mul_pos (by omega) h0
  obtain ⟨ad, rfl, hc⟩ := h hpos
  have hall : ∀ j u, (enc xs[i])[j]? = some u → w.cell? ((ad.add (i * k)).add j) = some u := fun j u hu => by
    have hj : j < k := by have := (List.getElem?_eq_some_iff.1 hu).1; rwa [hk] at this
    rw [add_of_add]
    exact hc _ u (by rw [flat_get enc k hk xs i j hi hj]; exact hu)
  have hfirst : (enc xs[i])[0]? = some ((enc xs[i])[0]'(by rw [hk]; exact h0)) := List.getElem?_eq_getElem _
  have h1 := hall 0 _ hfirst
  have hb := block_of_add ad (i * k)
  rcases hp : ad.add (i * k) with ⟨b, off, spot⟩
  rw [hp] at h1 hall hb
  have e0 : (⟨b, off, spot⟩ : Addr).add 0 = ⟨b, off, spot⟩ := by simp [Addr.add]
  rw [e0] at h1
  obtain rfl : spot = none := by simpa using World.cell?_spot h1
  refine ⟨ad, b, off, rfl, hp, hb, fun j u hu => ?_⟩
  have := hall j u hu
  have e1 : (⟨b, off, none⟩ : Addr).add j = ⟨b, off + j, none⟩ := by unfold Addr.add; split <;> simp_all
  rwa [e1] at this

/-- a slice of structs that the calls own -/
def OwnK {α : Type} (t k : Nat) (enc : α → List Value) (w : World) (A : Option Addr) (c : Nat) (xs : List α) : Prop := w.ownsRow 0 t k (.slice A xs.length c) xs.length (xs.flatMap enc)
theorem OwnK.nil {α : Type} (t k : Nat) (enc : α → List Value) (w : World) : OwnK t k enc w none 0 [] := World.ownsRow_nil _ _ _ _
theorem OwnK.head {α : Type} {t k : Nat} {enc : α → List Value} {w : World} {A : Option Addr} {c : Nat} {xs : List α} (h : OwnK t k enc w A c xs) : A = none ∧ xs = [] ∧ c = 0 ∨ ∃ g, A = some ⟨g, 0, none⟩ := by
  rcases h.2 with ⟨hv, h0⟩ | ⟨g, cap, cur, hv, _⟩
  · injection hv with hA _ hc; exact .inl ⟨hA, List.eq_nil_of_length_eq_zero h0, hc⟩
  · injection hv with hA _ _; exact .inr ⟨g, hA⟩
theorem OwnK.rd {α : Type} {t k : Nat} {enc : α → List Value} {w : World} {A : Option Addr} {c : Nat} {xs : List α} (h : OwnK t k enc w A c xs) : RdK enc w A xs := by
  intro h0
  rcases h.2 with hv | ⟨g, cap, cur, hv, _⟩
  · obtain rfl := List.eq_nil_of_length_eq_zero hv.2
    simp at h0
  · have hA : A = some ⟨g, 0, none⟩ := by injection hv
    subst hA
    exact ⟨_, rfl, World.ownsRow.cells h (g := g) rfl⟩
theorem OwnK.le {α : Type} {t k : Nat} {enc : α → List Value} {w : World} {A : Option Addr} {c : Nat} {xs : List α} (h : OwnK t k enc w A c xs) : xs.length ≤ c := by
  obtain ⟨_, ⟨hv, hn⟩ | ⟨g, cap, cur, hv, _, _, hnc, _⟩⟩ := h
  · omega
  · injection hv with _ _ h3; omega
theorem OwnK.touch {α : Type} {t k : Nat} {enc : α → List Value} {w w' : World} {A : Option Addr} {c : Nat} {xs : List α} {fp : List Nat} (h : OwnK t k enc w A c xs) (ht : Touch fp w w') (hn : ∀ b ∈ fpo A, b ∉ fp) : OwnK t k enc w' A c xs := by
  refine ⟨h.1, ?_⟩
  rcases h.2 with hv | ⟨g, cap, cur, hv, hb, hg, rest⟩
  · exact .inl hv
  · have hA : A = some ⟨g, 0, none⟩ := by injection hv
    subst hA
    exact .inr ⟨g, cap, cur, hv, hb, ht.blk hg (hn g (by simp [fpo])), rest⟩
theorem OwnK.touch0 {α : Type} {t k : Nat} {enc : α → List Value} {w w' : World} {A : Option Addr} {c : Nat} {xs : List α} (h : OwnK t k enc w A c xs) (ht : Touch [] w w') : OwnK t k enc w' A c xs := h.touch ht (by simp)
theorem OwnK.lt {α : Type} {t k : Nat} {enc : α → List Value} {w : World} {A : Option Addr} {c : Nat} {xs : List α} (h : OwnK t k enc w A c xs) : ∀ b ∈ fpo A, b < w.heap.size := by
  intro b hb
  rcases h.2 with ⟨hv, _⟩ | ⟨g, cap, cur, hv, _, hg, _⟩
  · injection hv with hA _ _; subst hA; cases hb
  · have hA : A = some ⟨g, 0, none⟩ := by injection hv
    subst hA
    have : b = g := by simpa [fpo] using hb
    subst this
    exact (Array.getElem?_eq_some_iff.1 hg).1
theorem OwnK.empty_new {α : Type} (t k : Nat) (enc : α → List Value) (w : World) : OwnK t k enc (w.alloc (.cells #[] t)) (some ⟨w.heap.size, 0, none⟩) 0 [] :=
  ⟨by simp, .inr ⟨w.heap.size, 0, #[], rfl, Nat.zero_le _, heap_alloc_new w _, Nat.le_refl _, Nat.zero_le _, by simp, by simp⟩⟩

/-- append onto structs that the calls own -/
theorem wpList_appK {α : Type} {enc : α → List Value} {w : World} {ops : Array Oper} {rest : List Oper} {o : Oper} {a : Act} {Q : Exit → Act → World → Prop} (hgd : o.guard = none) (s x : Operand) (t : TypeId)
    (ho : o.op = .call { callee := .builtin .append, args := #[s, x], argTypes := #[t, t] })
    (e : TypeId) (z : Value) (k bytes : Nat) (hinfo : (Try.prog.info? e).map (fun i => (i.zero, i.size, i.bytes)) = some (some z, k, bytes)) (ht : Try.prog.underlying t = some (.slice e))
    (hzs : z.cells.size = k) (hsz : 0 < k) (hk : ∀ x, (enc x).length = k) (hone : ∀ x, ∀ u ∈ enc x, u.oneCell' = true)
    (A0 : Option Addr) (n c0 : Nat) (xs : List α) (hn : xs.length = n) (hs : a.eval s = .slice A0 n c0) (hown : OwnK e k enc w A0 c0 xs)
    (A : Option Addr) (m c : Nat) (news : List α) (hm : news.length = m) (hx : a.eval x = .slice A m c) (hr : RdK enc w A news) (h63 : n + m ≤ 1000000000) (hby : bytes ≤ 1000)
    (h : ∀ A' c' w', OwnK e k enc w' A' c' (xs ++ news) → Touch (fpo A0) w w' → (∀ b ∈ fpo A', b ∈ fpo A0 ∨ b = w.heap.size) → wpList Try.prog ops Q rest (a.put o.dst (.slice A' (n + m) c')) w') :
    wpList Try.prog ops Q (o :: rest) a w := by
  obtain ⟨i0, hi0, hz0, hz1, hz2⟩ := info_parts hinfo
  subst hn hm
  have hb : (xs.length + news.length) * bytes ≤ 1000000000 * 1000 := Nat.mul_le_mul h63 hby
  refine wpList_app w hgd s x t ho e i0 z k bytes ht hi0 hz0 hz1 hz2 hzs hsz A0 xs.length c0 _ hs hown A news.length c (news.flatMap enc) hx (flat_length enc k hk news) hr
    (fun u hu => by obtain ⟨y, _, hy⟩ := List.mem_flatMap.1 hu; exact hone y u hy) (by simp only [maxLen]; omega) (by omega) ?_
  intro A' c' w' h2 h3 h4
  exact h A' c' w' (by unfold OwnK; rw [List.flatMap_append, List.length_append]; exact h2) h3 h4

/-- the same as one step of a region that draws its order -/
theorem step_appK {α : Type} {enc : α → List Value} {w : World} {ops : Array Oper} {o : Oper} {a : Act} {K : Act → World → Prop} {Q : Exit → Act → World → Prop} {E : Prop} (hgd : o.guard = none) (s x : Operand) (t : TypeId)
    (ho : o.op = .call { callee := .builtin .append, args := #[s, x], argTypes := #[t, t] })
    (e : TypeId) (z : Value) (k bytes : Nat) (hinfo : (Try.prog.info? e).map (fun i => (i.zero, i.size, i.bytes)) = some (some z, k, bytes)) (ht : Try.prog.underlying t = some (.slice e))
    (hzs : z.cells.size = k) (hsz : 0 < k) (hk : ∀ x, (enc x).length = k) (hone : ∀ x, ∀ u ∈ enc x, u.oneCell' = true)
    (A0 : Option Addr) (n c0 : Nat) (xs : List α) (hn : xs.length = n) (hs : a.eval s = .slice A0 n c0) (hown : OwnK e k enc w A0 c0 xs)
    (A : Option Addr) (m c : Nat) (news : List α) (hm : news.length = m) (hx : a.eval x = .slice A m c) (hr : RdK enc w A news) (h63 : n + m ≤ 1000000000) (hby : bytes ≤ 1000)
    (h : ∀ A' c' w', OwnK e k enc w' A' c' (xs ++ news) → Touch (fpo A0) w w' → (∀ b ∈ fpo A', b ∈ fpo A0 ∨ b = w.heap.size) → K (a.put o.dst (.slice A' (n + m) c')) w') :
    if Region.wanted o (yielded ops a.tmps) = true then Oper.wp Try.prog o a w K Q else E := by
  obtain ⟨i0, hi0, hz0, hz1, hz2⟩ := info_parts hinfo
  subst hn hm
  have hb : (xs.length + news.length) * bytes ≤ 1000000000 * 1000 := Nat.mul_le_mul h63 hby
  refine step_app w hgd s x t ho e i0 z k bytes ht hi0 hz0 hz1 hz2 hzs hsz A0 xs.length c0 _ hs hown A news.length c (news.flatMap enc) hx (flat_length enc k hk news) hr
    (fun u hu => by obtain ⟨y, _, hy⟩ := List.mem_flatMap.1 hu; exact hone y u hy) (by simp only [maxLen]; omega) (by omega) ?_
  intro A' c' w' h2 h3 h4
  exact h A' c' w' (by unfold OwnK; rw [List.flatMap_append, List.length_append]; exact h2) h3 h4

/-- one struct in a block of its own -/
theorem RdK.one {α : Type} {enc : α → List Value} (w : World) (t : TypeId) (x : α) (cs : Array Value) (h : cs.toList = enc x) : RdK enc (w.alloc (.cells cs t)) (some ⟨w.heap.size, 0, none⟩) [x] := fun _ =>
  ⟨_, rfl, fun j u hu => by
    have hadd : (⟨w.heap.size, 0, none⟩ : Addr).add j = ⟨w.heap.size, j, none⟩ := by unfold Addr.add; split <;> simp_all
    rw [hadd, cell_of_row _ w.heap.size j cs t (0, 0) (heap_alloc_new w _)]
    simpa [← h] using hu⟩
/-- a row in a block just made -/
theorem RdK.row {α : Type} {enc : α → List Value} (w : World) (t : TypeId) (l : List α) (cs : Array Value) (h : cs.toList = l.flatMap enc) : RdK enc (w.alloc (.cells cs t)) (some ⟨w.heap.size, 0, none⟩) l := fun _ =>
  ⟨_, rfl, fun j u hu => by
    have hadd : (⟨w.heap.size, 0, none⟩ : Addr).add j = ⟨w.heap.size, j, none⟩ := by unfold Addr.add; split <;> simp_all
    rw [hadd, cell_of_row _ w.heap.size j cs t (0, 0) (heap_alloc_new w _)]
    rw [← h] at hu
    simpa using hu⟩
end Go.Proofs.Ytlkckkagoommaaa

/- bywashref04.In: is a text one of some? For every text and row of texts. -/
namespace Go.Proofs.Ytlkckkagoommaaa
open Go.RowKit

def tsE (s : ByteArray) : List Value := [.string s]
theorem tsE_length (s : ByteArray) : (tsE s).length = 1 := rfl
def TsAt (w : World) (A : Option Addr) (l : List ByteArray) : Prop := RdK tsE w A l
theorem TsAt.touch0 {w w' : World} {A : Option Addr} {l : List ByteArray} (h : TsAt w A l) (ht : Touch [] w w') : TsAt w' A l := RdK.touch0 h ht
theorem TsAt.at_ {w : World} {A : Option Addr} {l : List ByteArray} (h : TsAt w A l) (i : Nat) (hi : i < l.length) :
    ∃ ad, A = some ad ∧ w.cell? (ad.add i) = some (.string l[i]) := by
  obtain ⟨ad, b, off, h1, h2, _, h3⟩ := RdK.at_ h 1 tsE_length (by omega) i hi
  refine ⟨ad, h1, ?_⟩
  rw [Nat.mul_one] at h2
  rw [h2]
  exact h3 0 _ rfl
/-- is it one of these? -/
def inL (s : ByteArray) (l : List ByteArray) : Bool := l.any fun x => decide (x = s)

set_option maxRecDepth 20000 in
set_option maxHeartbeats 800000 in
theorem in4_any (s : ByteArray) (A : Option Addr) (cap n : Nat) (l : List ByteArray) (hn : l.length = n) (w : World) (h : TsAt w A l) (hl : n ≤ 140737000000000) :
    Calls Try.prog 60 #[.string s, .slice A n cap] w fun e w' => e = .returned (.bool (inL s l)) ∧ w' = w := by
  subst hn
  go_enter Try.func60, Try.ntmps60
  go_wp2
  go_loop [5] (fun i => ∃ k : Nat, k ≤ l.length ∧ i = .int .i64 k ∧ Hid (inL s (l.take k) = false)) (fun i => l.length - (intOf i).toNat)
  case atStart => exact ⟨0, by omega, rfl, Lib.hid rfl⟩
  case round =>
    obtain ⟨k, hk, rfl, Hall⟩ := hrel
    by_cases hlt : k < l.length
    · obtain ⟨ad, rfl, hc⟩ := h.at_ k hlt
      have hsn : inL s (l.take (k + 1)) = decide (l[k] = s) := by
        have := Hall.out
        unfold inL at this ⊢
        rw [List.take_succ_eq_append_getElem hlt, List.any_append, this]; simp
      have hye : l[k] = s → inL s l = true := fun e => by
        unfold inL
        rw [List.any_eq_true]
        exact ⟨_, List.getElem_mem hlt, by simp [e]⟩
      obtain ⟨t, ht⟩ : ∃ t, t = l[k] := ⟨_, rfl⟩
      rw [← ht] at hc hsn hye
      have hkI : (k : Int) < (l.length : Int) := by omega
      have hbq := bs_beq t s
      have Hsn := Lib.hid hsn; have Hye := Lib.hid hye
      clear hsn hye ht Hall
      by_cases he : t = s
      · rw [decide_eq_true he] at hbq
        subst he
        have Hf := Lib.hid (Hye.out rfl)
        clear Hsn Hye
        go_wp2
        go_ret
        exact ⟨ret_bool Hf.out.symm, rfl⟩
      · have Hf := Lib.hid (Hsn.out.trans (decide_eq_false he))
        rw [decide_eq_false he] at hbq
        clear Hsn Hye
        go_wp2
        go_round
        case rel => exact ⟨k + 1, by omega, by go_num, Hf⟩
        case measure => simp [intOf]; omega
    · obtain rfl : k = l.length := by omega
      have Hf := Lib.hid (show inL s l = false by have := Hall.out; rwa [List.take_length] at this)
      clear Hall
      go_wp2
      go_ret
      exact ⟨ret_bool Hf.out.symm, rfl⟩
end Go.Proofs.Ytlkckkagoommaaa

/- A schema in plain words: names, checks, texts, what is read back. No program. -/
namespace Go.Proofs.Ytlkckkagoommaaa

/-- a column -/
structure CD where
  name : ByteArray
  typ : Int

def letB (c : UInt8) : Bool := decide (97 ≤ c.toNat) && decide (c.toNat ≤ 122)
def innB (c : UInt8) : Bool := letB c || (decide (c.toNat = 95) || (decide (48 ≤ c.toNat) && decide (c.toNat ≤ 57)))
/-- is it a right name? -/
def nameV (s : List UInt8) : Bool := match s with
  | [] => false
  | c :: _ => decide (s.length ≤ 16) && (letB c && s.all innB)
/-- the error of a column behind others -/
def errC (pre : List CD) (c : CD) : Int :=
  if nameV c.name.data.toList = false then 13 else if c.typ ≠ 1 ∧ c.typ ≠ 2 then 12 else if (pre.any fun d => decide (d.name = c.name)) = true then 14 else 0
def chkL (pre : List CD) : List CD → Int
  | [] => 0
  | c :: r => if errC pre c = 0 then chkL (pre ++ [c]) r else errC pre c
def checkV (cs : List CD) : Int := if cs.length < 1 ∨ 16 < cs.length then 31 else chkL [] cs

theorem chk_step {cs : List CD} {k : Nat} (h : k < cs.length) : chkL (cs.take k) (cs.drop k) = if errC (cs.take k) cs[k] = 0 then chkL (cs.take (k + 1)) (cs.drop (k + 1)) else errC (cs.take k) cs[k] := by
  rw [List.drop_eq_getElem_cons h]
  show (if _ then _ else _) = _
  rw [List.take_succ_eq_append_getElem h]
theorem chk_zero {cs : List CD} {k : Nat} (h : chkL (cs.take k) (cs.drop k) = 0) (j : Nat) (h1 : k ≤ j) (h2 : j < cs.length) : errC (cs.take j) cs[j] = 0 := by
  have hk : k < cs.length := by omega
  rw [chk_step hk] at h
  by_cases he : errC (cs.take k) cs[k] = 0
  · rw [if_pos he] at h
    by_cases hj : j = k
    · subst hj; exact he
    · exact chk_zero h j (by omega) h2
  · rw [if_neg he] at h; exact absurd h he
termination_by cs.length - k
theorem errC_zero {pre : List CD} {c : CD} (h : errC pre c = 0) : nameV c.name.data.toList = true ∧ (c.typ = 1 ∨ c.typ = 2) ∧ ∀ d ∈ pre, d.name ≠ c.name := by
  unfold errC at h
  split at h
  · cases h
  · rename_i h1
    split at h
    · cases h
    · rename_i h2
      split at h
      · cases h
      · rename_i h3
        refine ⟨by simpa using h1, by omega, fun d hd he => h3 ?_⟩
        rw [List.any_eq_true]
        exact ⟨d, hd, by simpa using he⟩
theorem check_zero {cs : List CD} (h : checkV cs = 0) : 1 ≤ cs.length ∧ cs.length ≤ 16 ∧ ∀ j (hj : j < cs.length), nameV cs[j].name.data.toList = true ∧ (cs[j].typ = 1 ∨ cs[j].typ = 2) := by
  unfold checkV at h
  split at h
  · cases h
  · refine ⟨by omega, by omega, fun j hj => ?_⟩
    have := errC_zero (chk_zero (cs := cs) (k := 0) (by simpa using h) j (by omega) hj)
    exact ⟨this.1, this.2.1⟩
theorem errC_cases (pre : List CD) (c : CD) : errC pre c = 0 ∨ errC pre c = 12 ∨ errC pre c = 13 ∨ errC pre c = 14 := by
  unfold errC
  split
  · exact .inr (.inr (.inl rfl))
  · split
    · exact .inr (.inl rfl)
    · split
      · exact .inr (.inr (.inr rfl))
      · exact .inl rfl
theorem chkL_cases (pre cs : List CD) : chkL pre cs = 0 ∨ chkL pre cs = 12 ∨ chkL pre cs = 13 ∨ chkL pre cs = 14 := by
  induction cs generalizing pre with
  | nil => exact .inl rfl
  | cons c r ih =>
    have e : chkL pre (c :: r) = if errC pre c = 0 then chkL (pre ++ [c]) r else errC pre c := rfl
    rw [e]
    split
    · exact ih _
    · rcases errC_cases pre c with h | h
      · contradiction
      · exact .inr h
theorem checkV_cases (cs : List CD) : checkV cs = 0 ∨ (12 ≤ checkV cs ∧ checkV cs ≤ 31) := by
  unfold checkV
  split
  · exact .inr (by omega)
  · rcases chkL_cases [] cs with h | h
    · exact .inl h
    · right; omega

/-- the word of a type -/
def wordV (t : Int) : List UInt8 := if t = 1 then [105, 110, 116] else [116, 101, 120, 116]
def partV (c : CD) : List UInt8 := c.name.data.toList ++ 32 :: wordV c.typ
/-- the text of a right schema -/
def textV (cs : List CD) : List UInt8 := 40 :: (Lib.join (cs.map partV) [44, 32] ++ [41])
def showV (cs : List CD) : List UInt8 := if checkV cs = 0 then textV cs else []

/-- the pieces between ", " -/
def splitF (sep : List UInt8) : Nat → List UInt8 → List (List UInt8)
  | 0, s => [s]
  | f + 1, s => if Lib.index s sep = -1 then [s] else s.take (Lib.index s sep).toNat :: splitF sep f (s.drop ((Lib.index s sep).toNat + sep.length))
def splitV (s : List UInt8) (sep : List UInt8) : List (List UInt8) := splitF sep s.length s
/-- the type of a word -/
def typV (w : List UInt8) : Int := if w = [105, 110, 116] then 1 else if w = [116, 101, 120, 116] then 2 else 0
def colV (p : List UInt8) : CD := let x := Lib.cut p [32]; ⟨⟨x.1.toArray⟩, typV x.2.1⟩
/-- between the brackets -/
def bodyV (t : List UInt8) : List UInt8 := Lib.trimSuffix (Lib.trimPrefix t [40]) [41]
def colsV (t : List UInt8) : List CD := (splitV (bodyV t) [44, 32]).map colV
/-- the schema of a text -/
def parseV (t : List UInt8) : Option (List CD) := if t = [] ∨ showV (colsV t) ≠ t then none else some (colsV t)
end Go.Proofs.Ytlkckkagoommaaa

/- schema.letter, inner, Name; bywashref02.Name: is it a right name? For every text. -/
namespace Go.Proofs.Ytlkckkagoommaaa
open Go.RowKit

theorem S_get (t : List UInt8) (k : Nat) (h : k < (S t).size) : (S t)[k] = t[k]'(by rwa [S_size] at h) := rfl

theorem letter_any (x : UInt8) (w : World) : Calls Try.prog 77 #[.int .u8 x.toNat] w fun e w' => e = .returned (.bool (letB x)) ∧ w = w' := by
  have hx := x.toNat_lt
  go_enter Try.func77, Try.ntmps77
  go_wp2
  all_goals
    go_ret
    exact ⟨ret_bool (by rw [Bool.eq_iff_iff]; simp [letB]; omega), rfl⟩

theorem inner_any (x : UInt8) (w : World) : Calls Try.prog 78 #[.int .u8 x.toNat] w fun e w' => e = .returned (.bool (innB x)) ∧ w = w' := by
  have hx := x.toNat_lt
  rcases hl : letB x with _ | _
  · have hc := letter_any x w
    rw [hl] at hc
    have Hc := Lib.hid hc; have Hl := Lib.hid hl; clear hc hl
    go_enter Try.func78, Try.ntmps78
    go_wp2_with (go_at_call 77; refine Hc.out.mono ?_; rintro e w' ⟨rfl, rfl⟩)
    all_goals
      go_ret
      exact ⟨ret_bool (by rw [Bool.eq_iff_iff]; simp [innB, Hl.out]; omega), rfl⟩
  · have hc := letter_any x w
    rw [hl] at hc
    have Hc := Lib.hid hc; have Hl := Lib.hid hl; clear hc hl
    go_enter Try.func78, Try.ntmps78
    go_wp2_with (go_at_call 77; refine Hc.out.mono ?_; rintro e w' ⟨rfl, rfl⟩)
    all_goals
      go_ret
      exact ⟨ret_bool (by rw [Bool.eq_iff_iff]; simp [innB, Hl.out]), rfl⟩

theorem nameV_cons (c : UInt8) (r : List UInt8) : nameV (c :: r) = (decide ((c :: r).length ≤ 16) && (letB c && (c :: r).all innB)) := rfl
theorem letB_int (x : UInt8) : letB x = (decide (97 ≤ (x.toNat : Int)) && decide ((x.toNat : Int) ≤ 122)) := by
  unfold letB
  congr 1 <;> exact decide_eq_decide.2 (by omega)
theorem innB_int (x : UInt8) : innB x = (letB x || (decide ((x.toNat : Int) = 95) || (decide (48 ≤ (x.toNat : Int)) && decide ((x.toNat : Int) ≤ 57)))) := by
  unfold innB
  congr 1; congr 1
  · exact decide_eq_decide.2 (by omega)
  · congr 1 <;> exact decide_eq_decide.2 (by omega)
/-- a byte that spoils a name -/
theorem nameV_bad {t : List UInt8} {k : Nat} (h : k < t.length) (hb : innB t[k] = false) : nameV t = false := by
  cases t with
  | nil => rfl
  | cons c r =>
    have : (c :: r).all innB = false := by
      rw [List.all_eq_false]
      exact ⟨_, List.getElem_mem h, by rw [hb]; simp⟩
    rw [nameV_cons, this, Bool.and_false, Bool.and_false]

set_option maxRecDepth 20000 in
set_option maxHeartbeats 1600000 in
theorem name_any (t : List UInt8) (hs : t.length ≤ 140737000000000) (w : World) :
    Calls Try.prog 61 #[.string (S t)] w fun e w' => e = .returned (.bool (nameV t)) ∧ Touch [] w w' := by
  have hsz := S_size t
  by_cases h0 : t = []
  · subst h0
    go_enter Try.func61, Try.ntmps61
    have h1 : (S []).toList = [] := by rw [S_list]
    go_wp2
    go_ret
    exact ⟨rfl, Touch.refl _ _⟩
  · have hl0 : 0 < t.length := List.length_pos_iff.2 h0
    have hq : (S t).toList.isEmpty = false := by rw [S_list]; cases t; exact absurd rfl h0; rfl
    have hq2 : ((S t).toList == []) = false := by rw [S_list]; cases t; exact absurd rfl h0; rfl
    have hq3 : ((S t).toList = []) = False := eq_false (by rw [S_list]; exact h0)
    by_cases h16 : 16 < t.length
    · have hn : nameV t = false := by
        cases t with
        | nil => rfl
        | cons c r => rw [nameV_cons, decide_eq_false (by omega)]; rfl
      have Hn := Lib.hid hn; clear hn h0
      go_enter Try.func61, Try.ntmps61
      go_wp2
      go_ret
      exact ⟨ret_bool Hn.out.symm, Touch.refl _ _⟩
    have hg0 := S_get t 0 (by rw [hsz]; exact hl0)
    obtain ⟨x, hx⟩ : ∃ x, x = t[0] := ⟨_, rfl⟩
    rw [← hx] at hg0
    have Hx := Lib.hid hx; clear hx
    have hc := letter_any x w
    rcases hl : letB x with _ | _
    · have hn : nameV t = false := by
        cases t with
        | nil => rfl
        | cons c r =>
          have : x = c := Hx.out
          rw [nameV_cons, ← this, hl, Bool.false_and, Bool.and_false]
      rw [hl] at hc
      have Hn := Lib.hid hn; have Hc := Lib.hid hc; clear hn h0 hl hc
      go_enter Try.func61, Try.ntmps61
      go_wp2_with (go_at_call 77; refine Hc.out.mono ?_; rintro e w' ⟨rfl, rfl⟩)
      go_ret
      exact ⟨ret_bool Hn.out.symm, Touch.refl _ _⟩
    · rw [hl] at hc
      have Hc := Lib.hid hc; have Hl := Lib.hid hl; clear hl hc h0
      go_enter Try.func61, Try.ntmps61
      have hconv := run_bytes_of t w
      have hr := rd_bytes w t
      have ht := touch_bytes w t
      obtain ⟨W, hW⟩ : ∃ W, W = Lib.bytesWorld w 5 (S t) := ⟨_, rfl⟩
      rw [← hW] at hconv hr ht
      clear hW
      go_wp2_with (go_at_call 77; refine Hc.out.mono ?_; rintro e w' ⟨rfl, rfl⟩)
      clear hconv Hc hg0 hq hq2 hq3
      go_loop [21] (fun i => ∃ k : Nat, k ≤ t.length ∧ i = .int .i64 k ∧ Hid ((t.take k).all innB = true)) (fun i => t.length - (intOf i).toNat)
      case atStart => exact ⟨0, by omega, rfl, Lib.hid rfl⟩
      case round =>
        obtain ⟨k, hk, rfl, hall⟩ := hrel
        by_cases hlt : k < t.length
        · obtain ⟨ad, e1, hcell⟩ := hr.at_ k hlt
          obtain rfl : ⟨w.heap.size, 0, none⟩ = ad := by injection e1
          obtain ⟨y, hy⟩ : ∃ y, y = t[k] := ⟨_, rfl⟩
          have hadd : (⟨w.heap.size, 0, none⟩ : Addr).add k = ⟨w.heap.size, k, none⟩ := by unfold Addr.add; split <;> simp_all
          rw [← hy, hadd] at hcell
          have Hy := Lib.hid hy; clear hy e1 hadd
          have hc := inner_any y W
          rcases hl : innB y with _ | _
          · rw [hl] at hc
            have Hc := Lib.hid hc; clear hc
            have Hn := Lib.hid (nameV_bad hlt (by rw [← Hy.out]; exact hl)); clear hl
            go_wp2_with (go_at_call 78; refine Hc.out.mono ?_; rintro e w' ⟨rfl, rfl⟩)
            go_ret
            exact ⟨ret_bool Hn.out.symm, ht⟩
          · rw [hl] at hc
            have Hc := Lib.hid hc; have Hl2 := Lib.hid hl; clear hc hl
            go_wp2_with (go_at_call 78; refine Hc.out.mono ?_; rintro e w' ⟨rfl, rfl⟩)
            go_round
            case rel => exact ⟨k + 1, by omega, by go_num, Lib.hid (by
              rw [List.take_succ_eq_append_getElem hlt, List.all_append, hall.out, ← Hy.out]
              simp [Hl2.out])⟩
            case measure => simp [intOf]; omega
        · obtain rfl : k = t.length := by omega
          go_wp2
          go_ret
          refine ⟨ret_bool (Eq.symm ?_), ht⟩
          have h := hall.out
          rw [List.take_length] at h
          cases t with
          | nil => simp at hl0
          | cons c r =>
            have e : x = c := Hx.out
            subst e
            rw [nameV_cons, h, Hl.out, decide_eq_true (by omega)]; rfl

end Go.Proofs.Ytlkckkagoommaaa

/- A map of the calls' own, entry by entry: look-up, store, delete, len as equations on the run. For keys of whatever kind that the library's bundle 'Keyed' speaks of. -/
namespace Go.Proofs.Ytlkckkagoommaaa
open Go.RowKit Go.Maps Go.ChangeMaps

/-- block b is a map that holds just these entries, in the order of their birth -/
def MapAt (P : Program) (k : TypeId) (w : World) (b : Nat) (kvs : List (Value × Value)) : Prop :=
  ∃ es clock, w.heap[b]? = some (.map es clock) ∧ es.toList.map (fun e => (e.key, e.val)) = kvs ∧ (∀ e ∈ es.toList, ∃ l, keyOf P k e.key = some l) ∧ kvs.Pairwise (fun p q => p.1 ≠ q.1)

variable {P : Program} {k : TypeId}
theorem MapAt.made (w : World) : MapAt P k (w.alloc (.map #[] 0)) w.heap.size [] := ⟨#[], 0, heap_alloc_new w _, rfl, by simp, .nil⟩
theorem MapAt.touch {w w' : World} {b : Nat} {kvs : List (Value × Value)} {fp : List Nat} (h : MapAt P k w b kvs) (ht : Touch fp w w') (hb : b ∉ fp) : MapAt P k w' b kvs := by
  obtain ⟨es, clock, h1, h2⟩ := h
  exact ⟨es, clock, ht.blk h1 hb, h2⟩
theorem MapAt.lt {w : World} {b : Nat} {kvs : List (Value × Value)} (h : MapAt P k w b kvs) : b < w.heap.size := by
  obtain ⟨es, clock, h1, _⟩ := h
  exact (Array.getElem?_eq_some_iff.1 h1).1
theorem Touch.setBlock {w : World} {b : Nat} {es : Array MapEntry} {clock : Nat} (hb : w.heap[b]? = some (.map es clock)) (o : Obj) : Touch [b] w (setBlock w b o) :=
  ⟨rfl, rfl, rfl, by simp [ChangeMaps.setBlock], fun j _ hn => heap_setBlock_other hb o (fun e => hn (by simp [e]))⟩

/-- nothing stands under the key -/
theorem MapAt.miss {w : World} {b : Nat} {kvs : List (Value × Value)} {t e : TypeId} (h : MapAt P k w b kvs) (K : Keyed P k) (ht : P.underlying t = some (.map k e)) {key : Value} {kl : Lit} (hkey : keyOf P k key = some kl)
    (hm : ∀ p ∈ kvs, p.1 ≠ key) (z : Value) (hz : (zeroValue e).run P w = .ok z w) (c : Bool) :
    (Instr.lookup t (.map (some b)) key c).run P w = .ok (if c then .tuple #[z, .bool false] else z) w := by
  obtain ⟨es, clock, hb, rfl, hk, _⟩ := h
  rcases K.find w hkey es.toList hk with ⟨h1, h2⟩ | ⟨j, e0, h1, h2, h3⟩
  · simp [Instr.lookup, run_underlying ht, MapKept.run_getObj_map hb, K.check w _ hkey, h1, hz, Result.andThen]
  · exact absurd h3 (hm (e0.key, e0.val) (List.mem_map.2 ⟨e0, List.mem_of_getElem? h2, rfl⟩))
theorem find_place {es : List MapEntry} {j : Nat} {e0 : MapEntry} {key : Value} {l1 l2 : List (Value × Value)} {v0 : Value} (h2 : es[j]? = some e0) (h3 : e0.key = key) (he : es.map (fun e => (e.key, e.val)) = l1 ++ (key, v0) :: l2)
    (hp : (l1 ++ (key, v0) :: l2).Pairwise (fun p q => p.1 ≠ q.1)) : j = l1.length ∧ e0.val = v0 := by
  have hj : (l1 ++ (key, v0) :: l2)[j]? = some (key, e0.val) := by rw [← he, List.getElem?_map, h2, ← h3]; rfl
  have hjl : j < (l1 ++ (key, v0) :: l2).length := (List.getElem?_eq_some_iff.1 hj).1
  have hl : (l1 ++ (key, v0) :: l2)[l1.length]? = some (key, v0) := by simp
  have hll : l1.length < (l1 ++ (key, v0) :: l2).length := (List.getElem?_eq_some_iff.1 hl).1
  have e1 : (l1 ++ (key, v0) :: l2)[j] = (key, e0.val) := by rw [List.getElem?_eq_getElem hjl] at hj; exact Option.some.inj hj
  have e2 : (l1 ++ (key, v0) :: l2)[l1.length] = (key, v0) := by rw [List.getElem?_eq_getElem hll] at hl; exact Option.some.inj hl
  have hpw := List.pairwise_iff_getElem.1 hp
  rcases Nat.lt_trichotomy j l1.length with h | h | h
  · exact absurd (by rw [e1, e2]) (hpw j l1.length hjl hll h)
  · subst h
    rw [e1] at e2
    exact ⟨rfl, (Prod.mk.inj e2).2⟩
  · exact absurd (by rw [e1, e2]) (hpw l1.length j hll hjl h)
/-- what stands under the key -/
theorem MapAt.hit {w : World} {b : Nat} {kvs : List (Value × Value)} {t e : TypeId} (h : MapAt P k w b kvs) (K : Keyed P k) (ht : P.underlying t = some (.map k e)) {key v : Value} {kl : Lit} (hkey : keyOf P k key = some kl)
    (hm : (key, v) ∈ kvs) (c : Bool) :
    (Instr.lookup t (.map (some b)) key c).run P w = .ok (if c then .tuple #[v, .bool true] else v) w := by
  obtain ⟨es, clock, hb, rfl, hk, hp⟩ := h
  obtain ⟨e1, he1, e2⟩ := List.mem_map.1 hm
  rcases K.find w hkey es.toList hk with ⟨h1, h2⟩ | ⟨j, e0, h1, h2, h3⟩
  · exact absurd (by simpa using congrArg Prod.fst e2) (h2 e1 he1)
  · have hv : e0.val = v := by
      obtain ⟨l1, l2, hl⟩ := List.append_of_mem hm
      exact (find_place h2 h3 hl (hl ▸ hp)).2
    simp [Instr.lookup, run_underlying ht, MapKept.run_getObj_map hb, K.check w _ hkey, h1, hv, Result.andThen]
/-- a new entry -/
theorem MapAt.put_new {w : World} {b : Nat} {kvs : List (Value × Value)} {t e : TypeId} (h : MapAt P k w b kvs) (K : Keyed P k) (ht : P.underlying t = some (.map k e)) {key : Value} {kl : Lit} (hkey : keyOf P k key = some kl)
    (hm : ∀ p ∈ kvs, p.1 ≠ key) (v : Value) :
    ∃ w', (Instr.mapUpdate t (.map (some b)) key v).run P w = .ok () w' ∧ MapAt P k w' b (kvs ++ [(key, v)]) ∧ Touch [b] w w' := by
  obtain ⟨es, clock, hb, rfl, hk, hp⟩ := h
  rcases K.find w hkey es.toList hk with ⟨h1, h2⟩ | ⟨j, e0, h1, h2, h3⟩
  · refine ⟨ChangeMaps.setBlock w b (.map (es.push ⟨key, v, clock⟩) (clock + 1)), ?_, ⟨es.push ⟨key, v, clock⟩, clock + 1, heap_setBlock_same hb _, by simp, ?_, ?_⟩, Touch.setBlock hb _⟩
    · simp [Instr.mapUpdate, run_underlying ht, MapKept.run_getObj_map hb, K.check w false hkey, h1, MapKept.run_setObj_map _ hb, Result.andThen, ChangeMaps.setBlock]
    · intro x hx
      simp only [Array.toList_push, List.mem_append, List.mem_singleton] at hx
      rcases hx with hx | rfl
      · exact hk x hx
      · exact ⟨kl, hkey⟩
    · rw [List.pairwise_append]
      refine ⟨hp, by simp, fun p hp2 q hq => ?_⟩
      obtain rfl : q = (key, v) := by simpa using hq
      exact hm p hp2
  · exact absurd h3 (hm (e0.key, e0.val) (List.mem_map.2 ⟨e0, List.mem_of_getElem? h2, rfl⟩))
/-- the entry of a key gets another value -/
theorem MapAt.put_old {w : World} {b : Nat} {l1 l2 : List (Value × Value)} {t e : TypeId} {key v0 : Value} (h : MapAt P k w b (l1 ++ (key, v0) :: l2)) (K : Keyed P k) (ht : P.underlying t = some (.map k e)) {kl : Lit} (hkey : keyOf P k key = some kl) (v : Value) :
    ∃ w', (Instr.mapUpdate t (.map (some b)) key v).run P w = .ok () w' ∧ MapAt P k w' b (l1 ++ (key, v) :: l2) ∧ Touch [b] w w' := by
  obtain ⟨es, clock, hb, he, hk, hp⟩ := h
  rcases K.find w hkey es.toList hk with ⟨h1, h2⟩ | ⟨j, e0, h1, h2, h3⟩
  · have : (key, v0) ∈ es.toList.map (fun e => (e.key, e.val)) := by rw [he]; simp
    obtain ⟨e1, he1, e2⟩ := List.mem_map.1 this
    exact absurd (by simpa using congrArg Prod.fst e2) (h2 e1 he1)
  · obtain ⟨rfl, hv⟩ := find_place h2 h3 he hp
    have hjs : l1.length < es.size := by have := (List.getElem?_eq_some_iff.1 h2).1; simpa using this
    have hget : es[l1.length]? = some e0 := by rw [← Array.getElem?_toList]; exact h2
    have hst := K.stays w hkey
    refine ⟨ChangeMaps.setBlock w b (.map (es.modify l1.length fun e => { e with key := key, val := v }) clock), ?_, ⟨es.modify l1.length fun e => { e with key := key, val := v }, clock, heap_setBlock_same hb _, ?_, ?_, ?_⟩, Touch.setBlock hb _⟩
    · simp [Instr.mapUpdate, run_underlying ht, MapKept.run_getObj_map hb, K.check w false hkey, h1, hget, h3, hst, MapKept.run_setObj_map _ hb, Result.andThen, ChangeMaps.setBlock]
    · apply List.ext_getElem?
      intro i
      have hi : (es.toList.map (fun e => (e.key, e.val)))[i]? = (l1 ++ (key, v0) :: l2)[i]? := by rw [he]
      simp only [List.getElem?_map, Array.getElem?_toList, Array.getElem?_modify] at hi ⊢
      by_cases hil : l1.length = i
      · subst hil
        simp [hget]
      · rw [if_neg hil, hi]
        rcases Nat.lt_or_gt_of_ne hil with h | h
        · rw [List.getElem?_append_right (by omega), List.getElem?_append_right (by omega)]
          obtain ⟨m, hm⟩ : ∃ m, i - l1.length = m + 1 := ⟨i - l1.length - 1, by omega⟩
          rw [hm]; rfl
        · rw [List.getElem?_append_left h, List.getElem?_append_left h]
    · intro x hx
      obtain ⟨i, hi⟩ := List.mem_iff_getElem?.1 hx
      rw [Array.getElem?_toList, Array.getElem?_modify] at hi
      by_cases hil : l1.length = i
      · subst hil
        rw [if_pos rfl, hget] at hi
        obtain rfl := Option.some.inj hi
        exact ⟨kl, hkey⟩
      · rw [if_neg hil] at hi
        exact hk x (List.mem_iff_getElem?.2 ⟨i, by rw [Array.getElem?_toList]; exact hi⟩)
    · rw [List.pairwise_append, List.pairwise_cons] at hp ⊢
      exact ⟨hp.1, ⟨hp.2.1.1, hp.2.1.2⟩, fun p hp1 q hq => by
        rcases List.mem_cons.1 hq with rfl | hq
        · exact hp.2.2 p hp1 (key, v0) (by simp)
        · exact hp.2.2 p hp1 q (List.mem_cons.2 (.inr hq))⟩
/-- the entry of a key goes -/
theorem MapAt.del {w : World} {b : Nat} {l1 l2 : List (Value × Value)} {t e : TypeId} {key v0 : Value} (h : MapAt P k w b (l1 ++ (key, v0) :: l2)) (K : Keyed P k) (ht : P.underlying t = some (.map k e)) {kl : Lit} (hkey : keyOf P k key = some kl) (ty : TypeId) :
    ∃ w', (Builtin.delete_ #[t, k] ty #[.map (some b), key]).run P w = .ok (.tuple #[]) w' ∧ MapAt P k w' b (l1 ++ l2) ∧ Touch [b] w w' := by
  obtain ⟨es, clock, hb, he, hk, hp⟩ := h
  rcases K.find w hkey es.toList hk with ⟨h1, h2⟩ | ⟨j, e0, h1, h2, h3⟩
  · have : (key, v0) ∈ es.toList.map (fun e => (e.key, e.val)) := by rw [he]; simp
    obtain ⟨e1, he1, e2⟩ := List.mem_map.1 this
    exact absurd (by simpa using congrArg Prod.fst e2) (h2 e1 he1)
  · obtain ⟨rfl, hv⟩ := find_place h2 h3 he hp
    have hjs : l1.length < es.size := by have := (List.getElem?_eq_some_iff.1 h2).1; simpa using this
    have hsub : (es.eraseIdxIfInBounds l1.length).toList = es.toList.eraseIdx l1.length := by
      unfold Array.eraseIdxIfInBounds
      rw [dif_pos hjs]
      simp
    refine ⟨ChangeMaps.setBlock w b (.map (es.eraseIdxIfInBounds l1.length) clock), ?_, ⟨_, clock, heap_setBlock_same hb _, ?_, ?_, ?_⟩, Touch.setBlock hb _⟩
    · simp [Builtin.delete_, run_underlying ht, MapKept.run_getObj_map hb, K.check w _ hkey, h1, MapKept.run_setObj_map _ hb, Result.andThen, ChangeMaps.setBlock]
    · rw [hsub, List.eraseIdx_eq_take_drop_succ, List.map_append, List.map_take, List.map_drop, he]
      simp
    · intro x hx
      rw [hsub] at hx
      exact hk x ((List.eraseIdx_sublist _ _).subset hx)
    · rw [List.pairwise_append, List.pairwise_cons] at hp
      rw [List.pairwise_append]
      exact ⟨hp.1, hp.2.1.2, fun p hp1 q hq => hp.2.2 p hp1 q (List.mem_cons.2 (.inr hq))⟩
/-- there is none to go -/
theorem MapAt.del_miss {w : World} {b : Nat} {kvs : List (Value × Value)} {t e : TypeId} {key : Value} (h : MapAt P k w b kvs) (K : Keyed P k) (ht : P.underlying t = some (.map k e)) {kl : Lit} (hkey : keyOf P k key = some kl) (hm : ∀ p ∈ kvs, p.1 ≠ key) (ty : TypeId) :
    ∃ w', (Builtin.delete_ #[t, k] ty #[.map (some b), key]).run P w = .ok (.tuple #[]) w' ∧ MapAt P k w' b kvs ∧ Touch [b] w w' := by
  obtain ⟨es, clock, hb, he, hk, hp⟩ := h
  rcases K.find w hkey es.toList hk with ⟨h1, h2⟩ | ⟨j, e0, h1, h2, h3⟩
  · refine ⟨ChangeMaps.setBlock w b (.map es clock), ?_, ⟨es, clock, heap_setBlock_same hb _, he, hk, hp⟩, Touch.setBlock hb _⟩
    simp [Builtin.delete_, run_underlying ht, MapKept.run_getObj_map hb, K.check w _ hkey, h1, MapKept.run_setObj_map _ hb, Result.andThen, ChangeMaps.setBlock]
  · exact absurd h3 (hm (e0.key, e0.val) (by rw [← he]; exact List.mem_map.2 ⟨e0, List.mem_of_getElem? h2, rfl⟩))
theorem MapAt.len {w : World} {b : Nat} {kvs : List (Value × Value)} {t e : TypeId} (h : MapAt P k w b kvs) (ht : P.underlying t = some (.map k e)) (ty : TypeId) :
    (Builtin.len_ #[t] ty #[.map (some b)]).run P w = .ok (.int .i64 kvs.length) w := by
  obtain ⟨es, clock, hb, rfl, _, _⟩ := h
  simp [Builtin.len_, run_underlying ht, MapKept.run_getObj_map hb, Result.andThen, goInt]

section
variable {ops : Array Oper} {rest : List Oper} {o : Oper} {a : Act} {Q : Exit → Act → World → Prop}
/-- a look-up whose run is known -/
theorem wpList_lookup_is {w : World} (hg : o.guard = none) (m x : Operand) (t : TypeId) (c : Bool) (hop : o.op = Op.lookup t m x c) (mv key v : Value) (hm : a.eval m = mv) (hx : a.eval x = key)
    (hrun : (Instr.lookup t mv key c).run P w = .ok v w) (hK : wpList P ops Q rest (a.put o.dst v) w) : wpList P ops Q (o :: rest) a w := by
  refine wpList_plain hg fun K' hK' => ?_
  unfold Oper.wp
  simp [execOp, hop, hm, hx, hrun, Result.andThen]
  exact hK' _ _ hK
/-- a store into a map whose run is known -/
theorem wpList_update_is {w w' : World} (hg : o.guard = none) (m x v : Operand) (t : TypeId) (hop : o.op = Op.mapUpdate t m x v) (mv key val : Value) (hm : a.eval m = mv) (hx : a.eval x = key) (hv : a.eval v = val)
    (hrun : (Instr.mapUpdate t mv key val).run P w = .ok () w') (hK : wpList P ops Q rest (a.put o.dst undef) w') : wpList P ops Q (o :: rest) a w := by
  refine wpList_plain hg fun K' hK' => ?_
  unfold Oper.wp
  simp [execOp, hop, hm, hx, hv, hrun, Result.andThen]
  exact hK' _ _ hK
end
end Go.Proofs.Ytlkckkagoommaaa

/- schema.Schema.Check: is a schema right? For every schema. -/
namespace Go.Proofs.Ytlkckkagoommaaa
open Go.RowKit Go.Maps

/-- a column's cells -/
def cdE (c : CD) : List Value := [.string c.name, .int .i64 c.typ]
theorem cdE_length (c : CD) : (cdE c).length = 2 := rfl
theorem cdE_one (c : CD) : ∀ u ∈ cdE c, u.oneCell' = true := by
  intro u hu
  simp only [cdE, List.mem_cons, List.not_mem_nil, or_false] at hu
  rcases hu with rfl | rfl <;> rfl
/-- names not too long, types that are ints -/
structure CD.Ok (c : CD) : Prop where
  n : c.name.size ≤ 140737000000000
  t : -9223372036854775808 ≤ c.typ ∧ c.typ ≤ 9223372036854775807
def ColsAt (w : World) (A : Option Addr) (cs : List CD) : Prop := RdK cdE w A cs
theorem ColsAt.at_ {w : World} {A : Option Addr} {cs : List CD} (h : ColsAt w A cs) (i : Nat) (hi : i < cs.length) :
    ∃ ad b off, A = some ad ∧ ad.add (i * 2) = ⟨b, off, none⟩ ∧ w.cell? ⟨b, off, none⟩ = some (.string cs[i].name) ∧ w.cell? ⟨b, off + 1, none⟩ = some (.int .i64 cs[i].typ) := by
  obtain ⟨ad, b, off, h1, h2, _, h3⟩ := RdK.at_ h 2 cdE_length (by omega) i hi
  exact ⟨ad, b, off, h1, h2, h3 0 _ rfl, h3 1 _ rfl⟩
theorem ColsAt.touch0 {w w' : World} {A : Option Addr} {cs : List CD} (h : ColsAt w A cs) (ht : Touch [] w w') : ColsAt w' A cs := RdK.touch0 h ht

theorem name_anyB (s : ByteArray) (hs : s.size ≤ 140737000000000) (w : World) :
    Calls Try.prog 61 #[.string s] w fun e w' => e = .returned (.bool (nameV s.data.toList)) ∧ Touch [] w w' := by
  have := name_any s.data.toList (by rw [size_toList]; exact hs) w
  rwa [S_of] at this

theorem zeroBool (w : World) : (zeroValue 4).run Try.prog w = .ok (.bool false) w := by kernel_rfl
/-- the names seen so far -/
def seenV (cs : List CD) : List (Value × Value) := cs.map fun c => (.string c.name, .bool true)

set_option maxRecDepth 20000 in
set_option maxHeartbeats 1600000 in
theorem check_any (A : Option Addr) (cap n : Nat) (cs : List CD) (hn : cs.length = n) (hok : ∀ c ∈ cs, c.Ok) (w : World) (h : ColsAt w A cs) (hl : n ≤ 9223372036854775807) :
    Calls Try.prog 38 #[.slice A n cap] w fun e w' => e = .returned (.int .i64 (checkV cs)) ∧ Touch [] w w' := by
  subst hn
  have hmm := @run_makeMap Try.prog
  by_cases h0 : cs.length < 1 ∨ 16 < cs.length
  · have hc : checkV cs = 31 := by unfold checkV; rw [if_pos h0]
    have Hc := Lib.hid hc; clear hc
    rcases h0 with h0 | h0
    · have hz : cs.length = 0 := by omega
      have hzb : ((cs.length : Int) == 0) = true := by rw [hz]; rfl
      clear hz
      go_enter Try.func38, Try.ntmps38
      go_wp2
      go_ret
      exact ⟨ret_int Hc.out.symm, Touch.refl _ _⟩
    · have hzb : ((cs.length : Int) == 0) = false := by rw [beq_eq_false_iff_ne]; omega
      go_enter Try.func38, Try.ntmps38
      go_wp2
      go_ret
      exact ⟨ret_int Hc.out.symm, Touch.refl _ _⟩
  · have h1 : 1 ≤ cs.length := by omega
    have h16 : cs.length ≤ 16 := by omega
    have hzb : ((cs.length : Int) == 0) = false := by rw [beq_eq_false_iff_ne]; omega
    have hc : checkV cs = chkL (cs.take 0) (cs.drop 0) := by unfold checkV; rw [if_neg h0]; rfl
    have Hc := Lib.hid hc; clear hc h0
    go_enter Try.func38, Try.ntmps38
    go_wp2
    clear hzb
    go_loopw [17] (fun i wr => ∃ k : Nat, k ≤ cs.length ∧ i = .int .i64 k ∧ Hid (checkV cs = chkL (cs.take k) (cs.drop k)) ∧ MapAt Try.prog 9 wr w.heap.size (seenV (cs.take k)) ∧ Touch [] w wr) (fun i _ => cs.length - (intOf i).toNat)
    case atStart => exact ⟨0, by omega, rfl, Hc, MapAt.made _, (Touch.refl _ _).alloc _⟩
    case round =>
      clear Hc hmm
      obtain ⟨k, hk, rfl, Hc, hmap, ht⟩ := hrel
      by_cases hlt : k < cs.length
      · obtain ⟨ad, b, off, rfl, hadd, c0, c1⟩ := (h.touch0 ht).at_ k hlt
        have hcok := hok _ (List.getElem_mem hlt)
        have hst := chk_step hlt
        obtain ⟨c, hce⟩ : ∃ c, c = cs[k] := ⟨_, rfl⟩
        rw [← hce] at c0 c1 hst hcok
        have hsn : seenV (cs.take (k + 1)) = seenV (cs.take k) ++ [(.string c.name, .bool true)] := by
          unfold seenV; rw [List.take_succ_eq_append_getElem hlt, List.map_append, ← hce]; rfl
        have Hst := Lib.hid (Hc.out.trans hst); have Hsn := Lib.hid hsn
        clear hst Hc hce hsn
        obtain ⟨hcn, hct1, hct2⟩ := hcok
        have tb := (Touch.refl [] wr).alloc (.cells #[.string c.name, .int .i64 c.typ] 45)
        have hb := heap_alloc_new wr (.cells #[.string c.name, .int .i64 c.typ] 45)
        have hname := name_anyB c.name hcn (wr.alloc (.cells #[.string c.name, .int .i64 c.typ] 45))
        have Hkey := Lib.hid (Go.WideMaps.keyOf_string_mk Try.underlying9 (s := c.name) (by unfold maxLen; omega))
        have Hmap := Lib.hid (hmap.touch tb (by simp)); clear hmap
        rcases hnv : nameV c.name.data.toList with _ | _
        · rw [hnv] at hname
          have Hname := Lib.hid hname; clear hname
          have he : errC (cs.take k) c = 13 := by unfold errC; rw [if_pos hnv]
          have He := Lib.hid (show checkV cs = 13 by rw [Hst.out, he]; rfl); clear he hnv
          go_wp2_with (go_at_call 61; refine Hname.out.mono ?_; rintro e w1 ⟨rfl, t1⟩)
          go_ret
          exact ⟨ret_int He.out.symm, (ht.trans0 tb).trans0 t1⟩
        · rw [hnv] at hname
          have Hname := Lib.hid hname; clear hname
          by_cases hty : c.typ ≠ 1 ∧ c.typ ≠ 2
          · have he : errC (cs.take k) c = 12 := by unfold errC; rw [if_neg (by rw [hnv]; simp), if_pos hty]
            have He := Lib.hid (show checkV cs = 12 by rw [Hst.out, he]; rfl); clear he hnv
            obtain ⟨q1, q2⟩ := hty
            have q1b : (c.typ == 1) = false := by rw [beq_eq_false_iff_ne]; exact q1
            have q2b : (c.typ == 2) = false := by rw [beq_eq_false_iff_ne]; exact q2
            have q1n : (c.typ != 1) = true := by rw [bne, q1b]; rfl
            have q2n : (c.typ != 2) = true := by rw [bne, q2b]; rfl
            go_wp2_with fail
            refine Hname.out.mono ?_
            rintro e w1 ⟨rfl, t1⟩
            have hb1 := t1.blk hb (by simp)
            have d0 := cell_blk hb1 (i := 0) rfl
            have d1 := cell_blk hb1 (i := 1) rfl
            go_wp2
            go_ret
            exact ⟨ret_int He.out.symm, (ht.trans0 tb).trans0 t1⟩
          · have hty2 : c.typ = 1 ∨ c.typ = 2 := by omega
            go_wp2_with fail
            refine Hname.out.mono ?_
            rintro e w1 ⟨rfl, t1⟩
            have hb1 := t1.blk hb (by simp)
            have d0 := cell_blk hb1 (i := 0) rfl
            have d1 := cell_blk hb1 (i := 1) rfl
            have Hmap1 := Lib.hid (Hmap.out.touch t1 (by simp))
            by_cases hany : ((cs.take k).any fun d => decide (d.name = c.name)) = true
            · have he : errC (cs.take k) c = 14 := by unfold errC; rw [if_neg (by rw [hnv]; simp), if_neg hty, if_pos hany]
              have He := Lib.hid (show checkV cs = 14 by rw [Hst.out, he]; rfl); clear he hnv
              have hmem : (Value.string c.name, Value.bool true) ∈ seenV (cs.take k) := by
                obtain ⟨d, hd, hde⟩ := List.any_eq_true.1 hany
                exact List.mem_map.2 ⟨d, hd, by rw [show d.name = c.name by simpa using hde]⟩
              clear hany
              rcases hty2 with q | q
              all_goals
                have q1b : (c.typ == 1) = decide (c.typ = 1) := rfl
                rw [q] at d1
                clear q1b hty q
                go_wp2_with (at_lookup; refine stop ?_)
                refine go ?_
                refine wpList_lookup_is rfl (.tmp 36) (.tmp 38) 76 false rfl _ _ _ rfl rfl (Hmap1.out.hit (string_keyed Try.underlying9) Try.underlying76 Hkey.out hmem false) ?_
                go_wp2
                go_ret
                exact ⟨ret_int He.out.symm, (ht.trans0 tb).trans0 t1⟩
            · have he : errC (cs.take k) c = 0 := by unfold errC; rw [if_neg (by rw [hnv]; simp), if_neg hty, if_neg hany]
              have He := Lib.hid (show checkV cs = chkL (cs.take (k + 1)) (cs.drop (k + 1)) by rw [Hst.out, he]; rfl); clear he hnv
              have hmiss : ∀ p ∈ seenV (cs.take k), p.1 ≠ Value.string c.name := by
                intro p hp e
                obtain ⟨d, hd, rfl⟩ := List.mem_map.1 hp
                exact hany (List.any_eq_true.2 ⟨d, hd, by simpa using e⟩)
              clear hany
              obtain ⟨w2, hrun, hmap2, t2⟩ := Hmap1.out.put_new (string_keyed Try.underlying9) Try.underlying76 Hkey.out hmiss (.bool true)
              have Hrun := Lib.hid hrun; clear hrun
              rcases hty2 with q | q
              all_goals
                rw [q] at d1
                clear hty q
                go_wp2_with (at_lookup; refine stop ?_)
                refine go ?_
                refine wpList_lookup_is rfl (.tmp 36) (.tmp 38) 76 false rfl _ _ _ rfl rfl (Hmap1.out.miss (string_keyed Try.underlying9) Try.underlying76 Hkey.out hmiss _ (zeroBool _) false) ?_
                go_wp2_with (at_mapUpdate; refine stop ?_)
                refine go ?_
                refine wpList_update_is rfl (.tmp 40) (.tmp 42) (.const (.bool true)) 76 rfl _ _ _ rfl rfl rfl Hrun.out ?_
                go_wp2
                go_roundw
                case rel => exact ⟨k + 1, by omega, by go_num, He, by rw [Hsn.out]; exact hmap2, ((ht.trans0 tb).trans0 t1).trans t2 (fun b hb => .inr (by simp at hb; omega))⟩
                case measure => simp [intOf]; omega
      · obtain rfl : k = cs.length := by omega
        have He := Lib.hid (show checkV cs = 0 by rw [Hc.out, List.drop_length]; rfl)
        go_wp2
        go_ret
        exact ⟨ret_int He.out.symm, ht⟩
end Go.Proofs.Ytlkckkagoommaaa

/- Slices of values; what a made slice is. For every such slice. -/
namespace Go.Proofs.Ytlkckkagoommaaa
open Go.RowKit

/-- a value's cells -/
def vdE (v : VD) : List Value := [.int .i64 v.kind, .int .i64 v.num, .string v.text]
theorem vdE_length (v : VD) : (vdE v).length = 3 := rfl
theorem vdE_one (v : VD) : ∀ u ∈ vdE v, u.oneCell' = true := by
  intro u hu
  simp only [vdE, List.mem_cons, List.not_mem_nil, or_false] at hu
  rcases hu with rfl | rfl | rfl <;> rfl
def ValsAt (w : World) (A : Option Addr) (vs : List VD) : Prop := RdK vdE w A vs
theorem ValsAt.at_ {w : World} {A : Option Addr} {vs : List VD} (h : ValsAt w A vs) (i : Nat) (hi : i < vs.length) :
    ∃ ad b off, A = some ad ∧ ad.add (i * 3) = ⟨b, off, none⟩ ∧ w.cell? ⟨b, off, none⟩ = some (.int .i64 vs[i].kind) ∧ w.cell? ⟨b, off + 1, none⟩ = some (.int .i64 vs[i].num) ∧ w.cell? ⟨b, off + 2, none⟩ = some (.string vs[i].text) := by
  obtain ⟨ad, b, off, h1, h2, _, h3⟩ := RdK.at_ h 3 vdE_length (by omega) i hi
  exact ⟨ad, b, off, h1, h2, h3 0 _ rfl, h3 1 _ rfl, h3 2 _ rfl⟩
theorem ValsAt.touch0 {w w' : World} {A : Option Addr} {vs : List VD} (h : ValsAt w A vs) (ht : Touch [] w w') : ValsAt w' A vs := RdK.touch0 h ht

theorem all_no {α : Type} {p : α → Bool} {l : List α} {k : Nat} (h : k < l.length) (hb : p l[k] = false) : l.all p = false := by
  rw [List.all_eq_false]
  exact ⟨_, List.getElem_mem h, by rw [hb]; simp⟩
theorem all_snoc {α : Type} {p : α → Bool} {l : List α} {k : Nat} (h : k < l.length) (h1 : (l.take k).all p = true) (h2 : p l[k] = true) : (l.take (k + 1)).all p = true := by
  rw [List.take_succ_eq_append_getElem h, List.all_append, h1]; simp [h2]

theorem info_rcol : (Try.prog.info? 103).map (fun i => (i.zero, i.size, i.bytes)) = some (some (.agg #[.string ⟨#[]⟩, .int .i64 0]), 2, 24) := by kernel_rfl

/-- what a made slice is -/
structure Made {α : Type} (t k : Nat) (enc : α → List Value) (xs : List α) (A : Option Addr) (c : Nat) (w w' : World) : Prop where
  own : OwnK t k enc w' A c xs
  t : Touch [] w w'
  f : ∀ b ∈ fpo A, w.heap.size ≤ b
theorem Made.step {α : Type} {t k : Nat} {enc : α → List Value} {xs ys : List α} {A A' : Option Addr} {c c' : Nat} {w w1 w2 : World} (h : Made t k enc xs A c w w1) (h2 : OwnK t k enc w2 A' c' ys) (t2 : Touch (fpo A) w1 w2) (f2 : ∀ b ∈ fpo A', b ∈ fpo A ∨ b = w1.heap.size) : Made t k enc ys A' c' w w2 :=
  ⟨h2, h.t.trans t2 (fun b hb => .inr (h.f b hb)), fun b hb => by
    rcases f2 b hb with e | e
    · exact h.f b e
    · have := h.t.size; omega⟩
theorem Made.touch0 {α : Type} {t k : Nat} {enc : α → List Value} {xs : List α} {A : Option Addr} {c : Nat} {w w1 w2 : World} (h : Made t k enc xs A c w w1) (ht : Touch [] w1 w2) : Made t k enc xs A c w w2 := ⟨h.own.touch0 ht, h.t.trans0 ht, h.f⟩
theorem Made.nil {α : Type} (t k : Nat) (enc : α → List Value) (w : World) : Made t k enc [] none 0 w w := ⟨OwnK.nil _ _ _ _, Touch.refl _ _, by simp [fpo]⟩

end Go.Proofs.Ytlkckkagoommaaa

/- A region that draws its order, reads old cells and calls what only makes memory: one walk in the order of the text. No condition. -/
namespace Go.Proofs.Ytlkckkagoommaaa
open Go.RowKit

/-- a world in which all that lay in W lies as it lay -/
structure TW (W : World) where
  w : World
  t : Touch [] W w
instance (W : World) : Nonempty (TW W) := ⟨⟨W, Touch.refl _ _⟩⟩
theorem TW.cell {W : World} {a : Addr} {v : Value} (h : W.cell? a = some v) : ∀ x : TW W, x.w.cell? a = some v := fun x => x.t.cell h (by simp)
theorem Calls.tw {P : Program} {f : FuncId} {args : Array Value} {W : World} {v : Value} (x : TW W) (h : Calls P f args x.w fun e w' => e = .returned v ∧ Touch [] x.w w') :
    Calls P f args x.w fun e w' => e = .returned v ∧ ∃ y : TW W, w' = y.w :=
  h.mono fun _ w' ⟨he, ht⟩ => ⟨he, ⟨w', x.t.trans0 ht⟩, rfl⟩
theorem Calls.tw_same {P : Program} {f : FuncId} {args : Array Value} {W : World} {v : Value} (x : TW W) (h : Calls P f args x.w fun e w' => e = .returned v ∧ x.w = w') :
    Calls P f args x.w fun e w' => e = .returned v ∧ ∃ y : TW W, w' = y.w :=
  h.mono fun _ _ ⟨he, ht⟩ => ⟨he, x, ht.symm⟩
theorem wp_region_tw {P : Program} {id : Nat} {Q : Exit → Act → World → Prop} {a : Act} {w : World} {l : List Oper} (W : World) (hW : Touch [] W w) (hm : P.follows .mixedOrders = true) (hB : Region.lexB .any l.toArray = true)
    (h : wpQuiet P l.toArray (fun w' => ∃ x : TW W, w' = x.w) (fun a' => ∀ w', (∃ x : TW W, w' = x.w) → Q .normal a' w') l a) : (Code.region id l.toArray true).wp P Q a w :=
  wp_region_quiet (C := fun w' => ∃ x : TW W, w' = x.w) hm hB ⟨⟨_, hW.drew⟩, rfl⟩ (by simpa using h)
end Go.Proofs.Ytlkckkagoommaaa
