/- Part 1 of the texts of this proof, one behind the other; each begins with its own sentence. No condition beyond those that its theorems state. -/
import Derived.Test.YtlkckkagoommaaaChecked
import Derived.WalkKit
import Derived.WalkSpells
import Derived.WalkLawsBesides
import Derived.Lib.Hide
import Derived.Maps.AppendAt
import Derived.Deep.QuietTactic
import Derived.BigQuiet
import Derived.Laws.BytesArg
import Derived.Lib.LazyBuf
import Derived.Lib.SliceRun
import Derived.Lib.SlBytesConst
import Derived.Lib.ConvBytes
import Derived.IntWalk
/- Worlds, rows of bytes and what a call may touch: small facts that all walks of this seat share. No condition. -/
namespace Go.Proofs.Ytlkckkagoommaaa
open Go.RowKit

theorem ret_int {k : IntKind} {a b : Int} (h : a = b) : Ending.returned (.int k a) = .returned (.int k b) := by rw [h]
theorem ret_bool {a b : Bool} (h : a = b) : Ending.returned (.bool a) = .returned (.bool b) := by rw [h]
theorem ret_slice {A : Option Addr} {c n m : Nat} (h : n = m) : Ending.returned (.slice A n c) = .returned (.slice A m c) := by rw [h]
theorem ret_str {a b : ByteArray} (h : a = b) : Ending.returned (.string a) = .returned (.string b) := by rw [h]

/-- the walk stands still at a goal that is hidden; 'go' brings it back -/
theorem stop {p : Prop} (h : Hid p) : p := h
theorem go {p : Prop} (h : p) : Hid p := h

/-- which old blocks a call may have written: those on the list; all else that was there stands as it stood. -/
structure Touch (fp : List Nat) (w w' : World) : Prop where
  os : w'.os = w.os
  tape : w'.tape = w.tape
  output : w'.output = w.output
  size : w.heap.size ≤ w'.heap.size
  block : ∀ k, k < w.heap.size → k ∉ fp → w'.heap[k]? = w.heap[k]?

theorem Touch.refl (fp : List Nat) (w : World) : Touch fp w w := ⟨rfl, rfl, rfl, Nat.le_refl _, fun _ _ _ => rfl⟩
theorem Touch.trans {fp fp2 : List Nat} {w w1 w2 : World} (h : Touch fp w w1) (k : Touch fp2 w1 w2) (hs : ∀ b ∈ fp2, b ∈ fp ∨ w.heap.size ≤ b) : Touch fp w w2 :=
  ⟨k.os.trans h.os, k.tape.trans h.tape, k.output.trans h.output, Nat.le_trans h.size k.size, fun b hb hn =>
    (k.block b (Nat.lt_of_lt_of_le hb h.size) (fun hm => by rcases hs b hm with h1 | h1; exact hn h1; omega)).trans (h.block b hb hn)⟩
theorem Touch.trans0 {fp : List Nat} {w w1 w2 : World} (h : Touch fp w w1) (k : Touch [] w1 w2) : Touch fp w w2 := h.trans k (by simp)
theorem Touch.mono {fp fp2 : List Nat} {w w1 : World} (h : Touch fp w w1) (hs : ∀ b ∈ fp, b ∈ fp2 ∨ w.heap.size ≤ b) : Touch fp2 w w1 :=
  ⟨h.os, h.tape, h.output, h.size, fun b hb hn => h.block b hb (fun hm => by rcases hs b hm with h1 | h1; exact hn h1; omega)⟩
theorem Touch.alloc {fp : List Nat} {w w1 : World} (h : Touch fp w w1) (o : Obj) : Touch fp w (w1.alloc o) :=
  ⟨h.os, h.tape, h.output, Nat.le_trans h.size (by simp), fun b hb hn => (Below.heap_alloc w1 o b (Nat.lt_of_lt_of_le hb h.size)).trans (h.block b hb hn)⟩
theorem Touch.drewN {fp : List Nat} {w w1 : World} (h : Touch fp w w1) (n : Nat) : Touch fp w (w1.drewN n) := ⟨h.os, h.tape, h.output, h.size, h.block⟩
theorem Touch.drew {fp : List Nat} {w w1 : World} (h : Touch fp w w1) : Touch fp w w1.drew := ⟨h.os, h.tape, h.output, h.size, h.block⟩
theorem Touch.ofDrew {fp : List Nat} {w w1 : World} (h : Touch fp w.drew w1) : Touch fp w w1 := ⟨h.os, h.tape, h.output, h.size, h.block⟩
theorem Touch.ofDrewN {fp : List Nat} {w w1 : World} {n : Nat} (h : Touch fp (w.drewN n) w1) : Touch fp w w1 := ⟨h.os, h.tape, h.output, h.size, h.block⟩
theorem Touch.setCell {fp : List Nat} {w w1 : World} (h : Touch fp w w1) {p : Addr} (hp : p.block ∈ fp ∨ w.heap.size ≤ p.block) (u : Value) : Touch fp w (w1.setCell p u) :=
  ⟨h.os, h.tape, h.output, by simpa [World.setCell] using h.size, fun b hb hn => (Below.heap_setCell w1 p u b (by
    rintro rfl
    rcases hp with hp | hp
    · exact hn hp
    · omega)).trans (h.block b hb hn)⟩
theorem Touch.of_grown {w w' : World} {row : Option Nat} (h : w.grownBy w' row) : Touch row.toList w w' :=
  ⟨h.os, h.tape, h.output, h.size, fun k hk hn => h.block k hk (fun e => hn (by rw [← e]; simp))⟩
theorem Touch.of_below {w w' : World} (h : Below w.heap.size w w') (fp : List Nat) : Touch fp w w' := ⟨h.os, h.tape, h.output, h.size, fun k hk _ => h.block k hk⟩
theorem Touch.below {fp : List Nat} {w w' : World} (h : Touch fp w w') {n : Nat} (hn : n ≤ w.heap.size) (hf : ∀ b ∈ fp, n ≤ b) : Below n w w' :=
  ⟨h.os, h.tape, h.output, h.size, fun k hk => h.block k (Nat.lt_of_lt_of_le hk hn) (fun hm => by have := hf k hm; omega)⟩
theorem Touch.below0 {w w' : World} (h : Touch [] w w') : Below w.heap.size w w' := h.below (Nat.le_refl _) (by simp)
theorem Touch.cell {fp : List Nat} {w w' : World} (h : Touch fp w w') {a : Addr} {v : Value} (hc : w.cell? a = some v) (hn : a.block ∉ fp) : w'.cell? a = some v :=
  (World.cell?_of_block (h.block a.block (World.block_lt_of_cell? w a hc) hn)).trans hc
theorem Touch.blk {fp : List Nat} {w w' : World} (h : Touch fp w w') {g : Nat} {o : Obj} (hc : w.heap[g]? = some o) (hn : g ∉ fp) : w'.heap[g]? = some o :=
  (h.block g (by rcases Nat.lt_or_ge g w.heap.size with hl | hl; exact hl; rw [Array.getElem?_eq_none hl] at hc; cases hc) hn).trans hc

theorem block_of_add (a : Addr) (n : Nat) : (a.add n).block = a.block := by unfold Addr.add; split <;> rfl
theorem add_of_add (a : Addr) (i j : Nat) : (a.add i).add j = a.add (i + j) := by
  unfold Addr.add
  by_cases hi : i = 0 <;> by_cases hj : j = 0 <;> simp [hi, hj, Nat.add_assoc]

/-- the block of a slice's address -/
def fpo : Option Addr → List Nat
  | some a => [a.block]
  | none => []

/-- a slice's address leads to these cells (an empty one's to whatever) -/
def Rd (w : World) (A : Option Addr) (xs : List Value) : Prop := 0 < xs.length → ∃ ad, A = some ad ∧ ∀ j u, xs[j]? = some u → w.cell? (ad.add j) = some u

theorem Rd.touch {w w' : World} {A : Option Addr} {xs : List Value} {fp : List Nat} (h : Rd w A xs) (ht : Touch fp w w') (hn : ∀ b ∈ fpo A, b ∉ fp) : Rd w' A xs := by
  intro h0
  obtain ⟨ad, rfl, hc⟩ := h h0
  exact ⟨ad, rfl, fun j u hu => ht.cell (hc j u hu) (by rw [block_of_add]; exact hn _ (by simp [fpo]))⟩
theorem Rd.touch0 {w w' : World} {A : Option Addr} {xs : List Value} (h : Rd w A xs) (ht : Touch [] w w') : Rd w' A xs := h.touch ht (by simp)
theorem Rd.nil (w : World) (A : Option Addr) : Rd w A [] := fun h => absurd h (by simp)
theorem Rd.lt {w : World} {A : Option Addr} {xs : List Value} (h : Rd w A xs) (h0 : 0 < xs.length) : ∀ b ∈ fpo A, b < w.heap.size := by
  obtain ⟨ad, rfl, hc⟩ := h h0
  intro b hb
  have : b = ad.block := by simpa [fpo] using hb
  subst this
  have := World.block_lt_of_cell? w _ (hc 0 xs[0] (List.getElem?_eq_getElem h0))
  rwa [block_of_add] at this
theorem Rd.cut {w : World} {A : Option Addr} {xs : List Value} (h : Rd w A xs) {A' : Option Addr} {k n : Nat} (hA : ∀ ad, A = some ad → k < xs.length → A' = some (ad.add k)) : Rd w A' ((xs.drop k).take n) := by
  intro h0
  have hk : k < xs.length := by simp at h0; omega
  obtain ⟨ad, rfl, hc⟩ := h (by omega)
  refine ⟨ad.add k, hA ad rfl hk, fun j u hu => ?_⟩
  rw [add_of_add]
  refine hc _ u ?_
  rw [List.getElem?_take] at hu
  split at hu
  · rwa [List.getElem?_drop] at hu
  · cases hu

/-- bytes as the memory holds them -/
def B (b : UInt8) : Value := .int .u8 b.toNat
theorem oneCell_B (l : List UInt8) : ∀ u ∈ l.map B, u.oneCell' = true := by
  intro u hu
  obtain ⟨b, _, rfl⟩ := List.mem_map.1 hu
  rfl
def RdB (w : World) (A : Option Addr) (l : List UInt8) : Prop := Rd w A (l.map B)
theorem RdB.at_ {w : World} {A : Option Addr} {l : List UInt8} (h : RdB w A l) (k : Nat) (hk : k < l.length) : ∃ ad, A = some ad ∧ w.cell? (ad.add k) = some (.int .u8 l[k].toNat) := by
  obtain ⟨ad, e, hc⟩ := h (by simpa using Nat.lt_of_le_of_lt (Nat.zero_le _) hk)
  exact ⟨ad, e, hc k _ (by simp [hk, B])⟩

/-- a slice that the calls own: it holds these bytes and nobody shares its row -/
def OwnB (w : World) (A : Option Addr) (c : Nat) (l : List UInt8) : Prop := w.ownsRow 0 5 1 (.slice A l.length c) l.length (l.map B)
theorem OwnB.rd {w : World} {A : Option Addr} {c : Nat} {l : List UInt8} (h : OwnB w A c l) : RdB w A l := by
  intro h0
  rcases h.2 with hv | ⟨g, cap, cur, hv, _⟩
  · simp at h0; omega
  · have hA : A = some ⟨g, 0, none⟩ := by injection hv
    subst hA
    exact ⟨_, rfl, World.ownsRow.cells h (g := g) rfl⟩
theorem OwnB.le {w : World} {A : Option Addr} {c : Nat} {l : List UInt8} (h : OwnB w A c l) : l.length ≤ c := by
  obtain ⟨_, ⟨hv, hn⟩ | ⟨g, cap, cur, hv, _, _, hnc, _⟩⟩ := h
  · omega
  · injection hv with _ _ h3; omega
theorem OwnB.cap {w : World} {A : Option Addr} {c : Nat} {l : List UInt8} (h : OwnB w A c l) : c ≤ 9223372036854775807 := by
  obtain ⟨_, ⟨hv, hn⟩ | ⟨g, cap, cur, hv, _, _, _, hm, _⟩⟩ := h
  · injection hv with _ _ h3; omega
  · injection hv with _ _ h3; unfold maxLen at hm; omega
theorem OwnB.nil (w : World) : OwnB w none 0 [] := World.ownsRow_nil _ _ _ _
theorem OwnB.touch {w w' : World} {A : Option Addr} {c : Nat} {l : List UInt8} {fp : List Nat} (h : OwnB w A c l) (ht : Touch fp w w') (hn : ∀ b ∈ fpo A, b ∉ fp) : OwnB w' A c l := by
  refine ⟨h.1, ?_⟩
  rcases h.2 with hv | ⟨g, cap, cur, hv, hb, hg, rest⟩
  · exact .inl hv
  · have hA : A = some ⟨g, 0, none⟩ := by injection hv
    subst hA
    exact .inr ⟨g, cap, cur, hv, hb, ht.blk hg (hn g (by simp [fpo])), rest⟩
theorem OwnB.touch0 {w w' : World} {A : Option Addr} {c : Nat} {l : List UInt8} (h : OwnB w A c l) (ht : Touch [] w w') : OwnB w' A c l := h.touch ht (by simp)
theorem OwnB.lt {w : World} {A : Option Addr} {c : Nat} {l : List UInt8} (h : OwnB w A c l) : ∀ b ∈ fpo A, b < w.heap.size := by
  intro b hb
  rcases h.2 with ⟨hv, _⟩ | ⟨g, cap, cur, hv, _, hg, _⟩
  · injection hv with hA _ _; subst hA; cases hb
  · have hA : A = some ⟨g, 0, none⟩ := by injection hv
    subst hA
    have : b = g := by simpa [fpo] using hb
    subst this
    exact (Array.getElem?_eq_some_iff.1 hg).1
theorem OwnB.head {w : World} {A : Option Addr} {c : Nat} {l : List UInt8} (h : OwnB w A c l) : A = none ∧ l = [] ∧ c = 0 ∨ ∃ g, A = some ⟨g, 0, none⟩ := by
  rcases h.2 with ⟨hv, h0⟩ | ⟨g, cap, cur, hv, _⟩
  · injection hv with hA _ hc; exact .inl ⟨hA, List.eq_nil_of_length_eq_zero h0, hc⟩
  · injection hv with hA _ _; exact .inr ⟨g, hA⟩
theorem OwnB.empty_new (w : World) : OwnB (w.alloc (.cells #[] 5)) (some ⟨w.heap.size, 0, none⟩) 0 [] :=
  ⟨rfl, .inr ⟨w.heap.size, 0, #[], rfl, Nat.zero_le _, heap_alloc_new w _, Nat.le_refl _, Nat.zero_le _, rfl, rfl⟩⟩
/-- a block just made, all of whose cells are these -/
theorem OwnB.new (w : World) (l : List UInt8) (hl : l.length ≤ maxLen) : OwnB (w.alloc (.cells (l.map B).toArray 5)) (some ⟨w.heap.size, 0, none⟩) l.length l :=
  ⟨by simp, .inr ⟨w.heap.size, l.length, (l.map B).toArray, rfl, Nat.zero_le _, heap_alloc_new w _, Nat.le_refl _, hl, by simp, by simp [List.take_of_length_le]⟩⟩

section
variable {P : Program} (w : World)
theorem run_append_of_nil (base : Nat) (t ty e : TypeId) (i : TypeInfo) (size : Nat) (ht : P.underlying t = some (.slice e)) (hi : P.info? e = some i)
    (v : Value) (n : Nat) (xs : List Value) (hown : w.ownsRow base e size v n xs) (c : Nat) : (Builtin.append_ #[t, t] ty #[v, .slice none 0 c]).run P w = .ok v w := by
  rcases hown.2 with ⟨rfl, rfl⟩ | ⟨g, cap, cur, rfl, _, _, hnc, _⟩
  · simp [Builtin.append_, run_underlying ht, sizeOf, typeInfo, hi, Builtin.lenOf, Builtin.firstCells]
  · simp [Builtin.append_, run_underlying ht, sizeOf, typeInfo, hi, Builtin.lenOf, Builtin.firstCells, hnc, storeCells]

theorem run_app (t ty e : TypeId) (i : TypeInfo) (z : Value) (size bytes : Nat) (ht : P.underlying t = some (.slice e)) (hi : P.info? e = some i) (hz : i.zero = some z)
    (hsize : i.size = size) (hby : i.bytes = bytes) (hzs : z.cells.size = size) (hsz : 0 < size)
    (A0 : Option Addr) (n c0 : Nat) (xs : List Value) (hown : w.ownsRow 0 e size (.slice A0 n c0) n xs)
    (A : Option Addr) (m c : Nat) (news : List Value) (hl : news.length = m * size) (hr : Rd w A news) (h1 : ∀ u ∈ news, u.oneCell' = true)
    (h63 : n + m ≤ maxLen) (hbytes : (n + m) * bytes ≤ 140737488355328) :
    ∃ A' c' w', (Builtin.append_ #[t, t] ty #[.slice A0 n c0, .slice A m c]).run P w = .ok (.slice A' (n + m) c') w' ∧ w'.ownsRow 0 e size (.slice A' (n + m) c') (n + m) (xs ++ news) ∧ Touch (fpo A0) w w' ∧
      (∀ b ∈ fpo A', b ∈ fpo A0 ∨ b = w.heap.size) := by
  have hfp : ∀ v : Value, ∀ A1 n1 c1, v = .slice A1 n1 c1 → v.ownBlock.toList = fpo A1 := by
    rintro v A1 n1 c1 rfl
    cases A1 <;> rfl
  rcases A with _ | ad
  · have hm : m = 0 := by
      rcases Nat.eq_zero_or_pos m with h0 | h0
      · exact h0
      · obtain ⟨ad, h, _⟩ := hr (by rw [hl]; exact Nat.mul_pos h0 hsz)
        cases h
    subst hm
    have hn : news = [] := List.eq_nil_of_length_eq_zero (by simpa using hl)
    subst hn
    exact ⟨A0, c0, w, run_append_of_nil w 0 t ty e i size ht hi _ n xs hown c, by simpa using hown, Touch.refl _ _, fun b hb => .inl hb⟩
  · have hcells : ∀ j u, news[j]? = some u → w.cell? (ad.add j) = some u := by
      intro j u hu
      obtain ⟨ad', h, hc⟩ := hr (Nat.lt_of_le_of_lt (Nat.zero_le _) (List.getElem?_eq_some_iff.1 hu).1)
      injection h with h
      subst h
      exact hc j u hu
    obtain ⟨v', w', hrun, h2, h3, h4, h5⟩ := run_append_own_at (P := P) w 0 t ty e i z size bytes ht hi hz hsize hby hzs hsz _ n xs hown ad m c news hl hcells h1 h63 hbytes (Nat.zero_le _)
    have ht' : Touch (fpo A0) w w' := by
      have := Touch.of_grown h3
      rwa [hfp _ _ _ _ rfl] at this
    have hv : ∃ A' c', v' = .slice A' (n + m) c' := by
      rcases h2.2 with ⟨e1, e2⟩ | ⟨g, cap, cur, e1, _⟩
      · exact ⟨none, 0, by rw [e1, e2]⟩
      · exact ⟨_, _, e1⟩
    obtain ⟨A', c', rfl⟩ := hv
    refine ⟨A', c', w', hrun, h2, ht', fun b hb => ?_⟩
    have hb' : b ∈ (Value.slice A' (n + m) c').ownBlock.toList := by rw [hfp _ _ _ _ rfl]; exact hb
    rcases h5 with e5 | e5
    · left; rw [e5, hfp _ _ _ _ rfl] at hb'; exact hb'
    · right; rw [e5] at hb'; simpa using hb'

theorem wp_app {o : Oper} {a : Act} {K : Act → World → Prop} {Q : Exit → Act → World → Prop} (s x : Operand) (t : TypeId)
    (ho : o.op = .call { callee := .builtin .append, args := #[s, x], argTypes := #[t, t] })
    (e : TypeId) (i : TypeInfo) (z : Value) (size bytes : Nat) (ht : P.underlying t = some (.slice e)) (hi : P.info? e = some i) (hz : i.zero = some z)
    (hsize : i.size = size) (hby : i.bytes = bytes) (hzs : z.cells.size = size) (hsz : 0 < size)
    (A0 : Option Addr) (n c0 : Nat) (xs : List Value) (hs : a.eval s = .slice A0 n c0) (hown : w.ownsRow 0 e size (.slice A0 n c0) n xs)
    (A : Option Addr) (m c : Nat) (news : List Value) (hx : a.eval x = .slice A m c) (hl : news.length = m * size) (hr : Rd w A news) (h1 : ∀ u ∈ news, u.oneCell' = true)
    (h63 : n + m ≤ maxLen) (hbytes : (n + m) * bytes ≤ 140737488355328)
    (h : ∀ A' c' w', w'.ownsRow 0 e size (.slice A' (n + m) c') (n + m) (xs ++ news) → Touch (fpo A0) w w' → (∀ b ∈ fpo A', b ∈ fpo A0 ∨ b = w.heap.size) → K (a.put o.dst (.slice A' (n + m) c')) w') : o.wp P a w K Q := by
  obtain ⟨A', c', w', hrun, h2, h3, h4⟩ := run_app (P := P) w t o.type e i z size bytes ht hi hz hsize hby hzs hsz A0 n c0 xs hown A m c news hl hr h1 h63 hbytes
  unfold Oper.wp execOp
  simp only [ho, resolve, invoke, builtin, Sem.run_bind, Sem.run_pure, Result.andThen_ok, List.map_toArray, List.map_cons, List.map_nil, hs, hx, hrun]
  exact h A' c' w' h2 h3 h4

theorem wpList_app {ops : Array Oper} {rest : List Oper} {o : Oper} {a : Act} {Q : Exit → Act → World → Prop} (hgd : o.guard = none) (s x : Operand) (t : TypeId)
    (ho : o.op = .call { callee := .builtin .append, args := #[s, x], argTypes := #[t, t] })
    (e : TypeId) (i : TypeInfo) (z : Value) (size bytes : Nat) (ht : P.underlying t = some (.slice e)) (hi : P.info? e = some i) (hz : i.zero = some z)
    (hsize : i.size = size) (hby : i.bytes = bytes) (hzs : z.cells.size = size) (hsz : 0 < size)
    (A0 : Option Addr) (n c0 : Nat) (xs : List Value) (hs : a.eval s = .slice A0 n c0) (hown : w.ownsRow 0 e size (.slice A0 n c0) n xs)
    (A : Option Addr) (m c : Nat) (news : List Value) (hx : a.eval x = .slice A m c) (hl : news.length = m * size) (hr : Rd w A news) (h1 : ∀ u ∈ news, u.oneCell' = true)
    (h63 : n + m ≤ maxLen) (hbytes : (n + m) * bytes ≤ 140737488355328)
    (h : ∀ A' c' w', w'.ownsRow 0 e size (.slice A' (n + m) c') (n + m) (xs ++ news) → Touch (fpo A0) w w' → (∀ b ∈ fpo A', b ∈ fpo A0 ∨ b = w.heap.size) → wpList P ops Q rest (a.put o.dst (.slice A' (n + m) c')) w') :
    wpList P ops Q (o :: rest) a w :=
  wpList_plain hgd fun _ hK => wp_app w s x t ho e i z size bytes ht hi hz hsize hby hzs hsz A0 n c0 xs hs hown A m c news hx hl hr h1 h63 hbytes fun A' c' w' h2 h3 h4 => hK _ _ (h A' c' w' h2 h3 h4)

/-- the same as one step of a region that draws its order -/
theorem step_app {ops : Array Oper} {o : Oper} {a : Act} {K : Act → World → Prop} {Q : Exit → Act → World → Prop} {E : Prop} (hgd : o.guard = none) (s x : Operand) (t : TypeId)
    (ho : o.op = .call { callee := .builtin .append, args := #[s, x], argTypes := #[t, t] })
    (e : TypeId) (i : TypeInfo) (z : Value) (size bytes : Nat) (ht : P.underlying t = some (.slice e)) (hi : P.info? e = some i) (hz : i.zero = some z)
    (hsize : i.size = size) (hby : i.bytes = bytes) (hzs : z.cells.size = size) (hsz : 0 < size)
    (A0 : Option Addr) (n c0 : Nat) (xs : List Value) (hs : a.eval s = .slice A0 n c0) (hown : w.ownsRow 0 e size (.slice A0 n c0) n xs)
    (A : Option Addr) (m c : Nat) (news : List Value) (hx : a.eval x = .slice A m c) (hl : news.length = m * size) (hr : Rd w A news) (h1 : ∀ u ∈ news, u.oneCell' = true)
    (h63 : n + m ≤ maxLen) (hbytes : (n + m) * bytes ≤ 140737488355328)
    (h : ∀ A' c' w', w'.ownsRow 0 e size (.slice A' (n + m) c') (n + m) (xs ++ news) → Touch (fpo A0) w w' → (∀ b ∈ fpo A', b ∈ fpo A0 ∨ b = w.heap.size) → K (a.put o.dst (.slice A' (n + m) c')) w') :
    if Region.wanted o (yielded ops a.tmps) = true then Oper.wp P o a w K Q else E := by
  have hw : Region.wanted o (yielded ops a.tmps) = true := by simp [Region.wanted, hgd]
  rw [if_pos hw]
  exact wp_app w s x t ho e i z size bytes ht hi hz hsize hby hzs hsz A0 n c0 xs hs hown A m c news hx hl hr h1 h63 hbytes h
end

theorem info_u8 : (Try.prog.info? 5).map (fun i => (i.zero, i.size, i.bytes)) = some (some (.int .u8 0), 1, 1) := by kernel_rfl

/-- append onto bytes that the calls own -/
theorem wpList_appB {w : World} {ops : Array Oper} {rest : List Oper} {o : Oper} {a : Act} {Q : Exit → Act → World → Prop} (hgd : o.guard = none) (s x : Operand)
    (ho : o.op = .call { callee := .builtin .append, args := #[s, x], argTypes := #[108, 108] })
    (A0 : Option Addr) (n c0 : Nat) (l : List UInt8) (hn : l.length = n) (hs : a.eval s = .slice A0 n c0) (hown : OwnB w A0 c0 l)
    (A : Option Addr) (k c : Nat) (m : List UInt8) (hk : m.length = k) (hx : a.eval x = .slice A k c) (hr : RdB w A m) (hbytes : n + k ≤ 140737488355328)
    (h : ∀ A' c' w', OwnB w' A' c' (l ++ m) → Touch (fpo A0) w w' → (∀ b ∈ fpo A', b ∈ fpo A0 ∨ b = w.heap.size) → wpList Try.prog ops Q rest (a.put o.dst (.slice A' (n + k) c')) w') :
    wpList Try.prog ops Q (o :: rest) a w := by
  obtain ⟨i0, hi0, hz0, hz1, hz2⟩ := info_parts info_u8
  subst hn hk
  refine wpList_app w hgd s x _ ho 5 i0 _ 1 1 Try.underlying108 hi0 hz0 hz1 hz2 rfl (by omega) A0 l.length c0 _ hs hown A m.length c _ hx (by simp) hr (oneCell_B _) (by simp only [maxLen]; omega) (by omega) ?_
  intro A' c' w' h2 h3 h4
  exact h A' c' w' (by unfold OwnB; rw [List.map_append, List.length_append]; exact h2) h3 h4

theorem step_appB {w : World} {ops : Array Oper} {o : Oper} {a : Act} {K : Act → World → Prop} {Q : Exit → Act → World → Prop} {E : Prop} (hgd : o.guard = none) (s x : Operand)
    (ho : o.op = .call { callee := .builtin .append, args := #[s, x], argTypes := #[108, 108] })
    (A0 : Option Addr) (n c0 : Nat) (l : List UInt8) (hn : l.length = n) (hs : a.eval s = .slice A0 n c0) (hown : OwnB w A0 c0 l)
    (A : Option Addr) (k c : Nat) (m : List UInt8) (hk : m.length = k) (hx : a.eval x = .slice A k c) (hr : RdB w A m) (hbytes : n + k ≤ 140737488355328)
    (h : ∀ A' c' w', OwnB w' A' c' (l ++ m) → Touch (fpo A0) w w' → (∀ b ∈ fpo A', b ∈ fpo A0 ∨ b = w.heap.size) → K (a.put o.dst (.slice A' (n + k) c')) w') :
    if Region.wanted o (yielded ops a.tmps) = true then Oper.wp Try.prog o a w K Q else E := by
  obtain ⟨i0, hi0, hz0, hz1, hz2⟩ := info_parts info_u8
  subst hn hk
  refine step_app w hgd s x _ ho 5 i0 _ 1 1 Try.underlying108 hi0 hz0 hz1 hz2 rfl (by omega) A0 l.length c0 _ hs hown A m.length c _ hx (by simp) hr (oneCell_B _) (by simp only [maxLen]; omega) (by omega) ?_
  intro A' c' w' h2 h3 h4
  exact h A' c' w' (by unfold OwnB; rw [List.map_append, List.length_append]; exact h2) h3 h4

/-- one byte in a block of its own -/
theorem RdB.one (w : World) (x : UInt8) : RdB (w.alloc (.cells #[B x] 5)) (some ⟨w.heap.size, 0, none⟩) [x] :=
  (OwnB.new w [x] (by simp [maxLen])).rd
theorem RdB.one' (w : World) (x : UInt8) {z : Int} (h : z = x.toNat) : RdB (w.alloc (.cells #[.int .u8 z] 5)) (some ⟨w.heap.size, 0, none⟩) [x] := by
  subst h; exact RdB.one w x

/-- a block just made, whatever of it is marked -/
theorem RdB.newf (w : World) (l : List UInt8) (fr : Nat × Nat) : RdB (w.alloc (.cells (l.map B).toArray 5 fr)) (some ⟨w.heap.size, 0, none⟩) l := fun _ =>
  ⟨_, rfl, fun j u hu => by
    have hadd : (⟨w.heap.size, 0, none⟩ : Addr).add j = ⟨w.heap.size, j, none⟩ := by unfold Addr.add; split <;> simp_all
    rw [hadd, cell_of_row _ w.heap.size j (l.map B).toArray 5 fr (heap_alloc_new w _)]
    simpa using hu⟩

theorem RdB.new' (w : World) (l : List UInt8) (fr : Nat × Nat) (cs : Array Value) (h : cs = (l.map B).toArray) : RdB (w.alloc (.cells cs 5 fr)) (some ⟨w.heap.size, 0, none⟩) l := by
  subst h; exact RdB.newf w l fr

/-- a text of these bytes -/
def S (l : List UInt8) : ByteArray := ⟨l.toArray⟩
theorem run_str_of {w : World} {A : Option Addr} {n : Nat} (c : Nat) {l : List UInt8} (hn : l.length = n) (hr : RdB w A l) : (convert 108 9 (.slice A n c)).run Try.prog w = .ok (.string (S l)) w := by
  subst hn
  rcases Nat.eq_zero_or_pos l.length with h0 | h0
  · obtain rfl := List.eq_nil_of_length_eq_zero h0
    cases A with
    | none => exact run_convert_bytes_nil (P := Try.prog) w 108 5 Try.underlying108 Try.underlying5 _ _ _ Try.underlying9
    | some ad =>
      have hl : (loadCells ad 0).run Try.prog w = .ok (([] : List Int).map (Value.int .u8)).toArray w := run_loadCells_list (P := Try.prog) w ad [] (by simp)
      rw [run_convert_bytes_string w _ _ _ _ _ c Try.underlying108 Try.underlying5 Try.underlying9]
      exact run_bytesToString w ad 0 c [] hl
  · obtain ⟨ad, rfl, hc⟩ := hr (by simpa using h0)
    have hl : (loadCells ad l.length).run Try.prog w = .ok ((l.map (fun b => (b.toNat : Int))).map (Value.int .u8)).toArray w := by
      have := run_loadCells_list (P := Try.prog) w ad (l.map B) hc
      rw [List.length_map] at this
      rw [this, List.map_map]; rfl
    rw [run_convert_bytes_string w _ _ _ _ _ c Try.underlying108 Try.underlying5 Try.underlying9, run_bytesToString w ad _ c _ hl, foldl_push_bytes]
    simp [S, ByteArray.empty, ByteArray.emptyWithCapacity, Function.comp_def]
    rfl

theorem madeCells_one (v : Value) (n : Nat) : madeCells #[v] n = (List.replicate n v).toArray := by
  apply Array.ext
  · simp [madeCells]
  · intro i h1 h2
    simp [madeCells, Nat.mod_one]
/-- make([]byte, n) -/
theorem run_makeB (n : Nat) (hn : n ≤ 281474976710656) (w : World) : (Instr.makeSlice 108 (.int .i64 (n : Int)) (.int .i64 (n : Int))).run Try.prog w =
    .ok (.slice (some ⟨w.heap.size, 0, none⟩) n n) (w.alloc (.cells ((List.replicate n (0 : UInt8)).map B).toArray 5)) := by
  obtain ⟨i0, hi0, hz0, hz1, hz2⟩ := info_parts info_u8
  have h := run_make (P := Try.prog) w 108 5 i0 _ Try.underlying108 hi0 hz0 .i64 .i64 (n : Int) (n : Int) (by omega) (by omega) (by rw [hz2]; omega) (by omega)
  rw [Int.toNat_natCast, hz1, Nat.mul_one] at h
  rw [h, List.map_replicate, ← madeCells_one]
  rfl

end Go.Proofs.Ytlkckkagoommaaa

/- Texts, bytes of texts, values: what all layers above the bytes share; value.plain, value.Value.Right. -/
namespace Go.Proofs.Ytlkckkagoommaaa
open Go.RowKit

theorem S_inj {a b : List UInt8} (h : S a = S b) : a = b := by
  have := congrArg (fun x : ByteArray => x.data.toList) h
  simpa [S] using this
theorem S_eq (a b : List UInt8) : (S a = S b) = (a = b) := propext ⟨S_inj, fun h => by rw [h]⟩

theorem S_list (a : List UInt8) : (S a).toList = a := by rw [ByteArray.toList_eq]; simp [S]
theorem S_beq (a b : List UInt8) : ((S a).toList == (S b).toList) = decide (a = b) := by
  rw [S_list, S_list, Bool.eq_iff_iff]; simp
theorem S_bne (a b : List UInt8) : (!(S a).toList == (S b).toList) = !decide (a = b) := by
  rw [S_beq]

theorem S_size (s : List UInt8) : (S s).size = s.length := by simp [S, ByteArray.size]
theorem S_toList (s : List UInt8) : (S s).data.toList = s := by simp [S]
/-- []byte(s) -/
theorem run_bytes_of (s : List UInt8) (W : World) : (convert 9 108 (.string (S s))).run Try.prog W = .ok (.slice (some ⟨W.heap.size, 0, none⟩) s.length (grownCap W s.length 0 5)) (Lib.bytesWorld W 5 (S s)) := by
  have := Lib.run_convert_string_bytes (P := Try.prog) W 9 108 5 (S s) Try.underlying9 Try.underlying108 Try.underlying5
  rw [S_size] at this
  exact this
theorem touch_bytes (W : World) (s : List UInt8) : Touch [] W (Lib.bytesWorld W 5 (S s)) :=
  ⟨rfl, rfl, rfl, by rw [Lib.bytesWorld_size]; omega, fun k hk _ => Lib.bytesWorld_at_old W _ _ k hk⟩
theorem rd_bytes (W : World) (s : List UInt8) : RdB (Lib.bytesWorld W 5 (S s)) (some ⟨W.heap.size, 0, none⟩) s := fun _ =>
  ⟨_, rfl, fun j u hu => by
    have hadd : (⟨W.heap.size, 0, none⟩ : Addr).add j = ⟨W.heap.size, j, none⟩ := by unfold Addr.add; split <;> simp_all
    have hj : j < s.length := by have := (List.getElem?_eq_some_iff.1 hu).1; simpa using this
    rw [hadd, Lib.bytesWorld_cell _ _ _ j (by rw [S_size]; exact hj), S_toList]
    simp only [List.getElem?_map, List.getElem?_eq_getElem hj, Option.map_some, Option.some.injEq] at hu
    rw [← hu]
    simp [List.getD, hj, B]⟩

theorem size_toList (s : ByteArray) : s.data.toList.length = s.size := by rw [Array.length_toList]; rfl
/-- a value: its kind, its number, its text -/
structure VD where
  kind : Int
  num : Int
  text : ByteArray
/-- as the program lays it -/
def VD.val (v : VD) : Value := .agg #[.int .i64 v.kind, .int .i64 v.num, .string v.text]
/-- numbers within bounds, the text short -/
structure VD.Ok (v : VD) (m : Nat) : Prop where
  k : -9223372036854775808 ≤ v.kind ∧ v.kind ≤ 9223372036854775807
  n : -9223372036854775808 ≤ v.num ∧ v.num ≤ 9223372036854775807
  t : v.text.size ≤ m
theorem cell_blk {w : World} {g i : Nat} {cs : Array Value} {t : TypeId} {v : Value} (h : w.heap[g]? = some (.cells cs t (0, 0))) (hv : cs[i]? = some v) : w.cell? ⟨g, i, none⟩ = some v := by
  rw [cell_of_row w g i cs t (0, 0) h]; exact hv

theorem set_blk {w : World} {g : Nat} {cs : Array Value} {t : TypeId} (h : w.heap[g]? = some (.cells cs t (0, 0))) (i : Nat) (u : Value) :
    (w.setCell ⟨g, i, none⟩ u).heap[g]? = some (.cells (cs.setIfInBounds i u) t (0, 0)) := by
  simp [World.setCell, Array.getElem?_modify, h]

theorem S_of (s : ByteArray) : S s.data.toList = s := by cases s; simp [S]
theorem toList_B (x : ByteArray) : x.toList = x.data.toList := ByteArray.toList_eq x
theorem bs_eq {x y : ByteArray} (h : x.data.toList = y.data.toList) : x = y := by rw [← S_of x, ← S_of y, h]
theorem bs_beq (x y : ByteArray) : (x.toList == y.toList) = decide (x = y) := by
  rw [toList_B, toList_B, Bool.eq_iff_iff]
  simp only [beq_iff_eq, decide_eq_true_eq]
  exact ⟨bs_eq, fun h => by rw [h]⟩

/-- may a byte stand in a table's text? -/
def okB (c : UInt8) : Bool := decide (32 ≤ c.toNat) && decide (c.toNat ≤ 126)
/-- a text that may stand in a table -/
def plainV (t : List UInt8) : Bool := t.all okB && decide (t.length ≤ 64)

set_option maxRecDepth 20000 in
set_option maxHeartbeats 800000 in
theorem plain_any (t : List UInt8) (hs : t.length ≤ 140737000000000) (w : World) :
    Calls Try.prog 39 #[.string (S t)] w fun e w' => e = .returned (.bool (plainV t)) ∧ Touch [] w w' := by
  go_enter Try.func39, Try.ntmps39
  have hconv := run_bytes_of t w
  have hsz := S_size t
  have hr := rd_bytes w t
  have ht := touch_bytes w t
  obtain ⟨W, hW⟩ : ∃ W, W = Lib.bytesWorld w 5 (S t) := ⟨_, rfl⟩
  rw [← hW] at hconv hr ht
  clear hW
  go_wp2_with fail
  clear hconv
  go_loop [8] (fun i => ∃ k : Nat, k ≤ t.length ∧ i = .int .i64 k ∧ Hid ((t.take k).all okB = true)) (fun i => t.length - (intOf i).toNat)
  case atStart => exact ⟨0, by omega, rfl, Lib.hid rfl⟩
  case round =>
    obtain ⟨k, hk, rfl, hall⟩ := hrel
    by_cases hlt : k < t.length
    · obtain ⟨ad, e1, hcell⟩ := hr.at_ k hlt
      obtain rfl : ⟨w.heap.size, 0, none⟩ = ad := by injection e1
      obtain ⟨x, hx⟩ : ∃ x, x = t[k] := ⟨_, rfl⟩
      have hadd : (⟨w.heap.size, 0, none⟩ : Addr).add k = ⟨w.heap.size, k, none⟩ := by unfold Addr.add; split <;> simp_all
      rw [← hx, hadd] at hcell
      have hxl := x.toNat_lt
      have hbad : okB x = false → plainV t = false := fun h => by
        unfold plainV
        have : t.all okB = false := by
          rw [List.all_eq_false]
          exact ⟨t[k], List.getElem_mem hlt, by rw [← hx, h]; simp⟩
        rw [this]; rfl
      have hgood : okB x = true → (t.take (k + 1)).all okB = true := fun h => by
        rw [List.take_succ_eq_append_getElem hlt, List.all_append, hall.out, ← hx]
        simp [h]
      have Hb := Lib.hid hbad
      have Hg := Lib.hid hgood
      clear hbad hgood hx hall e1 hadd
      by_cases h1 : x.toNat < 32
      · have hz : ((x.toNat : Int) < 32) = True := eq_true (by omega)
        go_wp2
        go_ret
        exact ⟨by rw [Hb.out (by simp [okB]; omega)]; rfl, ht⟩
      have hz : ((x.toNat : Int) < 32) = False := eq_false (by omega)
      by_cases h2 : 126 < x.toNat
      · have hy : (126 < (x.toNat : Int)) = True := eq_true (by omega)
        go_wp2
        go_ret
        exact ⟨by rw [Hb.out (by simp [okB]; omega)]; rfl, ht⟩
      · have hy : (126 < (x.toNat : Int)) = False := eq_false (by omega)
        go_wp2
        go_round
        case rel => exact ⟨k + 1, by omega, by go_num, Lib.hid (Hg.out (by simp [okB]; omega))⟩
        case measure => simp [intOf]; omega
    · obtain rfl : k = t.length := by omega
      have hfin : plainV t = decide ((t.length : Int) ≤ 64) := by
        have h := hall.out
        rw [List.take_length] at h
        unfold plainV
        rw [h, Bool.true_and]
        exact decide_eq_decide.2 (by omega)
      have Hf := Lib.hid hfin
      clear hfin hall
      go_wp2
      go_ret
      exact ⟨by rw [Hf.out]; rfl, ht⟩
/-- is a value right? -/
def VD.right (v : VD) : Bool :=
  if v.kind = 0 then decide (v.num = 0) && v.text.toList.isEmpty else if v.kind = 1 then v.text.toList.isEmpty else if v.kind = 2 then decide (v.num = 0) && plainV v.text.data.toList else false

set_option maxRecDepth 20000 in
set_option maxHeartbeats 800000 in
theorem right_any (v : VD) (hs : v.text.size ≤ 140737000000000) (w : World) :
    Calls Try.prog 16 #[v.val] w fun e w' => e = .returned (.bool v.right) ∧ Touch [] w w' := by
  obtain ⟨k, n, s⟩ := v
  dsimp only [VD.val] at *
  go_enter Try.func16, Try.ntmps16
  have t0 := (Touch.refl [] w).alloc (.cells #[.int .i64 k, .int .i64 n, .string s] 30)
  have hp := plain_any s.data.toList (by rw [size_toList]; exact hs) (w.alloc (.cells #[.int .i64 2, .int .i64 0, .string s] 30))
  rw [S_of] at hp
  have Hp := Lib.hid hp
  clear hp
  by_cases h0 : k = 0
  · subst h0
    by_cases hn : n = 0
    · subst hn
      go_wp2_with fail
      go_ret
      exact ⟨rfl, t0⟩
    · have hne : (n == 0) = false := by simpa using hn
      have hr : VD.right ⟨0, n, s⟩ = false := by simp [VD.right, hn]
      have Hr := Lib.hid hr
      clear hr
      go_wp2_with fail
      go_ret
      exact ⟨by rw [Hr.out]; rfl, t0⟩
  by_cases h1 : k = 1
  · subst h1
    go_wp2_with fail
    go_ret
    exact ⟨rfl, t0⟩
  by_cases h2 : k = 2
  · subst h2
    by_cases hn : n = 0
    · subst hn
      go_wp2_with fail
      refine Hp.out.mono ?_
      rintro e w1 ⟨rfl, t1⟩
      go_wp2_with fail
      go_ret
      exact ⟨rfl, t0.trans0 t1⟩
    · have hne : (n == 0) = false := by simpa using hn
      have hr : VD.right ⟨2, n, s⟩ = false := by simp [VD.right, hn]
      have Hr := Lib.hid hr
      clear hr
      go_wp2_with fail
      go_ret
      exact ⟨by rw [Hr.out]; rfl, t0⟩
  · have hr : VD.right ⟨k, n, s⟩ = false := by simp [VD.right, h0, h1, h2]
    have Hr := Lib.hid hr
    clear hr
    go_wp2_with fail
    go_ret
    exact ⟨by rw [Hr.out]; rfl, t0⟩
end Go.Proofs.Ytlkckkagoommaaa

/- Rows of structs: what a slice of structs leads to; such a slice of the calls' own. No condition. -/
namespace Go.Proofs.Ytlkckkagoommaaa
open Go.RowKit

theorem flat_length {α β : Type} (enc : α → List β) (k : Nat) (hk : ∀ x, (enc x).length = k) (xs : List α) : (xs.flatMap enc).length = xs.length * k := by
  induction xs with
  | nil => simp
  | cons x xs ih => rw [List.flatMap_cons, List.length_append, hk, ih, List.length_cons, Nat.add_mul]; omega
theorem flat_get {α β : Type} (enc : α → List β) (k : Nat) (hk : ∀ x, (enc x).length = k) (xs : List α) (i j : Nat) (hi : i < xs.length) (hj : j < k) : (xs.flatMap enc)[i * k + j]? = (enc xs[i])[j]? := by
  induction xs generalizing i with
  | nil => simp at hi
  | cons x xs ih =>
    rw [List.flatMap_cons]
    rcases i with _ | i
    · rw [Nat.zero_mul, Nat.zero_add, List.getElem?_append_left (by rw [hk]; exact hj)]; rfl
    · have h1 : (i + 1) * k + j = (enc x).length + (i * k + j) := by rw [hk, Nat.add_mul]; omega
      rw [h1, List.getElem?_append_right (Nat.le_add_right _ _), Nat.add_sub_cancel_left]
      exact ih i (by simpa using hi)

/-- a slice's address leads to these structs -/
def RdK {α : Type} (enc : α → List Value) (w : World) (A : Option Addr) (xs : List α) : Prop := Rd w A (xs.flatMap enc)
theorem RdK.touch0 {α : Type} {enc : α → List Value} {w w' : World} {A : Option Addr} {xs : List α} (h : RdK enc w A xs) (ht : Touch [] w w') : RdK enc w' A xs := Rd.touch0 h ht
theorem RdK.touch {α : Type} {enc : α → List Value} {w w' : World} {A : Option Addr} {xs : List α} {fp : List Nat} (h : RdK enc w A xs) (ht : Touch fp w w') (hn : ∀ b ∈ fpo A, b ∉ fp) : RdK enc w' A xs := Rd.touch h ht hn
theorem RdK.nil {α : Type} (enc : α → List Value) (w : World) (A : Option Addr) : RdK enc w A [] := Rd.nil w A
theorem RdK.at_ {α : Type} {enc : α → List Value} {w : World} {A : Option Addr} {xs : List α} (h : RdK enc w A xs) (k : Nat) (hk : ∀ x, (enc x).length = k) (h0 : 0 < k) (i : Nat) (hi : i < xs.length) :
    ∃ ad b off, A = some ad ∧ ad.add (i * k) = ⟨b, off, none⟩ ∧ b = ad.block ∧ ∀ j u, (enc xs[i])[j]? = some u → w.cell? ⟨b, off + j, none⟩ = some u := by
  have hpos : 0 < (xs.flatMap enc).length := by rw [flat_length enc k hk]; exact Nat.mul_pos (by omega) h0
  obtain ⟨ad, rfl, hc⟩ := h hpos
  have hall : ∀ j u, (enc xs[i])[j]? = some u → w.cell? ((ad.add (i * k)).add j) = some u := fun j u hu => by
    have hj : j < k := by have := (List.getElem?_eq_some_iff.1 hu).1; rwa [hk] at this
    rw [add_of_add]
    exact hc _ u (by rw [flat_get enc k hk xs i j hi hj]; exact hu)
  have hfirst : (enc xs[i])[0]? = some ((enc xs[i])[0]'(by rw [hk]; exact h0)) := List.getElem?_eq_getElem _
  have h1 := hall 0 _ hfirst
  have hb := block_of_add ad (i * k)
  rcases hp : ad.add (i * k) with ⟨b, off, spot⟩
  rw [hp] at h1 hall hb
  have e0 : (⟨b, off, spot⟩ : Addr).add 0 = ⟨b, off, spot⟩ := by simp [Addr.add]
  rw [e0] at h1
  obtain rfl : spot = none := by simpa using World.cell?_spot h1
  refine ⟨ad, b, off, rfl, hp, hb, fun j u hu => ?_⟩
  have := hall j u hu
  have e1 : (⟨b, off, none⟩ : Addr).add j = ⟨b, off + j, none⟩ := by unfold Addr.add; split <;> simp_all
  rwa [e1] at this

/-- a slice of structs that the calls own -/
def OwnK {α : Type} (t k : Nat) (enc : α → List Value) (w : World) (A : Option Addr) (c : Nat) (xs : List α) : Prop := w.ownsRow 0 t k (.slice A xs.length c) xs.length (xs.flatMap enc)
theorem OwnK.nil {α : Type} (t k : Nat) (enc : α → List Value) (w : World) : OwnK t k enc w none 0 [] := World.ownsRow_nil _ _ _ _
theorem OwnK.head {α : Type} {t k : Nat} {enc : α → List Value} {w : World} {A : Option Addr} {c : Nat} {xs : List α} (h : OwnK t k enc w A c xs) : A = none ∧ xs = [] ∧ c = 0 ∨ ∃ g, A = some ⟨g, 0, none⟩ := by
  rcases h.2 with ⟨hv, h0⟩ | ⟨g, cap, cur, hv, _⟩
  · injection hv with hA _ hc; exact .inl ⟨hA, List.eq_nil_of_length_eq_zero h0, hc⟩
  · injection hv with hA _ _; exact .inr ⟨g, hA⟩
theorem OwnK.rd {α : Type} {t k : Nat} {enc : α → List Value} {w : World} {A : Option Addr} {c : Nat} {xs : List α} (h : OwnK t k enc w A c xs) : RdK enc w A xs := by
  intro h0
  rcases h.2 with hv | ⟨g, cap, cur, hv, _⟩
  · obtain rfl := List.eq_nil_of_length_eq_zero hv.2
    simp at h0
  · have hA : A = some ⟨g, 0, none⟩ := by injection hv
    subst hA
    exact ⟨_, rfl, World.ownsRow.cells h (g := g) rfl⟩
theorem OwnK.le {α : Type} {t k : Nat} {enc : α → List Value} {w : World} {A : Option Addr} {c : Nat} {xs : List α} (h : OwnK t k enc w A c xs) : xs.length ≤ c := by
  obtain ⟨_, ⟨hv, hn⟩ | ⟨g, cap, cur, hv, _, _, hnc, _⟩⟩ := h
  · omega
  · injection hv with _ _ h3; omega
theorem OwnK.touch {α : Type} {t k : Nat} {enc : α → List Value} {w w' : World} {A : Option Addr} {c : Nat} {xs : List α} {fp : List Nat} (h : OwnK t k enc w A c xs) (ht : Touch fp w w') (hn : ∀ b ∈ fpo A, b ∉ fp) : OwnK t k enc w' A c xs := by
  refine ⟨h.1, ?_⟩
  rcases h.2 with hv | ⟨g, cap, cur, hv, hb, hg, rest⟩
  · exact .inl hv
  · have hA : A = some ⟨g, 0, none⟩ := by injection hv
    subst hA
    exact .inr ⟨g, cap, cur, hv, hb, ht.blk hg (hn g (by simp [fpo])), rest⟩
theorem OwnK.touch0 {α : Type} {t k : Nat} {enc : α → List Value} {w w' : World} {A : Option Addr} {c : Nat} {xs : List α} (h : OwnK t k enc w A c xs) (ht : Touch [] w w') : OwnK t k enc w' A c xs := h.touch ht (by simp)
theorem OwnK.lt {α : Type} {t k : Nat} {enc : α → List Value} {w : World} {A : Option Addr} {c : Nat} {xs : List α} (h : OwnK t k enc w A c xs) : ∀ b ∈ fpo A, b < w.heap.size := by
  intro b hb
  rcases h.2 with ⟨hv, _⟩ | ⟨g, cap, cur, hv, _, hg, _⟩
  · injection hv with hA _ _; subst hA; cases hb
  · have hA : A = some ⟨g, 0, none⟩ := by injection hv
    subst hA
    have : b = g := by simpa [fpo] using hb
    subst this
    exact (Array.getElem?_eq_some_iff.1 hg).1
theorem OwnK.empty_new {α : Type} (t k : Nat) (enc : α → List Value) (w : World) : OwnK t k enc (w.alloc (.cells #[] t)) (some ⟨w.heap.size, 0, none⟩) 0 [] :=
  ⟨by simp, .inr ⟨w.heap.size, 0, #[], rfl, Nat.zero_le _, heap_alloc_new w _, Nat.le_refl _, Nat.zero_le _, by simp, by simp⟩⟩

/-- append onto structs that the calls own -/
theorem wpList_appK {α : Type} {enc : α → List Value} {w : World} {ops : Array Oper} {rest : List Oper} {o : Oper} {a : Act} {Q : Exit → Act → World → Prop} (hgd : o.guard = none) (s x : Operand) (t : TypeId)
    (ho : o.op = .call { callee := .builtin .append, args := #[s, x], argTypes := #[t, t] })
    (e : TypeId) (z : Value) (k bytes : Nat) (hinfo : (Try.prog.info? e).map (fun i => (i.zero, i.size, i.bytes)) = some (some z, k, bytes)) (ht : Try.prog.underlying t = some (.slice e))
    (hzs : z.cells.size = k) (hsz : 0 < k) (hk : ∀ x, (enc x).length = k) (hone : ∀ x, ∀ u ∈ enc x, u.oneCell' = true)
    (A0 : Option Addr) (n c0 : Nat) (xs : List α) (hn : xs.length = n) (hs : a.eval s = .slice A0 n c0) (hown : OwnK e k enc w A0 c0 xs)
    (A : Option Addr) (m c : Nat) (news : List α) (hm : news.length = m) (hx : a.eval x = .slice A m c) (hr : RdK enc w A news) (h63 : n + m ≤ 1000000000) (hby : bytes ≤ 1000)
    (h : ∀ A' c' w', OwnK e k enc w' A' c' (xs ++ news) → Touch (fpo A0) w w' → (∀ b ∈ fpo A', b ∈ fpo A0 ∨ b = w.heap.size) → wpList Try.prog ops Q rest (a.put o.dst (.slice A' (n + m) c')) w') :
    wpList Try.prog ops Q (o :: rest) a w := by
  obtain ⟨i0, hi0, hz0, hz1, hz2⟩ := info_parts hinfo
  subst hn hm
  have hb : (xs.length + news.length) * bytes ≤ 1000000000 * 1000 := Nat.mul_le_mul h63 hby
  refine wpList_app w hgd s x t ho e i0 z k bytes ht hi0 hz0 hz1 hz2 hzs hsz A0 xs.length c0 _ hs hown A news.length c (news.flatMap enc) hx (flat_length enc k hk news) hr
    (fun u hu => by obtain ⟨y, _, hy⟩ := List.mem_flatMap.1 hu; exact hone y u hy) (by simp only [maxLen]; omega) (by omega) ?_
  intro A' c' w' h2 h3 h4
  exact h A' c' w' (by unfold OwnK; rw [List.flatMap_append, List.length_append]; exact h2) h3 h4

/-- the same as one step of a region that draws its order -/
theorem step_appK {α : Type} {enc : α → List Value} {w : World} {ops : Array Oper} {o : Oper} {a : Act} {K : Act → World → Prop} {Q : Exit → Act → World → Prop} {E : Prop} (hgd : o.guard = none) (s x : Operand) (t : TypeId)
    (ho : o.op = .call { callee := .builtin .append, args := #[s, x], argTypes := #[t, t] })
    (e : TypeId) (z : Value) (k bytes : Nat) (hinfo : (Try.prog.info? e).map (fun i => (i.zero, i.size, i.bytes)) = some (some z, k, bytes)) (ht : Try.prog.underlying t = some (.slice e))
    (hzs : z.cells.size = k) (hsz : 0 < k) (hk : ∀ x, (enc x).length = k) (hone : ∀ x, ∀ u ∈ enc x, u.oneCell' = true)
    (A0 : Option Addr) (n c0 : Nat) (xs : List α) (hn : xs.length = n) (hs : a.eval s = .slice A0 n c0) (hown : OwnK e k enc w A0 c0 xs)
    (A : Option Addr) (m c : Nat) (news : List α) (hm : news.length = m) (hx : a.eval x = .slice A m c) (hr : RdK enc w A news) (h63 : n + m ≤ 1000000000) (hby : bytes ≤ 1000)
    (h : ∀ A' c' w', OwnK e k enc w' A' c' (xs ++ news) → Touch (fpo A0) w w' → (∀ b ∈ fpo A', b ∈ fpo A0 ∨ b = w.heap.size) → K (a.put o.dst (.slice A' (n + m) c')) w') :
    if Region.wanted o (yielded ops a.tmps) = true then Oper.wp Try.prog o a w K Q else E := by
  obtain ⟨i0, hi0, hz0, hz1, hz2⟩ := info_parts hinfo
  subst hn hm
  have hb : (xs.length + news.length) * bytes ≤ 1000000000 * 1000 := Nat.mul_le_mul h63 hby
  refine step_app w hgd s x t ho e i0 z k bytes ht hi0 hz0 hz1 hz2 hzs hsz A0 xs.length c0 _ hs hown A news.length c (news.flatMap enc) hx (flat_length enc k hk news) hr
    (fun u hu => by obtain ⟨y, _, hy⟩ := List.mem_flatMap.1 hu; exact hone y u hy) (by simp only [maxLen]; omega) (by omega) ?_
  intro A' c' w' h2 h3 h4
  exact h A' c' w' (by unfold OwnK; rw [List.flatMap_append, List.length_append]; exact h2) h3 h4

/-- one struct in a block of its own -/
theorem RdK.one {α : Type} {enc : α → List Value} (w : World) (t : TypeId) (x : α) (cs : Array Value) (h : cs.toList = enc x) : RdK enc (w.alloc (.cells cs t)) (some ⟨w.heap.size, 0, none⟩) [x] := fun _ =>
  ⟨_, rfl, fun j u hu => by
    have hadd : (⟨w.heap.size, 0, none⟩ : Addr).add j = ⟨w.heap.size, j, none⟩ := by unfold Addr.add; split <;> simp_all
    rw [hadd, cell_of_row _ w.heap.size j cs t (0, 0) (heap_alloc_new w _)]
    simpa [← h] using hu⟩
/-- a row in a block just made -/
theorem RdK.row {α : Type} {enc : α → List Value} (w : World) (t : TypeId) (l : List α) (cs : Array Value) (h : cs.toList = l.flatMap enc) : RdK enc (w.alloc (.cells cs t)) (some ⟨w.heap.size, 0, none⟩) l := fun _ =>
  ⟨_, rfl, fun j u hu => by
    have hadd : (⟨w.heap.size, 0, none⟩ : Addr).add j = ⟨w.heap.size, j, none⟩ := by unfold Addr.add; split <;> simp_all
    rw [hadd, cell_of_row _ w.heap.size j cs t (0, 0) (heap_alloc_new w _)]
    rw [← h] at hu
    simpa using hu⟩
end Go.Proofs.Ytlkckkagoommaaa

/- Trees of expressions, and how they lie in memory. No program's function. -/
namespace Go.Proofs.Ytlkckkagoommaaa
open Go.RowKit

/-- an expression's own things -/
structure ND where
  kind : Int
  name : ByteArray
  v : VD
  op : ByteArray
/-- numbers within bounds, texts short -/
structure ND.Ok (d : ND) (m : Nat) : Prop where
  k : -9223372036854775808 ≤ d.kind ∧ d.kind ≤ 9223372036854775807
  n : d.name.size ≤ m
  v : d.v.Ok m
  o : d.op.size ≤ m
/-- expressions of so many levels at most -/
def TX : Nat → Type
  | 0 => PEmpty
  | n + 1 => ND × List (TX n)
/-- what an expression's cells hold -/
structure XC where
  nd : ND
  A : Option Addr
  n : Nat
  c : Nat
/-- as the program lays it -/
def xcE (x : XC) : List Value := [.int .i64 x.nd.kind, .string x.nd.name, .int .i64 x.nd.v.kind, .int .i64 x.nd.v.num, .string x.nd.v.text, .string x.nd.op, .slice x.A x.n x.c]
/-- as the document's answer lays it -/
def xcR (x : XC) : List Value := [.int .i64 x.nd.kind, .string x.nd.name, .string x.nd.op, .int .i64 x.nd.v.kind, .int .i64 x.nd.v.num, .string x.nd.v.text, .slice x.A x.n x.c]
theorem xcE_length (x : XC) : (xcE x).length = 7 := rfl
theorem xcR_length (x : XC) : (xcR x).length = 7 := rfl
theorem xcE_one (x : XC) : ∀ u ∈ xcE x, u.oneCell' = true := by
  intro u hu
  simp only [xcE, List.mem_cons, List.not_mem_nil, or_false] at hu
  rcases hu with rfl | rfl | rfl | rfl | rfl | rfl | rfl <;> rfl
theorem xcR_one (x : XC) : ∀ u ∈ xcR x, u.oneCell' = true := by
  intro u hu
  simp only [xcR, List.mem_cons, List.not_mem_nil, or_false] at hu
  rcases hu with rfl | rfl | rfl | rfl | rfl | rfl | rfl <;> rfl

/-- these cells, and what they lead to, are this tree; its blocks are such -/
def ExP (enc : XC → List Value) (p : Nat → Prop) : (n : Nat) → World → XC → TX n → Prop
  | 0, _, _, _ => False
  | n + 1, w, x, e => x.nd = e.1 ∧ x.n = e.2.length ∧ (∀ b ∈ fpo x.A, p b) ∧ ∃ xs : List XC, xs.length = e.2.length ∧ RdK enc w x.A xs ∧ ∀ i (h1 : i < xs.length) (h2 : i < e.2.length), ExP enc p n w xs[i] e.2[i]
def anyB : Nat → Prop := fun _ => True
theorem ExP.mono {enc : XC → List Value} {p q : Nat → Prop} (hpq : ∀ b, p b → q b) : ∀ {n : Nat} {w : World} {x : XC} {e : TX n}, ExP enc p n w x e → ExP enc q n w x e
  | 0, _, _, _, h => h.elim
  | _ + 1, _, _, _, ⟨h1, h2, h3, xs, h4, h5, h6⟩ => ⟨h1, h2, fun b hb => hpq b (h3 b hb), xs, h4, h5, fun i a b => ExP.mono hpq (h6 i a b)⟩
theorem ExP.any {enc : XC → List Value} {p : Nat → Prop} {n : Nat} {w : World} {x : XC} {e : TX n} (h : ExP enc p n w x e) : ExP enc anyB n w x e := h.mono fun _ _ => trivial
theorem ExP.touch {enc : XC → List Value} {p : Nat → Prop} {fp : List Nat} : ∀ {n : Nat} {w w' : World} {x : XC} {e : TX n}, ExP enc p n w x e → Touch fp w w' → (∀ b ∈ fp, ¬ p b) → ExP enc p n w' x e
  | 0, _, _, _, _, h, _, _ => h.elim
  | _ + 1, _, _, _, _, ⟨h1, h2, h3, xs, h4, h5, h6⟩, ht, hp => ⟨h1, h2, h3, xs, h4, RdK.touch h5 ht (fun b hb hm => hp b hm (h3 b hb)), fun i a b => ExP.touch (h6 i a b) ht hp⟩
theorem ExP.touch0 {enc : XC → List Value} {p : Nat → Prop} {n : Nat} {w w' : World} {x : XC} {e : TX n} (h : ExP enc p n w x e) (ht : Touch [] w w') : ExP enc p n w' x e := h.touch ht (by simp)
/-- the Args of an expression lie so -/
def ArgsP (enc : XC → List Value) (p : Nat → Prop) (n : Nat) (w : World) (A : Option Addr) (args : List (TX n)) : Prop :=
  ∃ xs : List XC, xs.length = args.length ∧ RdK enc w A xs ∧ ∀ i (h1 : i < xs.length) (h2 : i < args.length), ExP enc p n w xs[i] args[i]
theorem ArgsP.touch0 {enc : XC → List Value} {p : Nat → Prop} {n : Nat} {w w' : World} {A : Option Addr} {args : List (TX n)} (h : ArgsP enc p n w A args) (ht : Touch [] w w') : ArgsP enc p n w' A args := by
  obtain ⟨xs, h1, h2, h3⟩ := h
  exact ⟨xs, h1, RdK.touch0 h2 ht, fun i a b => (h3 i a b).touch0 ht⟩
theorem ArgsP.nil (enc : XC → List Value) (p : Nat → Prop) (n : Nat) (w : World) (A : Option Addr) : ArgsP enc p n w A [] := ⟨[], rfl, RdK.nil _ _ _, fun i h => absurd h (by simp)⟩
/-- the cells of one of the Args -/
theorem ArgsP.at_ {enc : XC → List Value} (hE : ∀ x, (enc x).length = 7) {p : Nat → Prop} {n : Nat} {w : World} {A : Option Addr} {args : List (TX n)} (h : ArgsP enc p n w A args) (i : Nat) (hi : i < args.length) :
    ∃ ad b off x, A = some ad ∧ ad.add (i * 7) = ⟨b, off, none⟩ ∧ ExP enc p n w x args[i] ∧ ∀ j u, (enc x)[j]? = some u → w.cell? ⟨b, off + j, none⟩ = some u := by
  obtain ⟨xs, h1, h2, h3⟩ := h
  obtain ⟨ad, b, off, e1, e2, _, e3⟩ := RdK.at_ h2 7 hE (by omega) i (by omega)
  exact ⟨ad, b, off, xs[i], e1, e2, h3 i (by omega) hi, e3⟩
theorem ExP.args {enc : XC → List Value} {p : Nat → Prop} {n : Nat} {w : World} {x : XC} {e : TX (n + 1)} (h : ExP enc p (n + 1) w x e) : x.nd = e.1 ∧ x.n = e.2.length ∧ ArgsP enc p n w x.A e.2 := ⟨h.1, h.2.1, h.2.2.2⟩

/-- a thing of each expression holds throughout -/
def allX (q : ND → Prop) : (n : Nat) → TX n → Prop
  | 0, _ => True
  | n + 1, e => q e.1 ∧ ∀ a ∈ e.2, allX q n a
/-- how many expressions -/
def sizeX : (n : Nat) → TX n → Nat
  | 0, _ => 0
  | n + 1, e => 1 + (e.2.map (sizeX n)).sum
/-- .. in a row -/
def sumX (n : Nat) (l : List (TX n)) : Nat := (l.map (sizeX n)).sum
theorem sumX_snoc (n : Nat) (l : List (TX n)) (k : Nat) (h : k < l.length) : sumX n (l.take (k + 1)) = sumX n (l.take k) + sizeX n l[k] := by
  unfold sumX
  rw [List.take_succ_eq_append_getElem h, List.map_append, List.sum_append]; simp
theorem sizeX_succ (n : Nat) (e : TX (n + 1)) : sizeX (n + 1) e = 1 + sumX n e.2 := rfl
theorem sizeX_pos : ∀ (n : Nat) (e : TX n), 1 ≤ sizeX n e
  | 0, e => e.elim
  | n + 1, e => by unfold sizeX; omega
theorem len_le_sum (n : Nat) (l : List (TX n)) : l.length ≤ sumX n l := by
  unfold sumX
  induction l with
  | nil => simp
  | cons a l ih => have := sizeX_pos n a; simp; omega
theorem sum_take_le (n : Nat) (l : List (TX n)) (k : Nat) : sumX n (l.take k) ≤ sumX n l := by
  unfold sumX
  induction l generalizing k with
  | nil => simp
  | cons a l ih => cases k with
    | zero => simp
    | succ k => have := ih k; rw [List.take_succ_cons, List.map_cons, List.map_cons, List.sum_cons, List.sum_cons]; omega
theorem size_mem {n : Nat} {l : List (TX n)} {a : TX n} (h : a ∈ l) : sizeX n a ≤ sumX n l := by
  unfold sumX
  induction l with
  | nil => cases h
  | cons b l ih =>
    rcases List.mem_cons.1 h with rfl | h
    · simp
    · have := ih h; simp; omega
/-- what is handed over -/
def XC.val (x : XC) : Value := .agg #[.int .i64 x.nd.kind, .string x.nd.name, .int .i64 x.nd.v.kind, .int .i64 x.nd.v.num, .string x.nd.v.text, .string x.nd.op, .slice x.A x.n x.c]
def XC.valR (x : XC) : Value := .agg #[.int .i64 x.nd.kind, .string x.nd.name, .string x.nd.op, .int .i64 x.nd.v.kind, .int .i64 x.nd.v.num, .string x.nd.v.text, .slice x.A x.n x.c]
/-- are both one? -/
def eqN (a b : ND) : Bool := decide (a.kind = b.kind) && (decide (a.name = b.name) && ((decide (a.v.kind = b.v.kind) && (decide (a.v.num = b.v.num) && decide (a.v.text = b.v.text))) && decide (a.op = b.op)))
def eqL {α : Type} (f : α → α → Bool) : List α → List α → Bool
  | [], [] => true
  | a :: r, b :: s => f a b && eqL f r s
  | _, _ => false
def eqX : (n : Nat) → TX n → TX n → Bool
  | 0, _, _ => true
  | n + 1, a, b => eqN a.1 b.1 && eqL (eqX n) a.2 b.2
theorem eqN_iff (a b : ND) : eqN a b = true ↔ a = b := by
  obtain ⟨ak, an, ⟨x1, x2, x3⟩, ao⟩ := a
  obtain ⟨bk, bn, ⟨y1, y2, y3⟩, bo⟩ := b
  simp [eqN]
theorem eqL_iff {α : Type} {f : α → α → Bool} (hf : ∀ a b, f a b = true ↔ a = b) : ∀ l r : List α, eqL f l r = true ↔ l = r
  | [], [] => by simp [eqL]
  | [], _ :: _ => by simp [eqL]
  | _ :: _, [] => by simp [eqL]
  | a :: l, b :: r => by simp [eqL, hf, eqL_iff hf l r]
theorem eqX_iff : ∀ (n : Nat) (a b : TX n), eqX n a b = true ↔ a = b
  | 0, a, _ => a.elim
  | n + 1, a, b => by
    obtain ⟨d, l⟩ := a
    obtain ⟨f, r⟩ := b
    show (eqN d f && eqL (eqX n) l r) = true ↔ _
    rw [Bool.and_eq_true, eqN_iff, eqL_iff (eqX_iff n)]
    constructor
    · rintro ⟨rfl, rfl⟩; rfl
    · intro h; cases h; exact ⟨rfl, rfl⟩
end Go.Proofs.Ytlkckkagoommaaa

/- Rows of expressions of the calls' own: how one more comes to them. No program's function. -/
namespace Go.Proofs.Ytlkckkagoommaaa
open Go.RowKit

/-- blocks behind a base that are there -/
def Fr (base : Nat) (w : World) : Nat → Prop := fun b => base ≤ b ∧ b < w.heap.size
/-- a row of expressions of the calls' own; what lies below it lies elsewhere -/
def OwnX (t : TypeId) (enc : XC → List Value) (base n : Nat) (w : World) (B : Option Addr) (c : Nat) (args : List (TX n)) : Prop :=
  ∃ xs : List XC, xs.length = args.length ∧ OwnK t 7 enc w B c xs ∧ (∀ b ∈ fpo B, base ≤ b) ∧ ∀ i (h1 : i < xs.length) (h2 : i < args.length), ExP enc (fun b => Fr base w b ∧ b ∉ fpo B) n w xs[i] args[i]
theorem OwnX.nil (t : TypeId) (enc : XC → List Value) (base n : Nat) (w : World) : OwnX t enc base n w none 0 [] := ⟨[], rfl, OwnK.nil _ _ _ _, by simp [fpo], fun i h => absurd h (by simp)⟩
theorem OwnX.lt {t : TypeId} {enc : XC → List Value} {base n : Nat} {w : World} {B : Option Addr} {c : Nat} {args : List (TX n)} (h : OwnX t enc base n w B c args) : ∀ b ∈ fpo B, base ≤ b ∧ b < w.heap.size := by
  obtain ⟨xs, _, h2, h3, _⟩ := h
  exact fun b hb => ⟨h3 b hb, h2.lt b hb⟩
theorem OwnX.touch {t : TypeId} {enc : XC → List Value} {base n : Nat} {w w' : World} {B : Option Addr} {c : Nat} {args : List (TX n)} {fp : List Nat} (h : OwnX t enc base n w B c args) (ht : Touch fp w w') (hfp : ∀ b ∈ fp, b < base) : OwnX t enc base n w' B c args := by
  obtain ⟨xs, h1, h2, h3, h4⟩ := h
  exact ⟨xs, h1, h2.touch ht (fun b hb hm => by have := hfp b hm; have := h3 b hb; omega), h3, fun i a b => ((h4 i a b).touch ht (fun b hb hp => by have := hfp b hb; have := hp.1.1; omega)).mono (fun b hb => ⟨⟨hb.1.1, Nat.lt_of_lt_of_le hb.1.2 ht.size⟩, hb.2⟩)⟩
theorem OwnX.touch0 {t : TypeId} {enc : XC → List Value} {base n : Nat} {w w' : World} {B : Option Addr} {c : Nat} {args : List (TX n)} (h : OwnX t enc base n w B c args) (ht : Touch [] w w') : OwnX t enc base n w' B c args := h.touch ht (by simp)
theorem OwnX.tree {t : TypeId} {enc : XC → List Value} {base n : Nat} {w : World} {B : Option Addr} {c : Nat} {args : List (TX n)} (h : OwnX t enc base n w B c args) (nd : ND) (m : Nat) (hm : m = args.length) : ExP enc (Fr base w) (n + 1) w ⟨nd, B, m, c⟩ (nd, args) := by
  have hlt := h.lt
  obtain ⟨xs, h1, h2, _, h4⟩ := h
  exact ⟨rfl, hm, hlt, xs, h1, h2.rd, fun i a b => (h4 i a b).mono fun b hb => hb.1⟩
theorem OwnX.base {t : TypeId} {enc : XC → List Value} {base base' n : Nat} {w : World} {B : Option Addr} {c : Nat} {args : List (TX n)} (h : OwnX t enc base n w B c args) (hb : base' ≤ base) : OwnX t enc base' n w B c args := by
  obtain ⟨xs, h1, h2, h3, h4⟩ := h
  exact ⟨xs, h1, h2, fun b hbm => by have := h3 b hbm; omega, fun i a b => (h4 i a b).mono fun b hp => ⟨⟨by have := hp.1.1; omega, hp.1.2⟩, hp.2⟩⟩

/-- append of one more expression -/
theorem wpList_appX {enc : XC → List Value} (hE : ∀ x, (enc x).length = 7) (hone : ∀ x, ∀ u ∈ enc x, u.oneCell' = true) {w : World} {ops : Array Oper} {rest : List Oper} {o : Oper} {a : Act} {Q : Exit → Act → World → Prop} (hgd : o.guard = none) (s y : Operand) (t : TypeId)
    (ho : o.op = .call { callee := .builtin .append, args := #[s, y], argTypes := #[t, t] })
    (e : TypeId) (z : Value) (bytes : Nat) (hinfo : (Try.prog.info? e).map (fun i => (i.zero, i.size, i.bytes)) = some (some z, 7, bytes)) (ht : Try.prog.underlying t = some (.slice e)) (hzs : z.cells.size = 7) (hby : bytes ≤ 1000)
    (base n : Nat) (B : Option Addr) (m c : Nat) (args : List (TX n)) (hm : args.length = m) (hs : a.eval s = .slice B m c) (hown : OwnX e enc base n w B c args)
    (x : XC) (r : TX n) (hx : ExP enc (fun b => Fr base w b ∧ b ∉ fpo B) n w x r) (hbase : base ≤ w.heap.size)
    (g : Nat) (hy : a.eval y = .slice (some ⟨w.heap.size, 0, none⟩) 1 g) (h63 : m + 1 ≤ 1000000000) {cs : Array Value} (hcs : cs.toList = enc x)
    (h : ∀ B' c' w', OwnX e enc base n w' B' c' (args ++ [r]) → Touch (fpo B) w w' → (∀ b ∈ fpo B', b ∈ fpo B ∨ w.heap.size < b) → wpList Try.prog ops Q rest (a.put o.dst (.slice B' (m + 1) c')) w') :
    wpList Try.prog ops Q (o :: rest) a (w.alloc (.cells cs e)) := by
  obtain ⟨xs, h1, h2, h3, h4⟩ := hown
  have ta := (Touch.refl [] w).alloc (.cells cs e)
  refine wpList_appK (enc := enc) hgd s y t ho e z 7 bytes hinfo ht hzs (by omega) hE hone B m c xs (by rw [h1, hm]) hs (h2.touch0 ta)
    (some ⟨w.heap.size, 0, none⟩) 1 g [x] rfl hy (RdK.one (enc := enc) w e x cs hcs) h63 hby ?_
  intro B' c' w' hown' t' hf'
  rw [World.size_alloc] at hf'
  have hw := t'.size
  rw [World.size_alloc] at hw
  have hlt := h2.lt
  have tt : Touch (fpo B) w w' := (ta.mono (fp2 := fpo B) (fun b hb => by simp at hb)).trans t' (fun b hb => .inl hb)
  have key : ∀ {x : XC} {r : TX n}, ExP enc (fun b => Fr base w b ∧ b ∉ fpo B) n w x r → ExP enc (fun b => Fr base w' b ∧ b ∉ fpo B') n w' x r := fun hx =>
    (hx.touch tt (fun b hb hp => hp.2 hb)).mono fun b hp => ⟨⟨hp.1.1, by have := hp.1.2; omega⟩, fun hm => by
      rcases hf' b hm with q | q
      · exact hp.2 q
      · have := hp.1.2; omega⟩
  refine h B' c' w' ⟨xs ++ [x], by simp [h1], hown', fun b hb => ?_, fun i a1 b1 => ?_⟩ tt (fun b hb => ?_)
  · rcases hf' b hb with q | q
    · exact h3 b q
    · omega
  · by_cases hi : i < xs.length
    · have hi2 : i < args.length := by rw [← h1]; exact hi
      rw [List.getElem_append_left hi, List.getElem_append_left hi2]
      exact key (h4 i hi hi2)
    · have hi' : i = xs.length := by rw [List.length_append] at a1; simp at a1; omega
      subst hi'
      have e1 : (xs ++ [x])[xs.length] = x := by rw [List.getElem_append_right (Nat.le_refl _)]; simp
      have e2 : (args ++ [r])[xs.length] = r := by rw [List.getElem_append_right (by rw [h1]; exact Nat.le_refl _)]; simp [h1]
      rw [e1, e2]
      exact key hx
  · rcases hf' b hb with q | q
    · exact .inl q
    · exact .inr (by omega)
/-- the same as one step of a region that draws its order -/
theorem step_appX {enc : XC → List Value} (hE : ∀ x, (enc x).length = 7) (hone : ∀ x, ∀ u ∈ enc x, u.oneCell' = true) {w : World} {ops : Array Oper} {o : Oper} {a : Act} {K : Act → World → Prop} {Q : Exit → Act → World → Prop} {E : Prop} (hgd : o.guard = none) (s y : Operand) (t : TypeId)
    (ho : o.op = .call { callee := .builtin .append, args := #[s, y], argTypes := #[t, t] })
    (e : TypeId) (z : Value) (bytes : Nat) (hinfo : (Try.prog.info? e).map (fun i => (i.zero, i.size, i.bytes)) = some (some z, 7, bytes)) (ht : Try.prog.underlying t = some (.slice e)) (hzs : z.cells.size = 7) (hby : bytes ≤ 1000)
    (base n : Nat) (B : Option Addr) (m c : Nat) (args : List (TX n)) (hm : args.length = m) (hs : a.eval s = .slice B m c) (hown : OwnX e enc base n w B c args)
    (x : XC) (r : TX n) (hx : ExP enc (fun b => Fr base w b ∧ b ∉ fpo B) n w x r) (hbase : base ≤ w.heap.size)
    (g : Nat) (hy : a.eval y = .slice (some ⟨w.heap.size, 0, none⟩) 1 g) (h63 : m + 1 ≤ 1000000000) {cs : Array Value} (hcs : cs.toList = enc x)
    (h : ∀ B' c' w', OwnX e enc base n w' B' c' (args ++ [r]) → Touch (fpo B) w w' → (∀ b ∈ fpo B', b ∈ fpo B ∨ w.heap.size < b) → K (a.put o.dst (.slice B' (m + 1) c')) w') :
    if Region.wanted o (yielded ops a.tmps) = true then Oper.wp Try.prog o a (w.alloc (.cells cs e)) K Q else E := by
  obtain ⟨xs, h1, h2, h3, h4⟩ := hown
  have ta := (Touch.refl [] w).alloc (.cells cs e)
  refine step_appK (enc := enc) hgd s y t ho e z 7 bytes hinfo ht hzs (by omega) hE hone B m c xs (by rw [h1, hm]) hs (h2.touch0 ta)
    (some ⟨w.heap.size, 0, none⟩) 1 g [x] rfl hy (RdK.one (enc := enc) w e x cs hcs) h63 hby ?_
  intro B' c' w' hown' t' hf'
  rw [World.size_alloc] at hf'
  have hw := t'.size
  rw [World.size_alloc] at hw
  have hlt := h2.lt
  have tt : Touch (fpo B) w w' := (ta.mono (fp2 := fpo B) (fun b hb => by simp at hb)).trans t' (fun b hb => .inl hb)
  have key : ∀ {x : XC} {r : TX n}, ExP enc (fun b => Fr base w b ∧ b ∉ fpo B) n w x r → ExP enc (fun b => Fr base w' b ∧ b ∉ fpo B') n w' x r := fun hx =>
    (hx.touch tt (fun b hb hp => hp.2 hb)).mono fun b hp => ⟨⟨hp.1.1, by have := hp.1.2; omega⟩, fun hm => by
      rcases hf' b hm with q | q
      · exact hp.2 q
      · have := hp.1.2; omega⟩
  refine h B' c' w' ⟨xs ++ [x], by simp [h1], hown', fun b hb => ?_, fun i a1 b1 => ?_⟩ tt (fun b hb => ?_)
  · rcases hf' b hb with q | q
    · exact h3 b q
    · omega
  · by_cases hi : i < xs.length
    · have hi2 : i < args.length := by rw [← h1]; exact hi
      rw [List.getElem_append_left hi, List.getElem_append_left hi2]
      exact key (h4 i hi hi2)
    · have hi' : i = xs.length := by rw [List.length_append] at a1; simp at a1; omega
      subst hi'
      have e1 : (xs ++ [x])[xs.length] = x := by rw [List.getElem_append_right (Nat.le_refl _)]; simp
      have e2 : (args ++ [r])[xs.length] = r := by rw [List.getElem_append_right (by rw [h1]; exact Nat.le_refl _)]; simp [h1]
      rw [e1, e2]
      exact key hx
  · rcases hf' b hb with q | q
    · exact .inl q
    · exact .inr (by omega)
/-- a struct of seven cells is written -/
theorem out7 {X : World} {R : Nat} {t : TypeId} {a0 a1 a2 a3 a4 a5 a6 : Value} (h : X.heap[R]? = some (.cells #[a0, a1, a2, a3, a4, a5, a6] t (0, 0))) (v0 v1 v2 v3 v4 v5 v6 : Value) :
    (((((((X.setCell ⟨R, 0, none⟩ v0).setCell ⟨R, 1, none⟩ v1).setCell ⟨R, 2, none⟩ v2).setCell ⟨R, 3, none⟩ v3).setCell ⟨R, 4, none⟩ v4).setCell ⟨R, 5, none⟩ v5).setCell ⟨R, 6, none⟩ v6).heap[R]? = some (.cells #[v0, v1, v2, v3, v4, v5, v6] t (0, 0)) ∧ Touch [R] X (((((((X.setCell ⟨R, 0, none⟩ v0).setCell ⟨R, 1, none⟩ v1).setCell ⟨R, 2, none⟩ v2).setCell ⟨R, 3, none⟩ v3).setCell ⟨R, 4, none⟩ v4).setCell ⟨R, 5, none⟩ v5).setCell ⟨R, 6, none⟩ v6) := by
  have t := Touch.refl [R] X
  have h0 := set_blk h 0 v0
  have t := t.setCell (p := ⟨R, 0, none⟩) (.inl (by simp)) v0
  simp only [List.setIfInBounds_toArray, List.set_cons_zero] at h0
  have h1 := set_blk h0 1 v1
  have t := t.setCell (p := ⟨R, 1, none⟩) (.inl (by simp)) v1
  simp only [List.setIfInBounds_toArray, List.set_cons_zero, List.set_cons_succ] at h1
  have h2 := set_blk h1 2 v2
  have t := t.setCell (p := ⟨R, 2, none⟩) (.inl (by simp)) v2
  simp only [List.setIfInBounds_toArray, List.set_cons_zero, List.set_cons_succ] at h2
  have h3 := set_blk h2 3 v3
  have t := t.setCell (p := ⟨R, 3, none⟩) (.inl (by simp)) v3
  simp only [List.setIfInBounds_toArray, List.set_cons_zero, List.set_cons_succ] at h3
  have h4 := set_blk h3 4 v4
  have t := t.setCell (p := ⟨R, 4, none⟩) (.inl (by simp)) v4
  simp only [List.setIfInBounds_toArray, List.set_cons_zero, List.set_cons_succ] at h4
  have h5 := set_blk h4 5 v5
  have t := t.setCell (p := ⟨R, 5, none⟩) (.inl (by simp)) v5
  simp only [List.setIfInBounds_toArray, List.set_cons_zero, List.set_cons_succ] at h5
  have h6 := set_blk h5 6 v6
  have t := t.setCell (p := ⟨R, 6, none⟩) (.inl (by simp)) v6
  simp only [List.setIfInBounds_toArray, List.set_cons_zero, List.set_cons_succ] at h6
  exact ⟨h6, t⟩
theorem blk7 {w : World} {R : Nat} {t : TypeId} {a0 a1 a2 a3 a4 a5 a6 : Value} (h : w.heap[R]? = some (.cells #[a0, a1, a2, a3, a4, a5, a6] t (0, 0))) :
    w.cell? ⟨R, 0, none⟩ = some a0 ∧ w.cell? ⟨R, 1, none⟩ = some a1 ∧ w.cell? ⟨R, 2, none⟩ = some a2 ∧ w.cell? ⟨R, 3, none⟩ = some a3 ∧ w.cell? ⟨R, 4, none⟩ = some a4 ∧ w.cell? ⟨R, 5, none⟩ = some a5 ∧ w.cell? ⟨R, 6, none⟩ = some a6 ∧ w.frozen? ⟨R, 0, none⟩ = false ∧ w.frozen? ⟨R, 1, none⟩ = false ∧ w.frozen? ⟨R, 2, none⟩ = false ∧ w.frozen? ⟨R, 3, none⟩ = false ∧ w.frozen? ⟨R, 4, none⟩ = false ∧ w.frozen? ⟨R, 5, none⟩ = false ∧ w.frozen? ⟨R, 6, none⟩ = false :=
  ⟨cell_blk h rfl, cell_blk h rfl, cell_blk h rfl, cell_blk h rfl, cell_blk h rfl, cell_blk h rfl, cell_blk h rfl, by simp [World.frozen?, h], by simp [World.frozen?, h], by simp [World.frozen?, h], by simp [World.frozen?, h], by simp [World.frozen?, h], by simp [World.frozen?, h], by simp [World.frozen?, h]⟩
end Go.Proofs.Ytlkckkagoommaaa

/- expr.Expr.walk at Columns' closure: the names of an expression's columns, as they stand in it. For every expression. -/
namespace Go.Proofs.Ytlkckkagoommaaa
open Go.RowKit

/-- a text as one cell -/
def encS (s : ByteArray) : List Value := [.string s]
/-- old blocks below a base stay as they are -/
def Keep (base : Nat) (w w' : World) : Prop := ∃ fp, (∀ b ∈ fp, base ≤ b) ∧ Touch fp w w'
theorem Keep.refl (base : Nat) (w : World) : Keep base w w := ⟨[], by simp, Touch.refl _ _⟩
theorem Keep.trans {base : Nat} {w w1 w2 : World} (h : Keep base w w1) (h' : Keep base w1 w2) : Keep base w w2 := by
  obtain ⟨f1, k1, t1⟩ := h
  obtain ⟨f2, k2, t2⟩ := h'
  exact ⟨f1 ++ f2, fun b hb => (List.mem_append.1 hb).elim (k1 b) (k2 b), (t1.mono (fun b hb => .inl (List.mem_append.2 (.inl hb)))).trans t2 (fun b hb => .inl (List.mem_append.2 (.inr hb)))⟩
theorem Keep.of {base : Nat} {fp : List Nat} {w w' : World} (t : Touch fp w w') (h : ∀ b ∈ fp, base ≤ b) : Keep base w w' := ⟨fp, h, t⟩
theorem Keep.of0 {base : Nat} {w w' : World} (t : Touch [] w w') : Keep base w w' := ⟨[], by simp, t⟩
/-- what the closure has gathered -/
structure ColQ (w : World) (B : Nat) (A : Option Addr) (c : Nat) (ss : List ByteArray) : Prop where
  out : w.heap[B]? = some (.cells #[.slice A ss.length c] 73 (0, 0))
  own : OwnK 9 1 encS w A c ss
  ne : B ∉ fpo A
theorem ColQ.touch0 {w w' : World} {B : Nat} {A : Option Addr} {c : Nat} {ss : List ByteArray} (h : ColQ w B A c ss) (t : Touch [] w w') : ColQ w' B A c ss := ⟨t.blk h.out (by simp), h.own.touch0 t, h.ne⟩
/-- more has been gathered -/
def ColN (w : World) (B : Nat) (A : Option Addr) (ss : List ByteArray) (w' : World) : Prop := ∃ A' c', ColQ w' B A' c' ss ∧ (∀ b ∈ fpo A', b ∈ fpo A ∨ w.heap.size ≤ b) ∧ Touch (B :: fpo A) w w'
/-- the names of an expression's columns, as they stand -/
def namesX : (n : Nat) → TX n → List ByteArray
  | 0, _ => []
  | n + 1, (nd, args) => (if nd.kind = 1 then [nd.name] else []) ++ args.flatMap (namesX n)
theorem encS_one : ∀ x, ∀ u ∈ encS x, u.oneCell' = true := fun x u hu => by simp [encS] at hu; subst hu; rfl
theorem info_str : (Try.prog.info? 9).map (fun i => (i.zero, i.size, i.bytes)) = some (some (.string ByteArray.empty), 1, 16) := by kernel_rfl

set_option maxRecDepth 20000 in
set_option maxHeartbeats 800000 in
theorem cols1_any (x : XC) (B : Nat) (A : Option Addr) (c : Nat) (ss : List ByteArray) (w : World) (h : ColQ w B A c ss) (hl : ss.length < 1000000) :
    Calls Try.prog 48 #[x.val, .pointer (some ⟨B, 0, none⟩)] w fun e w' =>
      e = .returned (.bool true) ∧ ColN w B A (ss ++ if x.nd.kind = 1 then [x.nd.name] else []) w' := by
  obtain ⟨h2, h3, h4⟩ := h
  obtain ⟨⟨k, nm, ⟨vk, vn, vt⟩, op⟩, Ax, m, cx⟩ := x
  dsimp only [XC.val]
  have t0 := (Touch.refl [] w).alloc (.cells #[.int .i64 k, .string nm, .int .i64 vk, .int .i64 vn, .string vt, .string op, .slice Ax m cx] 33)
  have hB : w.cell? ⟨B, 0, none⟩ = some (.slice A ss.length c) := cell_blk h2 rfl
  have hlt : B < w.heap.size := World.block_lt_of_cell? w _ hB
  go_enter Try.func48, Try.ntmps48
  by_cases hk : k = 1
  · subst hk
    have hrow := RdK.one (enc := encS) (w.alloc (.cells #[.int .i64 1, .string nm, .int .i64 vk, .int .i64 vn, .string vt, .string op, .slice Ax m cx] 33)) 9 nm #[.string nm] rfl
    rw [World.size_alloc] at hrow
    go_wp2_with (at_builtin; refine stop ?_)
    refine go ?_
    refine wpList_appK rfl (.tmp 7) (.tmp 10) 73 rfl 9 _ 1 16 info_str Try.underlying73 rfl (by omega) (fun _ => rfl) encS_one A ss.length c ss rfl rfl ((h3.touch0 t0).touch0 ((Touch.refl [] _).alloc _)) (some ⟨_, 0, none⟩) 1 1 [nm] rfl rfl hrow (by omega) (by omega) ?_
    intro A' c' w' hown' t' hf'
    have hB' : w'.heap[B]? = some (.cells #[.slice A ss.length c] 73 (0, 0)) := t'.blk (((t0.alloc _).blk h2 (by simp))) h4
    have hbB := cell_blk hB' (i := 0) rfl
    have hfB : w'.frozen? ⟨B, 0, none⟩ = false := by simp [World.frozen?, hB']
    go_wp2_with fail
    go_ret
    have hs := set_blk hB' 0 (.slice A' (ss.length + 1) c')
    simp only [List.setIfInBounds_toArray, List.set_cons_zero] at hs
    have t1 := ((Touch.refl [B] w').setCell (p := ⟨B, 0, none⟩) (.inl (by simp)) (.slice A' (ss.length + 1) c'))
    have hnB : B ∉ fpo A' := fun hm => by
      rcases hf' B hm with q | q
      · exact h4 q
      · simp at q; omega
    refine ⟨rfl, A', c', ⟨?_, ?_, hnB⟩, fun b hb => ?_, ?_⟩
    · simpa using hs
    · refine OwnK.touch (by simpa using hown') t1 (fun b hb hm => ?_)
      obtain rfl : b = B := by simpa using hm
      exact hnB hb
    · rcases hf' b hb with q | q
      · exact .inl q
      · simp at q; right; omega
    · exact ((((t0.alloc _).mono (fp2 := B :: fpo A) (fun b hb => by simp at hb)).trans t' (fun b hb => .inl (by simp [hb]))).trans t1 (fun b hb => .inl (by simp at hb; simp [hb])))
  · go_wp2_with fail
    go_ret
    exact ⟨rfl, A, c, by simpa using (ColQ.touch0 ⟨h2, h3, h4⟩ t0), fun b hb => .inl hb, t0.mono (fun b hb => by simp at hb)⟩
end Go.Proofs.Ytlkckkagoommaaa

/- expr.Expr.walk at Columns' closure. For every expression that lies below a base. -/
namespace Go.Proofs.Ytlkckkagoommaaa
open Go.RowKit

theorem RdK.keep {α : Type} {enc : α → List Value} {w w' : World} {A : Option Addr} {xs : List α} {base : Nat} (h : RdK enc w A xs) (hA : ∀ b ∈ fpo A, b < base) (k : Keep base w w') : RdK enc w' A xs := by
  obtain ⟨fp, hf, t⟩ := k
  exact h.touch t (fun b hb hm => by have := hA b hb; have := hf b hm; omega)
theorem ExP.keep {enc : XC → List Value} {base n : Nat} {w w' : World} {x : XC} {e : TX n} (h : ExP enc (fun b => b < base) n w x e) (k : Keep base w w') : ExP enc (fun b => b < base) n w' x e := by
  obtain ⟨fp, hf, t⟩ := k
  exact h.touch t (fun b hb hm => by have := hf b hb; omega)
theorem ArgsP.keep {base n : Nat} {w w' : World} {A : Option Addr} {args : List (TX n)} (h : ArgsP xcE (fun b => b < base) n w A args) (hA : ∀ b ∈ fpo A, b < base) (k : Keep base w w') : ArgsP xcE (fun b => b < base) n w' A args := by
  obtain ⟨xs, h1, h2, h3⟩ := h
  exact ⟨xs, h1, h2.keep hA k, fun i a b => (h3 i a b).keep k⟩
theorem Keep.size {base : Nat} {w w' : World} (k : Keep base w w') : w.heap.size ≤ w'.heap.size := by obtain ⟨_, _, t⟩ := k; exact t.size
theorem names_len (n : Nat) : ∀ e : TX n, (namesX n e).length ≤ sizeX n e := by
  induction n with
  | zero => intro e; exact e.elim
  | succ n ih =>
    intro e
    obtain ⟨nd, args⟩ := e
    have h : ∀ l : List (TX n), (l.flatMap (namesX n)).length ≤ sumX n l := fun l => by
      induction l with
      | nil => simp
      | cons a l ihl =>
        have h1 := ih a
        have h2 : sumX n (a :: l) = sizeX n a + sumX n l := rfl
        rw [List.flatMap_cons, List.length_append, h2]; omega
    have h2 : sizeX (n + 1) (nd, args) = 1 + sumX n args := rfl
    have h3 := h args
    show ((if nd.kind = 1 then [nd.name] else []) ++ args.flatMap (namesX n)).length ≤ _
    rw [List.length_append, h2]
    have h4 : (if nd.kind = 1 then [nd.name] else []).length ≤ 1 := by split <;> simp
    omega

theorem ColN.trans {w w1 w2 : World} {B : Nat} {A A1 : Option Addr} {s2 : List ByteArray} (hn : ∀ b ∈ fpo A1, b ∈ fpo A ∨ w.heap.size ≤ b) (t : Touch (B :: fpo A) w w1) (h : ColN w1 B A1 s2 w2) : ColN w B A s2 w2 := by
  obtain ⟨A2, c2, hq, hn2, t2⟩ := h
  refine ⟨A2, c2, hq, fun b hb => ?_, t.trans t2 (fun b hb => ?_)⟩
  · rcases hn2 b hb with q | q
    · exact hn b q
    · exact .inr (Nat.le_trans t.size q)
  · rcases List.mem_cons.1 hb with rfl | hb
    · exact .inl (by simp)
    · rcases hn b hb with q | q
      · exact .inl (by simp [q])
      · exact .inr q

set_option maxRecDepth 20000 in
set_option maxHeartbeats 3200000 in
theorem walk_any (n : Nat) : ∀ (e : TX n) (x : XC) (base B : Nat) (A : Option Addr) (c : Nat) (ss : List ByteArray) (w : World), ExP xcE (fun b => b < base) n w x e → ColQ w B A c ss → base ≤ B → (∀ b ∈ fpo A, base ≤ b) → base ≤ w.heap.size → ss.length + sizeX n e ≤ 100000 →
    Calls Try.prog 47 #[x.val, .func (.func 48) #[] #[.pointer (some ⟨B, 0, none⟩)]] w fun r w' => r = .returned (.bool true) ∧ ColN w B A (ss ++ namesX n e) w' := by
  induction n with
  | zero => intro e; exact e.elim
  | succ n ih =>
    intro e x base B A0 c0 ss w hx hcol hB0 hA0 hbw hs
    obtain ⟨nd, args⟩ := e
    obtain ⟨h1, h2, hA, h3⟩ := hx
    have h3 : ArgsP xcE (fun b => b < base) n w x.A args := h3
    have hsum : ss.length + 1 + sumX n args ≤ 100000 := by have hs' : ss.length + (1 + sumX n args) ≤ 100000 := hs; omega
    have hlen := len_le_sum n args
    have htk := sum_take_le n args
    have hnm : namesX (n + 1) (nd, args) = (if nd.kind = 1 then [nd.name] else []) ++ args.flatMap (namesX n) := rfl
    have hc1 := fun w' (h : ColQ w' B A0 c0 ss) => cols1_any x B A0 c0 ss w' h (by omega)
    have hnd : x.nd = nd := h1
    rw [hnd] at hc1
    obtain ⟨s1, hs1⟩ : ∃ s1, s1 = ss ++ if nd.kind = 1 then [nd.name] else [] := ⟨_, rfl⟩
    rw [← hs1] at hc1
    have hs1l : s1.length ≤ ss.length + 1 := by
      have h4 : (if nd.kind = 1 then [nd.name] else []).length ≤ 1 := by split <;> simp
      rw [hs1, List.length_append]; omega
    have hnm2 : ss ++ namesX (n + 1) (nd, args) = s1 ++ args.flatMap (namesX n) := by rw [hnm, hs1, List.append_assoc]
    have hnl : ∀ j, ((args.take j).flatMap (namesX n)).length ≤ sumX n (args.take j) := fun j => by
      have := names_len (n + 1) (nd, args.take j)
      have h5 : namesX (n + 1) (nd, args.take j) = (if nd.kind = 1 then [nd.name] else []) ++ (args.take j).flatMap (namesX n) := rfl
      have h6 : ∀ l : List (TX n), (l.flatMap (namesX n)).length ≤ sumX n l := fun l => by
        induction l with
        | nil => simp
        | cons a l ihl =>
          have h1 := names_len n a
          have h2 : sumX n (a :: l) = sizeX n a + sumX n l := rfl
          rw [List.flatMap_cons, List.length_append, h2]; omega
      exact h6 _
    have Hc1 := Lib.hid hc1; have Hnm := Lib.hid hnm2; have Htk := Lib.hid htk; have Ih := Lib.hid ih; have Hnl := Lib.hid hnl
    have HB0 := Lib.hid hB0; have HA0 := Lib.hid hA0
    clear hc1 hnm hnm2 hs1 htk ih hs hnd h1 hnl hA0
    obtain ⟨⟨k, nm, ⟨vk, vn, vt⟩, op⟩, A, m, c⟩ := x
    dsimp only at h2 h3 hA
    subst h2
    dsimp only [XC.val] at Hc1 ⊢
    have t0 := (Touch.refl [] w).alloc (.cells #[.int .i64 k, .string nm, .int .i64 vk, .int .i64 vn, .string vt, .string op, .slice A args.length c] 33)
    have hnew := heap_alloc_new w (.cells #[.int .i64 k, .string nm, .int .i64 vk, .int .i64 vn, .string vt, .string op, .slice A args.length c] 33)
    obtain ⟨W, hW⟩ : ∃ W, W = w.alloc (.cells #[.int .i64 k, .string nm, .int .i64 vk, .int .i64 vn, .string vt, .string op, .slice A args.length c] 33) := ⟨_, rfl⟩
    have hWs : W.heap.size = w.heap.size + 1 := by rw [hW]; simp
    rw [← hW] at t0 hnew
    have hbx : w.heap.size ∉ B :: fpo A0 := fun hm => by
      rcases List.mem_cons.1 hm with e | e
      · have := (Array.getElem?_eq_some_iff.1 hcol.out).1; omega
      · have := hcol.own.lt _ e; omega
    have Hbx := Lib.hid hbx
    have Hcol := Lib.hid (hcol.touch0 t0)
    have HW := Lib.hid hW; have Hnew := Lib.hid hnew; have HWs := Lib.hid hWs
    have k0 := cell_blk hnew (i := 0) rfl; have k1 := cell_blk hnew (i := 1) rfl; have k2 := cell_blk hnew (i := 2) rfl; have k3 := cell_blk hnew (i := 3) rfl; have k4 := cell_blk hnew (i := 4) rfl; have k5 := cell_blk hnew (i := 5) rfl; have k6 := cell_blk hnew (i := 6) rfl
    clear hcol hbx hW hnew hWs
    go_enter Try.func47, Try.ntmps47
    go_wp2_with (with_reducible rw [← HW.out])
    try rw [← HW.out]
    refine (Hc1.out W Hcol.out).mono ?_
    rintro e w1 ⟨rfl, A1, c1, hq1, hn1, t1⟩
    clear k0 k1 k2 k3 k4 k5 k6
    have k6 := cell_blk (t1.blk Hnew.out Hbx.out) (i := 6) rfl
    have Hq1 := Lib.hid hq1; have Hn1 := Lib.hid hn1
    clear hq1 hn1
    go_wp2_with fail
    go_loopw [14] (fun i wr => ∃ (j : Nat) (A2 : Option Addr) (c2 : Nat), j ≤ args.length ∧ i = .int .i64 j ∧ Hid (ColQ wr B A2 c2 (s1 ++ (args.take j).flatMap (namesX n))) ∧ Hid (∀ b ∈ fpo A2, b ∈ fpo A0 ∨ W.heap.size ≤ b) ∧ Touch (B :: fpo A0) W wr) (fun i _ => args.length - (intOf i).toNat)
    case atStart => exact ⟨0, A1, c1, by omega, rfl, Lib.hid (by simpa using Hq1.out), Hn1, t1⟩
    case round =>
      obtain ⟨j, A2, c2, hj, rfl, hq2, hn2, ht⟩ := hrel
      have hge2 : ∀ b ∈ fpo A2, base ≤ b := fun b hb => by
        rcases hn2.out b hb with q | q
        · exact HA0.out b q
        · have := HWs.out; omega
      have hkeep : Keep base W wr := Keep.of ht (fun b hb => by
        rcases List.mem_cons.1 hb with rfl | hb
        · exact HB0.out
        · exact HA0.out b hb)
      have hkw : Keep base w wr := (Keep.of0 t0).trans hkeep
      by_cases hlt : j < args.length
      · obtain ⟨ad, b, off, y, rfl, hadd, hy, hcell⟩ := (ArgsP.keep (base := base) h3 hA hkw).at_ xcE_length j hlt
        have htj := Htk.out j
        have htj1 := Htk.out (j + 1)
        have hnlj := Hnl.out j
        have hsn := sumX_snoc n args j hlt
        have hfm : (args.take (j + 1)).flatMap (namesX n) = (args.take j).flatMap (namesX n) ++ namesX n args[j] := by
          rw [List.take_succ_eq_append_getElem hlt, List.flatMap_append]; simp
        obtain ⟨a, hae⟩ : ∃ a, a = args[j] := ⟨_, rfl⟩
        rw [← hae] at hy hsn hfm
        have ta := (Touch.refl [] wr).alloc (.cells #[.int .i64 y.nd.kind, .string y.nd.name, .int .i64 y.nd.v.kind, .int .i64 y.nd.v.num, .string y.nd.v.text, .string y.nd.op, .slice y.A y.n y.c] 33)
        have hc := Lib.hid (Ih.out a y base B A2 c2 (s1 ++ (args.take j).flatMap (namesX n)) _ (hy.touch0 ta) (hq2.out.touch0 ta) HB0.out hge2 (by have := hkw.size; have := ta.size; omega) (by rw [List.length_append]; omega))
        have q0 := hcell 0 _ rfl; have q1 := hcell 1 _ rfl; have q2 := hcell 2 _ rfl; have q3 := hcell 3 _ rfl; have q4 := hcell 4 _ rfl; have q5 := hcell 5 _ rfl; have q6 := hcell 6 _ rfl
        rw [Nat.add_zero] at q0
        have Hfm := Lib.hid hfm
        clear hsn hae hcell hfm htj htj1 hnlj hge2 hkeep hkw
        obtain ⟨⟨k2, nm2, ⟨vk2, vn2, vt2⟩, op2⟩, A3, m2, c3⟩ := y
        simp only [XC.val] at hc q0 q1 q2 q3 q4 q5 q6
        go_wp2_with fail
        refine hc.out.mono ?_
        rintro e w2 ⟨rfl, hcn⟩
        have hcn2 := ColN.trans hn2.out ht (show ColN wr B A2 _ w2 from ColN.trans (A := A2) (A1 := A2) (fun b hb => .inl hb) (ta.mono (fun b hb => by simp at hb)) hcn)
        obtain ⟨A4, c4, hq4, hn4, t4⟩ := hcn2
        go_wp2_with fail
        go_roundw
        case rel => exact ⟨j + 1, A4, c4, by omega, by go_num, Lib.hid (by rw [Hfm.out, ← List.append_assoc]; exact hq4), Lib.hid hn4, t4⟩
        case measure => simp [intOf]; omega
      · obtain rfl : j = args.length := by omega
        have hq3 := hq2.out
        rw [List.take_length, ← Hnm.out] at hq3
        have Hfin := Lib.hid (show ColN w B A0 (ss ++ namesX (n + 1) (nd, args)) wr from ⟨A2, c2, hq3, fun b hb => by
          rcases hn2.out b hb with q | q
          · exact .inl q
          · right; have := HWs.out; omega, (t0.mono (fun b hb => by simp at hb)).trans ht (fun b hb => .inl hb)⟩)
        clear hq3 hq2 hge2 hkeep hkw
        go_wp2_with fail
        go_ret
        exact ⟨rfl, Hfin.out⟩
end Go.Proofs.Ytlkckkagoommaaa
