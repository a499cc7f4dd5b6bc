/- Part 13 of the texts of this proof, one behind the other; each begins with its own sentence. No condition beyond those that its theorems state. -/
import Derived.Test.YtafoklilkdnepaaGreatDoorRu12
import Derived.Shelf.Small.Bits
import Derived.Shelf.Small.Strs
import Derived.Shelf.Small.Wraps
import Derived.Shelf.Strconv.Itoa0
import Derived.Shelf.Strconv.Itoa1
import Derived.Shelf.LaysM
import Derived.Shelf.Strconv.Itoa2
import Derived.Shelf.Strconv.Itoa3
import Derived.Shelf.Strings.Search1
import Derived.Shelf.Sort.Plain
import Derived.Shelf.Slices.Turned
import Derived.Shelf.Slices.Equal
import Derived.Shelf.Slices.CompactS
import Derived.Ground.Names2Prog
import Derived.Shelf.Slices.SearchI
import Derived.Shelf.Slices.Cells
import Derived.Shelf.Slices.In.SortNone
import Derived.Shelf.Slices.Empties2
import Derived.Test.YtafoklilkdnepaaGreatDoorProg
import Derived.Deep.RegionHeld3
/- A map of the calls' own from keys to rows: memory, and what it says. No program's function. -/
namespace Go.Proofs.YtafoklilkdnepaaGreatDoor
open Go.RowKit Go.Maps Go.ChangeMaps

/-- one key's rows, by their places -/
structure EN where
 key : List UInt8
 A : Option Addr
 c : Nat
 ix : List Nat
def EN.kv (e : EN) : Value × Value := (.string (S e.key), .slice e.A e.ix.length e.c)
def slAt (sl : List SL) (i : Nat) : SL := sl.getD i ⟨none, 0, 0⟩
/-- block b is a map from keys to rows of the calls' own -/
structure IdxAt (sl : List SL) (g0 : Nat) (w : World) (b : Nat) (es : List EN) : Prop where
 mp : MapAt Tryz.prog 193 w b (es.map EN.kv)
 own : ∀ e ∈ es, OwnK 33 1 slE w e.A e.c (e.ix.map (slAt sl))
 low : ∀ e ∈ es, ∀ a ∈ fpo e.A, g0 ≤ a ∧ a ≠ b
 apart : es.Pairwise fun e f => ∀ a ∈ fpo e.A, a ∉ fpo f.A
 base : g0 ≤ b
theorem key_law : Keyed Tryz.prog 193 := string_keyed Tryz.underlying193
theorem key_of (l : List UInt8) (h : l.length ≤ 1000000000) : keyOf Tryz.prog 193 (.string (S l)) = some (.string (S l).data.toList) :=
 Go.WideMaps.keyOf_string_mk Tryz.underlying193 (s := S l) (by rw [S_size]; unfold maxLen; omega)
theorem IdxAt.touch0 {sl : List SL} {g0 : Nat} {w w' : World} {b : Nat} {es : List EN} (h : IdxAt sl g0 w b es) (ht : Touch [] w w') : IdxAt sl g0 w' b es :=
 ⟨h.mp.touch ht (by simp), fun e he => (h.own e he).touch0 ht, h.low, h.apart, h.base⟩
theorem IdxAt.made (sl : List SL) (w : World) : IdxAt sl w.heap.size (w.alloc (.map #[] 0)) w.heap.size [] :=
 ⟨MapAt.made _, by simp, by simp, .nil, Nat.le_refl _⟩
theorem kv_ne {es : List EN} {K : List UInt8} (h : ∀ e ∈ es, e.key ≠ K) : ∀ p ∈ es.map EN.kv, p.1 ≠ Value.string (S K) := by
 intro p hp e
 obtain ⟨x, hx, rfl⟩ := List.mem_map.1 hp
 have e : Value.string (S x.key) = Value.string (S K) := e
 exact h x hx (S_inj (by injection e))
theorem zeroRows (w : World) : (zeroValue 25).run Tryz.prog w = .ok (.slice none 0 0) w := by kernel_rfl
/-- nothing stands under a key -/
theorem IdxAt.miss {sl : List SL} {g0 : Nat} {w : World} {b : Nat} {es : List EN} (h : IdxAt sl g0 w b es) (K : List UInt8) (hK : K.length ≤ 1000000000) (hn : ∀ e ∈ es, e.key ≠ K) (c : Bool) :
  (Instr.lookup 191 (.map (some b)) (.string (S K)) c).run Tryz.prog w = .ok (if c then .tuple #[.slice none 0 0, .bool false] else .slice none 0 0) w :=
 h.mp.miss key_law Tryz.underlying191 (key_of K hK) (kv_ne hn) (.slice none 0 0) (zeroRows w) c
theorem IdxAt.hit {sl : List SL} {g0 : Nat} {w : World} {b : Nat} {es : List EN} (h : IdxAt sl g0 w b es) (e : EN) (he : e ∈ es) (hK : e.key.length ≤ 1000000000) (c : Bool) :
  (Instr.lookup 191 (.map (some b)) (.string (S e.key)) c).run Tryz.prog w = .ok (if c then .tuple #[.slice e.A e.ix.length e.c, .bool true] else .slice e.A e.ix.length e.c) w :=
 h.mp.hit key_law Tryz.underlying191 (key_of e.key hK) (List.mem_map.2 ⟨e, he, rfl⟩) c
theorem touch_b {w w' : World} {b _g0 : Nat} (ht : Touch [b] w w') : ∀ x, x ≠ b → ∀ {o : Obj}, w.heap[x]? = some o → w'.heap[x]? = some o := fun x hx o ho => ht.blk ho (by simp [hx])
/-- the first row of a key -/
theorem IdxAt.put_new {sl : List SL} {g0 : Nat} {w w' : World} {b : Nat} {es : List EN} (h : IdxAt sl g0 w b es) (K : List UInt8) (hK : K.length ≤ 1000000000) (hn : ∀ e ∈ es, e.key ≠ K) (i : Nat) (A' : Option Addr) (c' : Nat)
  (hown : OwnK 33 1 slE w' A' c' [slAt sl i]) (ht : Touch [] w w') (hf : ∀ a ∈ fpo A', w.heap.size ≤ a) (hg : g0 ≤ w.heap.size) :
  ∃ w'', (Instr.mapUpdate 191 (.map (some b)) (.string (S K)) (.slice A' 1 c')).run Tryz.prog w' = .ok () w'' ∧ IdxAt sl g0 w'' b (es ++ [⟨K, A', c', [i]⟩]) ∧ Touch [b] w' w'' := by
 obtain ⟨w'', hrun, hm, t2⟩ := (h.mp.touch ht (by simp)).put_new key_law Tryz.underlying191 (key_of K hK) (kv_ne hn) (.slice A' 1 c')
 have hbl := h.mp.lt
 have hnew : ∀ a ∈ fpo A', a ≠ b := fun a ha e => by have := hf a ha; omega
 refine ⟨w'', hrun, ⟨by rw [List.map_append]; exact hm, fun e he => ?_, fun e he a ha => ?_, ?_, h.base⟩, t2⟩
 ·rcases List.mem_append.1 he with q | q
  ·exact ((h.own e q).touch0 ht).touch t2 (fun a ha hm => (h.low e q a ha).2 (by simpa using hm))
  ·simp only [List.mem_singleton] at q
   subst q
   exact hown.touch t2 (fun a ha hm => hnew a ha (by simpa using hm))
 ·rcases List.mem_append.1 he with q | q
  ·exact h.low e q a ha
  ·simp only [List.mem_singleton] at q
   subst q
   exact ⟨by have := hf a ha; omega, hnew a ha⟩
 ·rw [List.pairwise_append]
  refine ⟨h.apart, by simp, fun e he f hf' a ha hm => ?_⟩
  simp only [List.mem_singleton] at hf'
  subst hf'
  have := (h.own e he).lt a ha
  have := hf a hm
  omega
/-- one more row of a key -/
theorem IdxAt.put_old {sl : List SL} {g0 : Nat} {w w' : World} {b : Nat} {l1 l2 : List EN} {e0 : EN} (h : IdxAt sl g0 w b (l1 ++ e0 :: l2)) (hK : e0.key.length ≤ 1000000000) (i : Nat) (A' : Option Addr) (c' : Nat)
  (hown : OwnK 33 1 slE w' A' c' ((e0.ix ++ [i]).map (slAt sl))) (ht : Touch (fpo e0.A) w w') (hf : ∀ a ∈ fpo A', a ∈ fpo e0.A ∨ w.heap.size ≤ a) (hg : g0 ≤ w.heap.size) :
  ∃ w'', (Instr.mapUpdate 191 (.map (some b)) (.string (S e0.key)) (.slice A' (e0.ix.length + 1) c')).run Tryz.prog w' = .ok () w'' ∧ IdxAt sl g0 w'' b (l1 ++ ⟨e0.key, A', c', e0.ix ++ [i]⟩ :: l2) ∧ Touch [b] w' w'' := by
 have hm0 := h.mp
 rw [List.map_append, List.map_cons] at hm0
 have h0m : e0 ∈ l1 ++ e0 :: l2 := by simp
 have hb0 : b ∉ fpo e0.A := fun q => (h.low e0 h0m b q).2 rfl
 obtain ⟨w'', hrun, hm, t2⟩ := (hm0.touch ht hb0).put_old key_law Tryz.underlying191 (key_of e0.key hK) (.slice A' (e0.ix.length + 1) c')
 have hbl := h.mp.lt
 have hnew : ∀ a ∈ fpo A', a ≠ b := fun a ha e => by
  rcases hf a ha with q | q
  ·exact hb0 (e ▸ q)
  ·omega
 have hap := h.apart
 rw [List.pairwise_append, List.pairwise_cons] at hap
 have hoth : ∀ e, e ∈ l1 ∨ e ∈ l2 → ∀ a ∈ fpo e.A, a ∉ fpo e0.A := fun e he a ha hm => by
  rcases he with q | q
  ·exact hap.2.2 e q e0 (by simp) a ha hm
  ·exact hap.2.1.1 e q a hm ha
 have hmem : ∀ e, e ∈ l1 ∨ e ∈ l2 → e ∈ l1 ++ e0 :: l2 := fun e he => by rcases he with q | q <;> simp [q]
 have hothn : ∀ e, e ∈ l1 ∨ e ∈ l2 → ∀ a ∈ fpo e.A, a ∉ fpo A' := fun e he a ha hm => by
  rcases hf a hm with q | q
  ·exact hoth e he a ha q
  ·have := (h.own e (hmem e he)).lt a ha; omega
 have hsplit : ∀ e, e ∈ l1 ++ (⟨e0.key, A', c', e0.ix ++ [i]⟩ : EN) :: l2 → (e ∈ l1 ∨ e ∈ l2) ∨ e = ⟨e0.key, A', c', e0.ix ++ [i]⟩ := fun e he => by
  rcases List.mem_append.1 he with q | q
  ·exact .inl (.inl q)
  ·rcases List.mem_cons.1 q with q | q
   ·exact .inr q
   ·exact .inl (.inr q)
 refine ⟨w'', hrun, ⟨?_, fun e he => ?_, fun e he a ha => ?_, ?_, h.base⟩, t2⟩
 ·rw [List.map_append, List.map_cons]
  have e : (EN.kv ⟨e0.key, A', c', e0.ix ++ [i]⟩) = (Value.string (S e0.key), Value.slice A' (e0.ix.length + 1) c') := by
   unfold EN.kv; simp
  rw [e]; exact hm
 ·rcases hsplit e he with q | rfl
  ·exact ((h.own e (hmem e q)).touch ht (hoth e q)).touch t2 (fun a ha hm => (h.low e (hmem e q) a ha).2 (by simpa using hm))
  ·exact hown.touch t2 (fun a ha hm => hnew a ha (by simpa using hm))
 ·rcases hsplit e he with q | rfl
  ·exact h.low e (hmem e q) a ha
  ·refine ⟨?_, hnew a ha⟩
   rcases hf a ha with q | q
   ·exact (h.low e0 h0m a q).1
   ·omega
 ·rw [List.pairwise_append, List.pairwise_cons]
  refine ⟨hap.1, ⟨fun f hf' a ha hm => hothn f (.inr hf') a hm ha, hap.2.1.2⟩, fun e he f hf' a ha hm => ?_⟩
  rcases List.mem_cons.1 hf' with rfl | q
  ·exact hothn e (.inl he) a ha hm
  ·exact hap.2.2 e he f (List.mem_cons_of_mem _ q) a ha hm

/-- the places of a key, as far as k -/
def selK (okI : Nat → Bool) (keyI : Nat → List UInt8) (k : Nat) (K : List UInt8) : List Nat := (List.range k).filter fun i => okI i && decide (keyI i = K)
theorem selK_succ (okI : Nat → Bool) (keyI : Nat → List UInt8) (k : Nat) (K : List UInt8) : selK okI keyI (k + 1) K = selK okI keyI k K ++ if (okI k && decide (keyI k = K)) = true then [k] else [] := by
 unfold selK
 rw [List.range_succ, List.filter_append]
 congr 1
 by_cases h : (okI k && decide (keyI k = K)) = true
 ·rw [if_pos h, List.filter_cons, if_pos h]; rfl
 ·rw [if_neg h, List.filter_cons, if_neg h]; rfl
structure IdxIs (okI : Nat → Bool) (keyI : Nat → List UInt8) (k : Nat) (es : List EN) : Prop where
 ix : ∀ e ∈ es, e.ix = selK okI keyI k e.key
 all : ∀ i, i < k → okI i = true → ∃ e ∈ es, e.key = keyI i
 ne : es.Pairwise fun e f => e.key ≠ f.key
 some : ∀ e ∈ es, e.ix ≠ []
theorem IdxIs.zero (okI : Nat → Bool) (keyI : Nat → List UInt8) : IdxIs okI keyI 0 [] := ⟨by simp, fun i h => absurd h (by omega), .nil, by simp⟩
theorem IdxIs.skip {okI : Nat → Bool} {keyI : Nat → List UInt8} {k : Nat} {es : List EN} (h : IdxIs okI keyI k es) (hk : okI k = false) : IdxIs okI keyI (k + 1) es :=
 ⟨fun e he => by rw [selK_succ, hk]; simpa using h.ix e he, fun i hi ho => by
  by_cases e : i = k
  ·subst e; rw [hk] at ho; cases ho
  ·exact h.all i (by omega) ho, h.ne, h.some⟩
theorem IdxIs.none_ {okI : Nat → Bool} {keyI : Nat → List UInt8} {k : Nat} {es : List EN} (h : IdxIs okI keyI k es) {K : List UInt8} (hn : ∀ e ∈ es, e.key ≠ K) : selK okI keyI k K = [] := by
 unfold selK
 rw [List.filter_eq_nil_iff]
 intro i hi hp
 rw [Bool.and_eq_true_iff] at hp
 obtain ⟨e, he, hk⟩ := h.all i (List.mem_range.1 hi) hp.1
 exact hn e he (hk.trans (of_decide_eq_true hp.2))
theorem IdxIs.put_new {okI : Nat → Bool} {keyI : Nat → List UInt8} {k : Nat} {es : List EN} (h : IdxIs okI keyI k es) (hk : okI k = true) (hn : ∀ e ∈ es, e.key ≠ keyI k) (A : Option Addr) (c : Nat) : IdxIs okI keyI (k + 1) (es ++ [⟨keyI k, A, c, [k]⟩]) := by
 refine ⟨fun e he => ?_, fun i hi ho => ?_, ?_, fun e he => by
  rcases List.mem_append.1 he with q | q
  ·exact h.some e q
  ·simp only [List.mem_singleton] at q
   subst q; simp⟩
 ·rw [selK_succ, hk]
  rcases List.mem_append.1 he with q | q
  ·have : ¬ keyI k = e.key := fun z => hn e q z.symm
   simp [this, h.ix e q]
  ·simp only [List.mem_singleton] at q
   subst q
   dsimp only
   rw [h.none_ hn]; simp
 ·by_cases e : i = k
  ·subst e; exact ⟨⟨keyI i, A, c, [i]⟩, by simp, rfl⟩
  ·obtain ⟨x, hx, hy⟩ := h.all i (by omega) ho
   exact ⟨x, by simp [hx], hy⟩
 ·rw [List.pairwise_append]
  refine ⟨h.ne, by simp, fun e he f hf => ?_⟩
  simp only [List.mem_singleton] at hf
  subst hf
  exact hn e he
theorem IdxIs.put_old {okI : Nat → Bool} {keyI : Nat → List UInt8} {k : Nat} {l1 l2 : List EN} {e0 : EN} (h : IdxIs okI keyI k (l1 ++ e0 :: l2)) (hk : okI k = true) (he0 : e0.key = keyI k) (A : Option Addr) (c : Nat) : IdxIs okI keyI (k + 1) (l1 ++ ⟨e0.key, A, c, e0.ix ++ [k]⟩ :: l2) := by
 have hne := h.ne
 rw [List.pairwise_append, List.pairwise_cons] at hne
 have hoth : ∀ e, e ∈ l1 ∨ e ∈ l2 → e.key ≠ e0.key := fun e he => by
  rcases he with q | q
  ·exact hne.2.2 e q e0 (by simp)
  ·exact fun z => hne.2.1.1 e q z.symm
 refine ⟨fun e he => ?_, fun i hi ho => ?_, ?_, fun e he => by
  rcases List.mem_append.1 he with q | q
  ·exact h.some e (by simp [q])
  ·rcases List.mem_cons.1 q with rfl | q
   ·simp
   ·exact h.some e (by simp [q])⟩
 ·rw [selK_succ, hk]
  have hcase : (e ∈ l1 ∨ e ∈ l2) ∨ e = ⟨e0.key, A, c, e0.ix ++ [k]⟩ := by
   rcases List.mem_append.1 he with q | q
   ·exact .inl (.inl q)
   ·rcases List.mem_cons.1 q with q | q
    ·exact .inr q
    ·exact .inl (.inr q)
  rcases hcase with q | rfl
  ·have h1 : ¬ keyI k = e.key := fun z => hoth e q (z.symm.trans he0.symm)
   have h2 : e ∈ l1 ++ e0 :: l2 := by rcases q with q | q <;> simp [q]
   simp [h1, h.ix e h2]
  ·dsimp only
   rw [← h.ix e0 (by simp), he0]; simp
 ·by_cases e : i = k
  ·subst e; exact ⟨⟨e0.key, A, c, e0.ix ++ [i]⟩, by simp, he0⟩
  ·obtain ⟨x, hx, hy⟩ := h.all i (by omega) ho
   rcases List.mem_append.1 hx with q | q
   ·exact ⟨x, by simp [q], hy⟩
   ·rcases List.mem_cons.1 q with rfl | q
    ·exact ⟨⟨x.key, A, c, x.ix ++ [k]⟩, by simp, hy⟩
    ·exact ⟨x, by simp [q], hy⟩
 ·rw [List.pairwise_append, List.pairwise_cons]
  refine ⟨hne.1, ⟨fun f hf => hne.2.1.1 f hf, hne.2.1.2⟩, fun e he f hf => ?_⟩
  rcases List.mem_cons.1 hf with rfl | q
  ·exact hne.2.2 e he e0 (by simp)
  ·exact hne.2.2 e he f (List.mem_cons_of_mem _ q)
theorem SlsAt.pick {w : World} {sl : List SL} {rows : List (List VD)} (h : SlsAt w sl rows) (ix : List Nat) (hix : ∀ i ∈ ix, i < rows.length) : SlsAt w (ix.map (slAt sl)) (ix.map fun i => rows.getD i []) := by
 refine ⟨by simp, fun i a b => ?_⟩
 have hi : i < ix.length := by simpa using a
 have h2 := hix _ (List.getElem_mem hi)
 have h1 : ix[i] < sl.length := by rw [h.1]; exact h2
 have := h.2 ix[i] h1 h2
 simp only [List.getElem_map, slAt]
 simpa [h1, h2] using this
theorem selK_lt {okI : Nat → Bool} {keyI : Nat → List UInt8} {k : Nat} {K : List UInt8} : ∀ i ∈ selK okI keyI k K, i < k := fun _i hi => List.mem_range.1 (List.mem_filter.1 hi).1
end Go.Proofs.YtafoklilkdnepaaGreatDoor

/- The contracts of Go library functions at this translation, laid in plain words by the tool of the kit; no condition. -/
namespace Go.Proofs
open Go.Shelf
def Tryz.lays125_ren : Go.Shelf.Ren := ⟨fun | 125 => 85 | 128 => 124 | 129 => 125 | n => n, fun | 46 => 149 | 3 => 3 | 51 => 182 | 53 => 184 | 4 => 4 | 5 => 5 | 9 => 9 | n => n, fun | n => n⟩
theorem Tryz.lays125 : Go.Proofs.Lays.n125 Tryz.prog Tryz.lays125_ren := {
 mixed := by kernel_rfl
 f125 := Tryz.func85.trans (congrArg some (by kernel_rfl))
 f128 := Tryz.func124.trans (congrArg some (by kernel_rfl))
 f129 := Tryz.func125.trans (congrArg some (by kernel_rfl))
 t3 := Tryz.underlying3
 a3 := Tryz.isAgg3
 z3 := Tryz.sizeOf3
 v3 := Tryz.zeroValue3
 t4 := Tryz.underlying4
 a4 := Tryz.isAgg4
 z4 := Tryz.sizeOf4
 v4 := Tryz.zeroValue4
 t5 := Tryz.underlying5
 a5 := Tryz.isAgg5
 z5 := Tryz.sizeOf5
 v5 := Tryz.zeroValue5
 t9 := Tryz.underlying9
 a9 := Tryz.isAgg9
 z9 := Tryz.sizeOf9
 v9 := Tryz.zeroValue9
 t46 := Tryz.underlying149
 a46 := Tryz.isAgg149
 z46 := Tryz.sizeOf149
 v46 := Tryz.zeroValue149
 t51 := Tryz.underlying182
 a51 := Tryz.isAgg182
 z51 := Tryz.sizeOf182
 v51 := Tryz.zeroValue182
 t53 := Tryz.underlying184
 a53 := Tryz.isAgg184
 z53 := Tryz.sizeOf184
 v53 := Tryz.zeroValue184 }
/-- bits.Len: "Len returns the minimum number of bits required to represent x; the result is 0 for x == 0.": IT RETURNS 'Lib.bitLen x'; the world is as it was. (A uint has 64 bits in the model.) ITS CALLEE bits.Len64 IS MET BY ITS OWN CONTRACT OFF THE SHELF (lay that first). (LAID: no walk: one application.) -/
theorem Tryz.bits_Len (x : Int) (w : World) (h0 : 0 ≤ x) (h1 : x ≤ 18446744073709551615) :
  Calls Tryz.prog 85 #[.int .u64 x] w fun e w' => e = .returned (.int .i64 (Lib.bitLen x.toNat)) ∧ w' = w := Any.bits_Len Tryz.lays125 x w h0 h1
def Tryz.laysM171_ren : Go.Shelf.Ren := ⟨fun | 171 => 193 | 243 => 207 | 246 => 213 | 283 => 215 | 284 => 216 | 285 => 217 | 286 => 218 | 129 => 125 | 317 => 219 | 318 => 220 | 319 => 221 | 320 => 222 | 337 => 223 | 338 => 224 | n => n, fun | 3 => 3 | 9 => 9 | 2 => 2 | 4 => 4 | 171 => 262 | 0 => 0 | 53 => 184 | 37 => 165 | 5 => 5 | 173 => 264 | 212 => 267 | 51 => 182 | 20 => 20 | 213 => 268 | 46 => 149 | 232 => 269 | 233 => 270 | n => n, fun | 17 => 2 | 18 => 3 | 19 => 4 | n => n⟩
theorem Tryz.laysM171 : Go.Proofs.LaysM.n171 Tryz.prog Tryz.laysM171_ren := {
 mixed := by kernel_rfl
 f129 := Tryz.func125.trans (congrArg some (by kernel_rfl))
 f171 := Tryz.func193.trans (congrArg some (by kernel_rfl))
 f243 := Tryz.func207.trans (congrArg some (by kernel_rfl))
 f246 := Tryz.func213.trans (congrArg some (by kernel_rfl))
 f283 := Tryz.func215.trans (congrArg some (by kernel_rfl))
 f284 := Tryz.func216.trans (congrArg some (by kernel_rfl))
 f285 := Tryz.func217.trans (congrArg some (by kernel_rfl))
 f286 := Tryz.func218.trans (congrArg some (by kernel_rfl))
 f317 := Tryz.func219.trans (congrArg some (by kernel_rfl))
 f318 := Tryz.func220.trans (congrArg some (by kernel_rfl))
 f319 := Tryz.func221.trans (congrArg some (by kernel_rfl))
 f320 := Tryz.func222.trans (congrArg some (by kernel_rfl))
 f337 := Tryz.func223.trans (congrArg some (by kernel_rfl))
 f338 := Tryz.func224.trans (congrArg some (by kernel_rfl))
 t0 := Tryz.underlying0
 a0 := Tryz.isAgg0
 z0 := Tryz.sizeOf0
 v0 := Tryz.zeroValue0
 t2 := Tryz.underlying2
 a2 := Tryz.isAgg2
 z2 := Tryz.sizeOf2
 v2 := Tryz.zeroValue2
 t3 := Tryz.underlying3
 a3 := Tryz.isAgg3
 z3 := Tryz.sizeOf3
 v3 := Tryz.zeroValue3
 t4 := Tryz.underlying4
 a4 := Tryz.isAgg4
 z4 := Tryz.sizeOf4
 v4 := Tryz.zeroValue4
 t5 := Tryz.underlying5
 a5 := Tryz.isAgg5
 z5 := Tryz.sizeOf5
 v5 := Tryz.zeroValue5
 t9 := Tryz.underlying9
 a9 := Tryz.isAgg9
 z9 := Tryz.sizeOf9
 v9 := Tryz.zeroValue9
 t20 := Tryz.underlying20
 a20 := Tryz.isAgg20
 z20 := Tryz.sizeOf20
 v20 := Tryz.zeroValue20
 t37 := Tryz.underlying165
 a37 := Tryz.isAgg165
 z37 := Tryz.sizeOf165
 v37 := Tryz.zeroValue165
 t46 := Tryz.underlying149
 a46 := Tryz.isAgg149
 z46 := Tryz.sizeOf149
 v46 := Tryz.zeroValue149
 t51 := Tryz.underlying182
 a51 := Tryz.isAgg182
 z51 := Tryz.sizeOf182
 v51 := Tryz.zeroValue182
 t53 := Tryz.underlying184
 a53 := Tryz.isAgg184
 z53 := Tryz.sizeOf184
 v53 := Tryz.zeroValue184
 t171 := Tryz.underlying262
 a171 := Tryz.isAgg262
 z171 := Tryz.sizeOf262
 v171 := Tryz.zeroValue262
 t173 := Tryz.underlying264
 a173 := Tryz.isAgg264
 z173 := Tryz.sizeOf264
 v173 := Tryz.zeroValue264
 t212 := Tryz.underlying267
 a212 := Tryz.isAgg267
 z212 := Tryz.sizeOf267
 v212 := Tryz.zeroValue267
 t213 := Tryz.underlying268
 a213 := Tryz.isAgg268
 z213 := Tryz.sizeOf268
 t232 := Tryz.underlying269
 a232 := Tryz.isAgg269
 z232 := Tryz.sizeOf269
 v232 := Tryz.zeroValue269
 t233 := Tryz.underlying270
 a233 := Tryz.isAgg270
 z233 := Tryz.sizeOf270
 v233 := Tryz.zeroValue270
 g17 := by kernel_rfl
 g18 := by kernel_rfl
 g19 := by kernel_rfl
 i0 := by kernel_rfl
 i2 := by kernel_rfl
 i3 := by kernel_rfl
 i4 := by kernel_rfl
 i5 := by kernel_rfl
 i9 := by kernel_rfl
 i20 := by kernel_rfl
 i37 := by kernel_rfl
 i46 := by kernel_rfl
 i51 := by kernel_rfl
 i53 := by kernel_rfl
 i171 := by kernel_rfl
 i173 := by kernel_rfl
 i212 := by kernel_rfl
 i232 := by kernel_rfl
 i233 := by kernel_rfl
 m17 := by kernel_rfl
 m18 := by kernel_rfl
 m19 := by kernel_rfl }
open Go.RowKit Go.Sort Go.Lib in
/-- strconv.Itoa: "Itoa is equivalent to FormatInt(int64(i), 10).": i's DECIMAL NUMERAL ('Lib.itoa': a '-' where i is negative, then the digits), FOR EVERY int. The world behind the call: the world before it, new blocks behind the heap (the library's 'var a [24]byte'), draws. (LAID: no walk: one application.) -/
theorem Tryz.strconv_Itoa (n : Int) (h0 : -9223372036854775808 ≤ n) (h1 : n ≤ 9223372036854775807) (w : World) (htab : Lib.TabIs Tryz.prog w "internal/strconv.uint64pow10" .u64 Lib.pow10Tab) :
  Calls Tryz.prog 193 #[.int .i64 n] w fun e w' => e = .returned (.string ⟨(Lib.itoa n).toArray⟩) ∧ ∃ k os, w' = grow (w.drewN k) os := Any.strconv_Itoa Tryz.laysM171 n h0 h1 w htab
def Tryz.lays171_ren : Go.Shelf.Ren := ⟨fun | 171 => 193 | 243 => 207 | 246 => 213 | 283 => 215 | 284 => 216 | 285 => 217 | 286 => 218 | 129 => 125 | 317 => 219 | 318 => 220 | 319 => 221 | 320 => 222 | 337 => 223 | 338 => 224 | n => n, fun | 3 => 3 | 9 => 9 | 2 => 2 | 4 => 4 | 171 => 262 | 0 => 0 | 53 => 184 | 37 => 165 | 5 => 5 | 173 => 264 | 212 => 267 | 51 => 182 | 20 => 20 | 213 => 268 | 46 => 149 | 232 => 269 | 233 => 270 | n => n, fun | 17 => 2 | 18 => 3 | 19 => 4 | n => n⟩
theorem Tryz.lays171 : Go.Proofs.Lays.n171 Tryz.prog Tryz.lays171_ren := {
 mixed := by kernel_rfl
 f129 := Tryz.func125.trans (congrArg some (by kernel_rfl))
 f171 := Tryz.func193.trans (congrArg some (by kernel_rfl))
 f243 := Tryz.func207.trans (congrArg some (by kernel_rfl))
 f246 := Tryz.func213.trans (congrArg some (by kernel_rfl))
 f283 := Tryz.func215.trans (congrArg some (by kernel_rfl))
 f284 := Tryz.func216.trans (congrArg some (by kernel_rfl))
 f285 := Tryz.func217.trans (congrArg some (by kernel_rfl))
 f286 := Tryz.func218.trans (congrArg some (by kernel_rfl))
 f317 := Tryz.func219.trans (congrArg some (by kernel_rfl))
 f318 := Tryz.func220.trans (congrArg some (by kernel_rfl))
 f319 := Tryz.func221.trans (congrArg some (by kernel_rfl))
 f320 := Tryz.func222.trans (congrArg some (by kernel_rfl))
 f337 := Tryz.func223.trans (congrArg some (by kernel_rfl))
 f338 := Tryz.func224.trans (congrArg some (by kernel_rfl))
 t0 := Tryz.underlying0
 a0 := Tryz.isAgg0
 z0 := Tryz.sizeOf0
 v0 := Tryz.zeroValue0
 t2 := Tryz.underlying2
 a2 := Tryz.isAgg2
 z2 := Tryz.sizeOf2
 v2 := Tryz.zeroValue2
 t3 := Tryz.underlying3
 a3 := Tryz.isAgg3
 z3 := Tryz.sizeOf3
 v3 := Tryz.zeroValue3
 t4 := Tryz.underlying4
 a4 := Tryz.isAgg4
 z4 := Tryz.sizeOf4
 v4 := Tryz.zeroValue4
 t5 := Tryz.underlying5
 a5 := Tryz.isAgg5
 z5 := Tryz.sizeOf5
 v5 := Tryz.zeroValue5
 t9 := Tryz.underlying9
 a9 := Tryz.isAgg9
 z9 := Tryz.sizeOf9
 v9 := Tryz.zeroValue9
 t20 := Tryz.underlying20
 a20 := Tryz.isAgg20
 z20 := Tryz.sizeOf20
 v20 := Tryz.zeroValue20
 t37 := Tryz.underlying165
 a37 := Tryz.isAgg165
 z37 := Tryz.sizeOf165
 v37 := Tryz.zeroValue165
 t46 := Tryz.underlying149
 a46 := Tryz.isAgg149
 z46 := Tryz.sizeOf149
 v46 := Tryz.zeroValue149
 t51 := Tryz.underlying182
 a51 := Tryz.isAgg182
 z51 := Tryz.sizeOf182
 v51 := Tryz.zeroValue182
 t53 := Tryz.underlying184
 a53 := Tryz.isAgg184
 z53 := Tryz.sizeOf184
 v53 := Tryz.zeroValue184
 t171 := Tryz.underlying262
 a171 := Tryz.isAgg262
 z171 := Tryz.sizeOf262
 v171 := Tryz.zeroValue262
 t173 := Tryz.underlying264
 a173 := Tryz.isAgg264
 z173 := Tryz.sizeOf264
 v173 := Tryz.zeroValue264
 t212 := Tryz.underlying267
 a212 := Tryz.isAgg267
 z212 := Tryz.sizeOf267
 v212 := Tryz.zeroValue267
 t213 := Tryz.underlying268
 a213 := Tryz.isAgg268
 z213 := Tryz.sizeOf268
 t232 := Tryz.underlying269
 a232 := Tryz.isAgg269
 z232 := Tryz.sizeOf269
 v232 := Tryz.zeroValue269
 t233 := Tryz.underlying270
 a233 := Tryz.isAgg270
 z233 := Tryz.sizeOf270
 v233 := Tryz.zeroValue270
 g17 := by kernel_rfl
 g18 := by kernel_rfl
 g19 := by kernel_rfl }
open Go.RowKit Go.Sort Go.Lib in
/-- THE ROAD WITHOUT THE TABLE: 0 <= i < 100: NO PREMISE ON THE WORLD, AND THE WORLD IS AS IT WAS: a row that keeps its argument in that range need list no table ('laid = []'). (LAID: no walk: one application.) -/
theorem Tryz.strconv_Itoa_small (i : Nat) (hi : i < 100) (w : World) :
  Calls Tryz.prog 193 #[.int .i64 i] w fun e w' => e = .returned (.string ⟨(Lib.decDigits i).toArray⟩) ∧ w' = w := Any.strconv_Itoa_small Tryz.lays171 i hi w
end Go.Proofs

/- relop.Plan.group over an empty table by no columns with one count: one row. relop.Agg.of without a column. -/
namespace Go.Proofs.YtafoklilkdnepaaGreatDoor
open Go.RowKit Go.Maps Go.ChangeMaps

theorem wpList_here {P : Program} {ops : Array Oper} {Q : Exit → Act → World → Prop} {rest : List Oper} {a : Act} {w : World} (h : ∀ W, W = w → wpList P ops Q rest a W) : wpList P ops Q rest a w := h w rfl
set_option maxRecDepth 20000 in
set_option maxHeartbeats 1600000 in
/-- how many rows -/
theorem of_rows (op col nm : ByteArray) (h5 : col.toList.isEmpty = true) (SA : Option Addr) (n c : Nat) (RA : Option Addr) (m rc : Nat) (_hm : m ≤ 1000000) (w : World) :
  Calls Tryz.prog 139 #[.agg #[.string op, .string col, .string nm], .slice SA n c, .slice RA m rc] w fun e w' => e = .returned (.tuple #[.agg #[.int .i64 1, .int .i64 m, .string ⟨#[]⟩], .int .i64 0]) ∧ Touch [] w w' := by
 have t0 := ((Touch.refl [] w).alloc (.cells #[.string op, .string col, .string nm] 79)).alloc (.cells #[.int .i64 0, .int .i64 0, .string ⟨#[]⟩] 31)
 have hr := heap_alloc_new (w.alloc (.cells #[.string op, .string col, .string nm] 79)) (.cells #[.int .i64 0, .int .i64 0, .string ⟨#[]⟩] 31)
 rw [World.size_alloc] at hr
 have HR := Lib.hid (And.intro t0 hr)
 have Hof := Lib.hid fun w' => of_num m w'
 clear t0 hr
 go_enter Tryz.func139, Tryz.ntmps139
 go_wp2_with fail
 refine (Hof.out _).mono ?_
 rintro e w1 ⟨rfl, t1⟩
 have hr1 := t1.blk HR.out.2 (by simp)
 obtain ⟨z0, z1, z2, y0, y1, y2⟩ := blk3 hr1
 have HT := Lib.hid (And.intro (HR.out.1.trans0 t1) hr1)
 clear hr1 t1
 go_wp2_with fail
 refine bodyPost_ret (results_cell_two rfl _ _ (w.heap.size + 1) _ _ _ _ rfl (set3 HT.out.2 rfl _ _ _) Tryz.underlying31 rfl rfl) rfl ⟨rfl, HT.out.1.trans (touch3 _ _ _ _ _) (fun b hb => .inr (by simp at hb; omega))⟩

set_option maxHeartbeats 1600000 in
theorem inR_one (A : Option Addr) (c : Nat) (fv : Value) (w : World) : Calls Tryz.prog 177 #[.slice A 1 c, .int .i64 0, .int .i64 1, fv] w fun e w' => e = .returned (.tuple #[]) ∧ w' = w := by
 go_enter Tryz.func177, Tryz.ntmps177
 go_wp2_with fail
 go_loop [8] (fun y => y = .int .i64 1) (fun _ => 0)
 case atStart => rfl
 case round =>
  obtain rfl := hrel
  go_wp2
  go_end0
  exact ⟨rfl, rfl⟩
set_option maxRecDepth 20000 in
set_option maxHeartbeats 3200000 in
theorem pdqR_one (A : Option Addr) (c : Nat) (lim : Int) (fv : Value) (w : World) : Calls Tryz.prog 172 #[.slice A 1 c, .int .i64 0, .int .i64 1, .int .i64 lim, fv] w fun e w' => e = .returned (.tuple #[]) ∧ w' = w := by
 have Hi := Lib.hid (inR_one A c fv)
 go_enter Tryz.func172, Tryz.ntmps172
 go_wp2_with fail
 refine wp_loop_rounds 1 ?_
 rw [rounds_succ]
 go_wp2_with fail
 refine (Hi.out _).mono ?_
 rintro e w1 ⟨rfl, hw⟩
 have HW := Lib.hid hw
 clear hw
 go_wp2_with fail
 refine bodyPost_ret (results_none rfl _ _ _) rfl ?_
 exact ⟨rfl, HW.out⟩
set_option maxHeartbeats 1600000 in
theorem sortFR_one (A : Option Addr) (c : Nat) (fv : Value) (w : World) : Calls Tryz.prog 138 #[.slice A 1 c, fv] w fun e w' => e = .returned (.tuple #[]) ∧ w' = w := by
 have Hi := Lib.hid fun lim w' => pdqR_one A c lim fv w'
 have Hb := Lib.hid fun w' => Tryz.bits_Len 1 w' (by omega) (by omega)
 go_enter Tryz.func138, Tryz.ntmps138
 go_wp2_with fail
 refine (Hb.out _).mono ?_
 rintro e w1 ⟨rfl, hw⟩
 have HW := Lib.hid hw
 clear hw
 go_wp2_with fail
 refine (Hi.out _ _).mono ?_
 rintro e w2 ⟨rfl, hw⟩
 have HW2 := Lib.hid hw
 clear hw
 go_wp2_with fail
 go_end0
 exact ⟨rfl, by rw [HW2.out, HW.out]⟩

set_option maxRecDepth 40000 in
set_option maxHeartbeats 12800000 in
/-- one row: how many rows there are, none -/
theorem group_zero (x : PC) (h1 : x.names.n = 0) (h2 : x.aggs.n = 1) (op nm : ByteArray) (sa ra : SL) (cs : List CD) (hsn : sa.n = cs.length) (hl : cs.length ≤ 1000000) (hrn : ra.n = 0) (w : World) (hg : RdK agE w x.aggs.A [⟨op, ⟨#[]⟩, nm⟩]) (hcs : ColsAt w sa.A cs) :
  Calls Tryz.prog 97 #[x.val, .agg #[.slice sa.A sa.n sa.c, .slice ra.A ra.n ra.c]] w fun e w' => ∃ B c, e = .returned (.tuple #[.slice B 1 c, .int .i64 0]) ∧ RowsAt w' B [[⟨1, 0, ⟨#[]⟩⟩]] ∧ Touch [] w w' := by
 obtain ⟨SA, sn, sc⟩ := sa
 obtain ⟨RA, rn, rc⟩ := ra
 obtain ⟨k0, k1, ⟨A2, n2, c2'⟩, ⟨⟨ck, cn, ⟨cvk, cvn, cvt⟩, cop⟩, CA, cnn, cc⟩, ⟨NA, nn, nc⟩, ⟨EA, en, ec⟩, ⟨OA, ol, oc⟩, ⟨GA, gn, gc⟩, ⟨BA, bn, bc⟩, count⟩ := x
 dsimp only at h1 h2 hsn hrn hg hcs ⊢
 simp only [PC.val]
 subst h1 h2 hrn
 obtain ⟨ad, gb, go_, rfl, hadd, hc⟩ := RdK.cells hg 3 agE_length (by omega) 0 (by simp)
 rw [Nat.zero_mul] at hadd
 have e0 := hc 0 _ rfl
 have e1 := hc 1 _ rfl
 have e2 := hc 2 _ rfl
 simp only [List.getElem_cons_zero, Nat.add_zero] at e0 e1 e2
 obtain ⟨W, hW⟩ : ∃ W, W = (w.alloc (.cells #[.int .i64 k0, .string k1, .slice A2 n2 c2', .int .i64 ck, .string cn, .int .i64 cvk, .int .i64 cvn, .string cvt, .string cop, .slice CA cnn cc, .slice NA 0 nc, .slice EA en ec, .slice OA ol oc, .slice (some ad) 1 gc, .slice BA bn bc, .int .i64 count] 49)).alloc (.cells #[.slice SA sn sc, .slice RA 0 rc] 27) := ⟨_, rfl⟩
 have t0 : Touch [] w W := hW ▸ ((Touch.refl [] w).alloc _).alloc _
 have hbp := hW ▸ ((Touch.refl [] (w.alloc (.cells #[.int .i64 k0, .string k1, .slice A2 n2 c2', .int .i64 ck, .string cn, .int .i64 cvk, .int .i64 cvn, .string cvt, .string cop, .slice CA cnn cc, .slice NA 0 nc, .slice EA en ec, .slice OA ol oc, .slice (some ad) 1 gc, .slice BA bn bc, .int .i64 count] 49))).alloc (.cells #[.slice SA sn sc, .slice RA 0 rc] 27)).blk (heap_alloc_new w _) (by simp)
 have hbt : W.heap[w.heap.size + 1]? = some (.cells #[.slice SA sn sc, .slice RA 0 rc] 27 (0, 0)) := by
  have := heap_alloc_new (w.alloc (.cells #[.int .i64 k0, .string k1, .slice A2 n2 c2', .int .i64 ck, .string cn, .int .i64 cvk, .int .i64 cvn, .string cvt, .string cop, .slice CA cnn cc, .slice NA 0 nc, .slice EA en ec, .slice OA ol oc, .slice (some ad) 1 gc, .slice BA bn bc, .int .i64 count] 49)) (.cells #[.slice SA sn sc, .slice RA 0 rc] 27)
  rw [World.size_alloc] at this
  exact hW ▸ this
 have q10 : W.cell? ⟨w.heap.size, 10, none⟩ = some (.slice NA 0 nc) := cell_blk hbp rfl
 have q13 : W.cell? ⟨w.heap.size, 13, none⟩ = some (.slice (some ad) 1 gc) := cell_blk hbp rfl
 have HW := Lib.hid hW
 have HT0 := Lib.hid t0
 have HB := Lib.hid (And.intro hbt (And.intro q10 q13))
 have HE := Lib.hid (And.intro (t0.cell e0 (by simp)) (And.intro (t0.cell e1 (by simp)) (t0.cell e2 (by simp))))
 have Hpl := Lib.hid (places_any SA sc sn cs hsn.symm (by omega) NA nc 0 [] rfl (by omega) W (hcs.touch0 t0) (RdK.nil _ _ _))
 have hmm := @run_makeMap Tryz.prog
 clear hW t0 hbp hbt e0 e1 e2 hc hg hcs hsn
 go_enter Tryz.func97, Tryz.ntmps97
 go_wp2_with fail
 rw [← HW.out]
 refine Hpl.out.mono ?_
 rintro e w1 ⟨A1, m1, rfl, M1'⟩
 have HT1 := Lib.hid M1'.t
 have tm := (HT1.out.alloc (.map #[] 0))
 obtain ⟨b0, b1, _, _⟩ := blk2 (tm.blk HB.out.1 (by simp))
 have p10 := tm.cell HB.out.2.1 (by simp)
 have HMP := Lib.hid (IdxAt.made [] w1)
 clear M1' Hpl tm q10 q13
 go_wp2_with fail
 clear hmm
 refine wp_loop_rounds 1 ?_
 rw [rounds_succ]
 go_wp2_with (at_builtin; refine stop ?_)
 refine go ?_
 refine wpList_appK (enc := slE) rfl (.tmp 71) (.tmp 72) 25 rfl 33 _ 1 24 info_r5 Tryz.underlying25 rfl (by omega) slE_length slE_one none 0 0 [] rfl rfl (OwnK.nil _ _ _ _)
  (some ⟨w1.heap.size + 1, 0, none⟩) 1 1 [⟨none, 0, 0⟩] rfl rfl (by
   have := RdK.one (enc := slE) (w1.alloc (.map #[] 0)) 33 ⟨none, 0, 0⟩ #[.slice none 0 0] rfl
   rwa [World.size_alloc] at this) (by omega) (by omega) ?_
 intro Bo co w2 hown ht hf
 obtain ⟨ad2, ob, oo, rfl, hadd2, hc2⟩ := RdK.cells hown.rd 1 slE_length (by omega) 0 (by simp)
 rw [Nat.zero_mul] at hadd2
 have o0 := hc2 0 _ rfl
 simp only [Nat.add_zero] at o0
 have o0 : w2.cell? ⟨ob, oo, none⟩ = some (.slice none 0 0) := o0
 have tb := ((Touch.refl [] (w1.alloc (.map #[] 0))).alloc (.cells #[.slice none 0 0] 33)).trans0 ht
 have HT2 := Lib.hid ((HT1.out.alloc (.map #[] 0)).trans0 tb)
 have HM2 := Lib.hid (HMP.out.touch0 tb)
 have HBL := Lib.hid (HT2.out.blk HB.out.1 (by simp))
 have p13 := HT2.out.cell HB.out.2.2 (by simp)
 have Hsr := Lib.hid (sortFR_one (some ad2) co (.func (.func 81) #[] #[]) w2)
 clear hown ht hf hc2 tb HMP
 go_wp2_with fail
 refine Hsr.out.mono ?_
 rintro e w3 ⟨rfl, rfl⟩
 go_wp2_with fail
 refine wp_loop_rounds 2 ?_
 rw [rounds_succ]
 go_wp2_with fail
 refine (cloneV_any none 0 0 [] rfl (by omega) w3 (RdK.nil _ _ _)).mono ?_
 rintro e w4 ⟨A4, c4, rfl, m4⟩
 have M4 := Lib.hid m4
 have HT4 := Lib.hid (HT2.out.trans0 m4.t)
 have HM4 := Lib.hid (HM2.out.touch0 m4.t)
 have HBL4 := Lib.hid (m4.t.blk HBL.out (by simp))
 have p13' := m4.t.cell p13 (by simp)
 have e0 := HT4.out.cell HE.out.1 (by simp)
 have e1 := HT4.out.cell HE.out.2.1 (by simp)
 have e2 := HT4.out.cell HE.out.2.2 (by simp)
 clear m4 p13 HM2
 go_wp2_with fail
 refine wp_loop_rounds 2 ?_
 rw [rounds_succ]
 go_wp2_with fail
 have ta := (Touch.refl [] w4).alloc (.cells #[.string op, .string ⟨#[]⟩, .string nm] 79)
 have hba := heap_alloc_new w4 (.cells #[.string op, .string ⟨#[]⟩, .string nm] 79)
 obtain ⟨W5, hW5⟩ : ∃ W5, W5 = w4.alloc (.cells #[.string op, .string ⟨#[]⟩, .string nm] 79) := ⟨_, rfl⟩
 rw [← hW5] at ta hba ⊢
 have HT5 := Lib.hid (And.intro ta (And.intro hba (show W5.heap.size = w4.heap.size + 1 by rw [hW5, World.size_alloc])))
 obtain ⟨K, hK⟩ : ∃ K, K = S (keyL []) := ⟨_, rfl⟩
 have Hky := Lib.hid fun w' => keyOf_any none 0 0 [] rfl w' (RdK.nil _ _ _) (by omega) (by simp) (by simp)
 rw [← hK] at Hky
 have Hof := Lib.hid fun w' => (of_rows op ⟨#[]⟩ nm (by rw [toList_B]; rfl) SA sn sc none 0 0 (by omega) w' : Calls _ _ _ _ fun e w'' => e = .returned (.tuple #[.agg #[.int .i64 1, .int .i64 0, .string ⟨#[]⟩], .int .i64 0]) ∧ _)
 have Hlk := Lib.hid fun w' (t : Touch [] W5 w') => hK ▸ (((HM4.out.touch0 ta).touch0 t).miss (keyL []) (by simp [keyL]) (by simp) false)
 have td := (Touch.refl [] W5).drew
 obtain ⟨a0, a1, a2, _, _, _⟩ := blk3 hba
 obtain ⟨s0, _, _, _⟩ := blk2 (ta.blk HBL4.out (by simp))
 have HK : Hid (∀ w', Touch [] W5 w' → w'.cell? ⟨w4.heap.size, 0, none⟩ = some (.string op) ∧ w'.cell? ⟨w4.heap.size, 1, none⟩ = some (.string ⟨#[]⟩) ∧ w'.cell? ⟨w4.heap.size, 2, none⟩ = some (.string nm) ∧ w'.cell? ⟨w.heap.size + 1, 0, none⟩ = some (.slice SA sn sc) ∧ (Instr.lookup 191 (.map (some w1.heap.size)) (.string K) false).run Tryz.prog w' = .ok (.slice none 0 0) w') := Lib.hid fun w' t => ⟨t.cell a0 (by simp), t.cell a1 (by simp), t.cell a2 (by simp), t.cell s0 (by simp), Hlk.out _ t⟩
 have HTd := Lib.hid td
 have HTe : Hid (Touch [] W5 (W5.alloc (.cells #[.int .i64 0, .int .i64 0, .string ⟨#[]⟩] 31)).drew) := Lib.hid ((Touch.refl [] W5).alloc _).drew
 have HBe := Lib.hid ((Touch.refl [] (W5.alloc (.cells #[.int .i64 0, .int .i64 0, .string ⟨#[]⟩] 31))).drew.blk (heap_alloc_new W5 (.cells #[.int .i64 0, .int .i64 0, .string ⟨#[]⟩] 31)) (by simp))
 clear hW5 ta hba hK td a0 a1 a2 s0 e0 e1 e2
 go_region_held3 (fun w' => w'.cell? ⟨w4.heap.size, 0, none⟩ = some (.string op) ∧ w'.cell? ⟨w4.heap.size, 1, none⟩ = some (.string ⟨#[]⟩) ∧ w'.cell? ⟨w4.heap.size, 2, none⟩ = some (.string nm) ∧ w'.cell? ⟨w.heap.size + 1, 0, none⟩ = some (.slice SA sn sc) ∧ (Instr.lookup 191 (.map (some w1.heap.size)) (.string K) false).run Tryz.prog w' = .ok (.slice none 0 0) w')
  (first
   | with_reducible exact HK.out _ HTd.out
   | with_reducible exact HK.out _ HTe.out
   | with_reducible exact HK.out _ T6
   | with_reducible exact HK.out _ (T6.alloc _)
   | with_reducible exact HK.out _ T7
   | with_reducible exact HK.out _ (T7.alloc _)
   | exact HK.out _ (T7.trans (touch3 _ _ _ _ _) (fun b hb => .inr (by simp at hb; omega))))
  (first
   | (go_at_call 136; refine (Hky.out _).mono ?_; rintro e w6 ⟨rfl, t6⟩; have h6 : Touch [] (W5.alloc (.cells #[.int .i64 0, .int .i64 0, .string ⟨#[]⟩] 31)).drew w6 := (by with_reducible exact t6); have hbv6 := h6.blk HBe.out (by simp); have T6 : Touch [] W5 w6 := HTe.out.trans0 h6; have s6 := T6.size)
   | (go_at_call 136; refine (Hky.out _).mono ?_; rintro e w6 ⟨rfl, t6⟩; have h6 : Touch [] W5.drew w6 := (by with_reducible exact t6); have T6 : Touch [] W5 w6 := HTd.out.trans0 h6; have s6 := T6.size)
   | (go_at_call 139; refine (Hof.out _).mono ?_; rintro e w7 ⟨rfl, t7⟩; have h7 : Touch [] (w6.alloc (.cells #[.int .i64 0, .int .i64 0, .string ⟨#[]⟩] 31)) w7 := (by with_reducible exact t7); have T7 : Touch [] W5 w7 := (T6.alloc _).trans0 h7; have hbv := h7.blk (heap_alloc_new w6 (.cells #[.int .i64 0, .int .i64 0, .string ⟨#[]⟩] 31)) (by simp); obtain ⟨z0, z1, z2, y0, y1, y2⟩ := blk3 hbv)
   | (go_at_call 139; refine (Hof.out _).mono ?_; rintro e w7 ⟨rfl, t7⟩; have h7 : Touch [] w6 w7 := (by with_reducible exact t7); have T7 : Touch [] W5 w7 := T6.trans0 h7; have hbv := h7.blk hbv6 (by simp); obtain ⟨z0, z1, z2, y0, y1, y2⟩ := blk3 hbv)
   | (go_at_call 139; refine (Hof.out _).mono ?_; rintro e w7 ⟨rfl, t7⟩; have h7 : Touch [] w6 w7 := (by with_reducible exact t7); have T7 : Touch [] W5 w7 := T6.trans0 h7))
 all_goals (go_wp2_with (at_builtin; refine stop ?_))
 all_goals
  refine go ?_
  refine wpList_here ?_
  intro W8 hW8
  have T8 : Touch [] W5 W8 := by
   rw [hW8]
   first
    | with_reducible exact (T7.alloc _).alloc _
    | exact (T7.trans (touch3 _ _ _ _ _) (fun b hb => .inr (by simp at hb; omega))).alloc _
  have hrd : ∀ g, g + 1 = W8.heap.size → RdK vdE W8 (some ⟨g, 0, none⟩) [⟨1, 0, ⟨#[]⟩⟩] := by
   obtain ⟨X, hX⟩ : ∃ X : World, W8 = X.alloc (.cells #[.int .i64 1, .int .i64 0, .string ⟨#[]⟩] 31) := ⟨_, hW8⟩
   intro g hg
   rw [hX] at hg ⊢
   rw [World.size_alloc] at hg
   obtain rfl : g = X.heap.size := by omega
   exact RdK.one (enc := vdE) X 31 ⟨1, 0, ⟨#[]⟩⟩ _ rfl
  have hA : ∀ g, g = W8.heap.size → g = W8.heap.size := fun _ h => h
  refine wpList_appK (enc := vdE) rfl (.tmp 105) (.tmp 107) 33 rfl 31 _ 3 32 info_v5 Tryz.underlying33 rfl (by omega) vdE_length vdE_one A4 0 c4 [] rfl rfl (M4.out.own.touch0 (HT5.out.1.trans0 T8))
   _ 1 _ [⟨1, 0, ⟨#[]⟩⟩] rfl rfl (hrd _ (by rw [hW8]; simp)) (by omega) (by omega) ?_
  intro A9 c9 w9 hown ht hf
  have hTT : Touch [] w w9 := (((HT0.out.trans0 HT4.out).trans0 HT5.out.1).trans0 T8).trans ht (fun b hb => .inr (by have := M4.out.f b hb; have := (HT0.out.trans0 HT2.out).size; omega))
  rw [List.nil_append] at hown
  have HX := Lib.hid (And.intro hown hTT)
  clear hown ht hf hTT hrd hA T8 hW8
  go_wp2_with fail
  rw [rounds_succ]
  go_wp2_with (at_builtin; refine stop ?_)
  refine go ?_
  refine wpList_appR rfl (.tmp 110) (.tmp 112) 25 rfl 33 info_r5 Tryz.underlying25 0 none 0 0 [] rfl rfl (OwnR.nil _ _ _) A9 c9 [⟨1, 0, ⟨#[]⟩⟩] HX.out.1.rd
   (fun b hb => ⟨by simp [fpo], HX.out.1.lt b hb, Nat.zero_le _⟩) 1 rfl (by omega) rfl ?_
  intro B' c' w' hown2 ht2 hf2
  have HY := Lib.hid (And.intro hown2 ((HX.out.2.alloc _).trans0 ht2))
  clear hown2 ht2 hf2
  go_wp2_with fail
  rw [rounds_succ]
  go_wp2_with fail
  go_ret2
  exact ⟨B', c', rfl, HY.out.1.rowsAt, HY.out.2⟩
end Go.Proofs.YtafoklilkdnepaaGreatDoor
