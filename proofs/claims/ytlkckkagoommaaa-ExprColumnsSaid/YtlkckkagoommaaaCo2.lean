/- Part 2 of the texts of this proof, one behind the other; each begins with its own sentence. No condition beyond those that its theorems state. -/
import Derived.Test.YtlkckkagoommaaaCo1
import Derived.Shelf.Small.Bits
import Derived.Shelf.Small.Strs
import Derived.Shelf.Small.Wraps
import Derived.Shelf.Strconv.Itoa0
import Derived.Shelf.Strings.Search1
import Derived.Shelf.Sort.Plain
import Derived.Shelf.Slices.Turned
import Derived.Shelf.Slices.CompactS
import Derived.Ground.Names2Prog
import Derived.Shelf.Slices.SearchI
import Derived.Shelf.Slices.Cells
import Derived.Shelf.Slices.In.SortNone
import Derived.Test.YtlkckkagoommaaaProg
import Derived.Lib.IndexMore
import Derived.Lib.Join
import Derived.StillTailTactics
import Derived.Maps.OwnSet
/- The contracts of Go library functions at this translation, laid in plain words by the tool of the kit; no condition. -/
namespace Go.Proofs
open Go.Shelf
def Try.lays106_ren : Go.Shelf.Ren := ⟨fun | 106 => 95 | 213 => 105 | 265 => 108 | n => n, fun | 9 => 9 | 3 => 3 | n => n, fun | n => n⟩
theorem Try.lays106 : Go.Proofs.Lays.n106 Try.prog Try.lays106_ren := {
  mixed := by kernel_rfl
  f106 := Try.func95.trans (congrArg some (by kernel_rfl))
  f213 := Try.func105.trans (congrArg some (by kernel_rfl))
  f265 := Try.func108.trans (congrArg some (by kernel_rfl))
  t3 := Try.underlying3
  a3 := Try.isAgg3
  z3 := Try.sizeOf3
  v3 := Try.zeroValue3
  t9 := Try.underlying9
  a9 := Try.isAgg9
  z9 := Try.sizeOf9
  v9 := Try.zeroValue9 }
open Go.RowKit in
/-- strings.Compare: "Compare returns an integer comparing two strings lexicographically. The result will be 0 if a == b, -1 if a < b, and +1 if a > b.": IT RETURNS 'Lib.compareBytes a b'; the world is as it was. (LAID: no walk: one application.) -/
theorem Try.strings_Compare (a b : ByteArray) (w : World) :
    Calls Try.prog 95 #[.string a, .string b] w fun e w' => e = .returned (.int .i64 (Lib.compareBytes a.data.toList b.data.toList)) ∧ w' = w := Any.strings_Compare Try.lays106 a b w
def Try.lays137_ren : Go.Shelf.Ren := ⟨fun | 137 => 74 | 217 => 96 | 266 => 106 | n => n, fun | 9 => 9 | 5 => 5 | 3 => 3 | n => n, fun | n => n⟩
theorem Try.lays137 : Go.Proofs.Lays.n137 Try.prog Try.lays137_ren := {
  mixed := by kernel_rfl
  f137 := Try.func74.trans (congrArg some (by kernel_rfl))
  f217 := Try.func96.trans (congrArg some (by kernel_rfl))
  f266 := Try.func106.trans (congrArg some (by kernel_rfl))
  t3 := Try.underlying3
  a3 := Try.isAgg3
  z3 := Try.sizeOf3
  v3 := Try.zeroValue3
  t5 := Try.underlying5
  a5 := Try.isAgg5
  z5 := Try.sizeOf5
  v5 := Try.zeroValue5
  t9 := Try.underlying9
  a9 := Try.isAgg9
  z9 := Try.sizeOf9
  v9 := Try.zeroValue9 }
open Go.RowKit in
/-- strings.IndexByte: "IndexByte returns the index of the first instance of c in s, or -1 if c is not present in s.": IT RETURNS 'Lib.indexByte s c'; the world is as it was. (LAID: no walk: one application.) -/
theorem Try.strings_IndexByte (s : ByteArray) (c : Int) (w : World) :
    Calls Try.prog 74 #[.string s, .int .u8 c] w fun e w' => e = .returned (.int .i64 (Lib.indexByte s.data.toList c.toNat.toUInt8)) ∧ w' = w := Any.strings_IndexByte Try.lays137 s c w
def Try.lays122_ren : Go.Shelf.Ren := ⟨fun | 122 => 94 | 215 => 104 | n => n, fun | 3 => 3 | 4 => 4 | n => n, fun | n => n⟩
theorem Try.lays122 : Go.Proofs.Lays.n122 Try.prog Try.lays122_ren := {
  mixed := by kernel_rfl
  f122 := Try.func94.trans (congrArg some (by kernel_rfl))
  f215 := Try.func104.trans (congrArg some (by kernel_rfl))
  t3 := Try.underlying3
  a3 := Try.isAgg3
  z3 := Try.sizeOf3
  v3 := Try.zeroValue3
  t4 := Try.underlying4
  a4 := Try.isAgg4
  z4 := Try.sizeOf4
  v4 := Try.zeroValue4 }
open Go.RowKit in
/-- cmp.Compare at int: "Compare returns -1 if x is less than y, 0 if x equals y, +1 if x is greater than y.": IT RETURNS 'Lib.compareInt x y'; the world is as it was. (LAID: no walk: one application.) -/
theorem Try.cmp_Compare_int (x y : Int) (w : World) :
    Calls Try.prog 94 #[.int .i64 x, .int .i64 y] w fun e w' => e = .returned (.int .i64 (Lib.compareInt x y)) ∧ w' = w := Any.cmp_Compare_int Try.lays122 x y w
def Try.lays190_ren : Go.Shelf.Ren := ⟨fun | 190 => 49 | 125 => 69 | 258 => 68 | 128 => 91 | 129 => 92 | 302 => 82 | 303 => 83 | 304 => 84 | 305 => 85 | 306 => 86 | 307 => 87 | 308 => 88 | 309 => 89 | 310 => 90 | 333 => 98 | 329 => 99 | 330 => 100 | 334 => 101 | 335 => 102 | 336 => 103 | 344 => 107 | n => n, fun | 31 => 73 | 9 => 9 | 3 => 3 | 46 => 120 | 0 => 0 | 51 => 141 | 53 => 143 | 4 => 4 | 183 => 134 | 182 => 133 | 131 => 84 | 5 => 5 | 218 => 147 | 222 => 151 | 228 => 154 | 229 => 39 | n => n, fun | n => n⟩
theorem Try.lays190 : Go.Proofs.Lays.n190 Try.prog Try.lays190_ren := {
  mixed := by kernel_rfl
  f125 := Try.func69.trans (congrArg some (by kernel_rfl))
  f128 := Try.func91.trans (congrArg some (by kernel_rfl))
  f129 := Try.func92.trans (congrArg some (by kernel_rfl))
  f190 := Try.func49.trans (congrArg some (by kernel_rfl))
  f258 := Try.func68.trans (congrArg some (by kernel_rfl))
  f302 := Try.func82.trans (congrArg some (by kernel_rfl))
  f303 := Try.func83.trans (congrArg some (by kernel_rfl))
  f304 := Try.func84.trans (congrArg some (by kernel_rfl))
  f305 := Try.func85.trans (congrArg some (by kernel_rfl))
  f306 := Try.func86.trans (congrArg some (by kernel_rfl))
  f307 := Try.func87.trans (congrArg some (by kernel_rfl))
  f308 := Try.func88.trans (congrArg some (by kernel_rfl))
  f309 := Try.func89.trans (congrArg some (by kernel_rfl))
  f310 := Try.func90.trans (congrArg some (by kernel_rfl))
  f329 := Try.func99.trans (congrArg some (by kernel_rfl))
  f330 := Try.func100.trans (congrArg some (by kernel_rfl))
  f333 := Try.func98.trans (congrArg some (by kernel_rfl))
  f334 := Try.func101.trans (congrArg some (by kernel_rfl))
  f335 := Try.func102.trans (congrArg some (by kernel_rfl))
  f336 := Try.func103.trans (congrArg some (by kernel_rfl))
  f344 := Try.func107.trans (congrArg some (by kernel_rfl))
  t0 := Try.underlying0
  a0 := Try.isAgg0
  z0 := Try.sizeOf0
  v0 := Try.zeroValue0
  t3 := Try.underlying3
  a3 := Try.isAgg3
  z3 := Try.sizeOf3
  v3 := Try.zeroValue3
  t4 := Try.underlying4
  a4 := Try.isAgg4
  z4 := Try.sizeOf4
  v4 := Try.zeroValue4
  t5 := Try.underlying5
  a5 := Try.isAgg5
  z5 := Try.sizeOf5
  v5 := Try.zeroValue5
  t9 := Try.underlying9
  a9 := Try.isAgg9
  z9 := Try.sizeOf9
  v9 := Try.zeroValue9
  t31 := Try.underlying73
  a31 := Try.isAgg73
  z31 := Try.sizeOf73
  v31 := Try.zeroValue73
  t46 := Try.underlying120
  a46 := Try.isAgg120
  z46 := Try.sizeOf120
  v46 := Try.zeroValue120
  t51 := Try.underlying141
  a51 := Try.isAgg141
  z51 := Try.sizeOf141
  v51 := Try.zeroValue141
  t53 := Try.underlying143
  a53 := Try.isAgg143
  z53 := Try.sizeOf143
  v53 := Try.zeroValue143
  t131 := Try.underlying84
  a131 := Try.isAgg84
  z131 := Try.sizeOf84
  v131 := Try.zeroValue84
  t182 := Try.underlying133
  a182 := Try.isAgg133
  z182 := Try.sizeOf133
  v182 := Try.zeroValue133
  t183 := Try.underlying134
  a183 := Try.isAgg134
  z183 := Try.sizeOf134
  v183 := Try.zeroValue134
  t218 := Try.underlying147
  a218 := Try.isAgg147
  z218 := Try.sizeOf147
  v218 := Try.zeroValue147
  t222 := Try.underlying151
  a222 := Try.isAgg151
  z222 := Try.sizeOf151
  v222 := Try.zeroValue151
  t228 := Try.underlying154
  a228 := Try.isAgg154
  z228 := Try.sizeOf154
  v228 := Try.zeroValue154
  t229 := Try.underlying39
  a229 := Try.isAgg39
  z229 := Try.sizeOf39
  v229 := Try.zeroValue39 }
open Go.Sort Go.RowKit in
theorem Try.slices_Sort_string (blk off cap : Nat) (ss : List (List UInt8)) (w : World) (hH : Holds encStr w blk off ss.toArray) (hblk : blk < w.heap.size) (hsz : ss.length < 4611686018427387904) :
    Calls Try.prog 49 #[.slice (some ⟨blk, off, none⟩) ss.length cap] w fun e w' =>
      e = .returned (.tuple #[]) ∧ ∃ n os, w' = grow (putRow encStr (Sort.ahead w n) blk off (ss.mergeSort fun x y => decide (x ≤ y)).toArray) os := Any.slices_Sort_string Try.lays190 blk off cap ss w hH hblk hsz
def Try.lays109_ren : Go.Shelf.Ren := ⟨fun | 109 => 71 | n => n, fun | 31 => 73 | 9 => 9 | 3 => 3 | 0 => 0 | 4 => 4 | n => n, fun | n => n⟩
theorem Try.lays109 : Go.Proofs.Lays.n109 Try.prog Try.lays109_ren := {
  mixed := by kernel_rfl
  f109 := Try.func71.trans (congrArg some (by kernel_rfl))
  t0 := Try.underlying0
  a0 := Try.isAgg0
  z0 := Try.sizeOf0
  v0 := Try.zeroValue0
  t3 := Try.underlying3
  a3 := Try.isAgg3
  z3 := Try.sizeOf3
  v3 := Try.zeroValue3
  t4 := Try.underlying4
  a4 := Try.isAgg4
  z4 := Try.sizeOf4
  v4 := Try.zeroValue4
  t9 := Try.underlying9
  a9 := Try.isAgg9
  z9 := Try.sizeOf9
  v9 := Try.zeroValue9
  t31 := Try.underlying73
  a31 := Try.isAgg73
  z31 := Try.sizeOf73
  v31 := Try.zeroValue73 }
open Go.Lib in
/-- slices.Index at []string: "Index returns the index of the first occurrence of v in s, or -1 if not present.": IT RETURNS 'Lib.idxOfS (the elements) v'; the world is as it was. 'zs': what the cells behind the slice's address hold (its spare capacity too, if you have it); 'zs.take n': its elements. (LAID: no walk: one application.) -/
theorem Try.slices_Index_string (b off n c : Nat) (zs : List ByteArray) (x : ByteArray) (w : World) (hz : n ≤ zs.length) (hbig : n ≤ 9223372036854775807) (hc : ∀ j, j < zs.length → w.cell? ⟨b, off + j, none⟩ = some (.string (zs.getD j ByteArray.empty))) :
    Calls Try.prog 71 #[.slice (some ⟨b, off, none⟩) n c, .string x] w fun e w' => e = .returned (.int .i64 (Lib.idxOfS (zs.take n) x)) ∧ w' = w := Any.slices_Index_string Try.lays109 b off n c zs x w hz hbig hc
open Go.Lib in
/-- The same at a slice of length 0, a nil one too: no cell is known, none is asked for. (LAID: no walk: one application.) -/
theorem Try.slices_Index_string_empty (a : Option Addr) (c : Nat) (x : ByteArray) (w : World) :
    Calls Try.prog 71 #[.slice a 0 c, .string x] w fun e w' => e = .returned (.int .i64 (Lib.idxOfS [] x)) ∧ w' = w := Any.slices_Index_string_empty Try.lays109 a c x w
def Try.lays194_ren : Go.Shelf.Ren := ⟨fun | 194 => 50 | n => n, fun | 31 => 73 | 9 => 9 | 3 => 3 | 4 => 4 | 0 => 0 | n => n, fun | n => n⟩
theorem Try.lays194 : Go.Proofs.Lays.n194 Try.prog Try.lays194_ren := {
  mixed := by kernel_rfl
  f194 := Try.func50.trans (congrArg some (by kernel_rfl))
  t0 := Try.underlying0
  a0 := Try.isAgg0
  z0 := Try.sizeOf0
  v0 := Try.zeroValue0
  t3 := Try.underlying3
  a3 := Try.isAgg3
  z3 := Try.sizeOf3
  v3 := Try.zeroValue3
  t4 := Try.underlying4
  a4 := Try.isAgg4
  z4 := Try.sizeOf4
  v4 := Try.zeroValue4
  t9 := Try.underlying9
  a9 := Try.isAgg9
  z9 := Try.sizeOf9
  v9 := Try.zeroValue9
  t31 := Try.underlying73
  a31 := Try.isAgg73
  z31 := Try.sizeOf73
  v31 := Try.zeroValue73 }
open Go.RowKit Go.Lib Go.Sort in
/-- slices.Compact at []string: "Compact replaces consecutive runs of equal elements with a single copy. This is like the uniq command found on Unix. Compact modifies the contents of the slice s and returns the modified slice, which may have a smaller length. Compact zeroes the elements between the new length and the original length. The result preserves the nilness of s.": IT RETURNS THE SLICE CUT TO 'Lib.compact zs'; ITS CELLS HOLD 'Lib.compact zs', THEN ZERO VALUES up to the old length; all else is as it was, but for the count of draws. IN THE WORDS OF slices.Sort's CONTRACT ('Holds', 'putRow'): so the everyday 'slices.Sort(xs); xs = slices.Compact(xs)' goes from the one contract to the other. It asks 'zs.length ≤ cap' (every slice's: the reslicing 's[:k]' looks at it). Length 0, nil: '.._empty'. (LAID: no walk: one application.) -/
theorem Try.slices_Compact_string (blk off cap : Nat) (zs : List (List UInt8)) (w : World) (hH : Holds encStr w blk off zs.toArray) (hsz : zs.length ≤ 9223372036854775807) (hcap : zs.length ≤ cap) :
    Calls Try.prog 50 #[.slice (some ⟨blk, off, none⟩) zs.length cap] w fun e w' => e = .returned (.slice (some ⟨blk, off, none⟩) (Lib.compact zs).length cap) ∧ ∃ q, w' = putRow encStr (Sort.ahead w q) blk off (Lib.compact zs ++ List.replicate (zs.length - (Lib.compact zs).length) []).toArray := Any.slices_Compact_string Try.lays194 blk off cap zs w hH hsz hcap
end Go.Proofs

/- slices.Sort and slices.Compact at texts that the calls own; expr.Expr.Columns: the names, sorted, each once. For every expression that lies below the world. -/
namespace Go.Proofs.Ytlkckkagoommaaa
open Go.RowKit Go.Sort

theorem touch_grow (w : World) (os : Array Obj) : Touch [] w (grow w os) := ⟨rfl, rfl, rfl, by simp, fun k hk _ => heap_grow_old w os hk⟩
theorem touch_putRow {α : Type} [Inhabited α] (enc : α → Value) (w : World) (n g off : Nat) (d : Array α) : Touch [g] w (putRow enc (Sort.ahead w n) g off d) :=
  ⟨rfl, rfl, rfl, by simp, fun k _ hn => by
    have : ¬ g = k := fun e => hn (by simp [e])
    simp [putRow, mapBlock, Array.getElem?_modify, this, Sort.ahead]⟩
theorem encS_length (x : ByteArray) : (encS x).length = 1 := rfl
theorem flat_encS (xs : List ByteArray) (j : Nat) (hj : j < xs.length) : (xs.flatMap encS)[j]? = some (.string xs[j]) := by
  have := flat_get encS 1 encS_length xs j 0 hj (by omega)
  simpa [encS] using this
theorem flat_encS_lt {xs : List ByteArray} {j : Nat} {u : Value} (h : (xs.flatMap encS)[j]? = some u) : j < xs.length := by
  have := (List.getElem?_eq_some_iff.1 h).1
  rw [flat_length encS 1 encS_length] at this; omega
theorem OwnK.holdsS {t : TypeId} {w : World} {g c : Nat} {xs : List ByteArray} (h : OwnK t 1 encS w (some ⟨g, 0, none⟩) c xs) : Holds encStr w g 0 (xs.map (·.data.toList)).toArray := by
  intro j hj
  have hj' : j < xs.length := by simpa using hj
  have hc := World.ownsRow.cells h (g := g) rfl j _ (flat_encS xs j hj')
  have e1 : (⟨g, 0, none⟩ : Addr).add j = ⟨g, 0 + j, none⟩ := by unfold Addr.add; split <;> simp_all
  rw [e1] at hc
  refine ⟨by rw [hc]; simp [hj', encStr], ?_⟩
  rcases h.2 with ⟨hv, _⟩ | ⟨g', cap, cur, hv, _, hg, _⟩
  · injection hv with hA _ _; cases hA
  · injection hv with hA _ _
    injection hA with hA
    injection hA with hA
    subst hA
    simp [World.frozen?, hg]
/-- a text of bytes -/
def mkS (l : List UInt8) : ByteArray := ⟨l.toArray⟩
theorem rdK_of_holds {w : World} {g : Nat} {zs : List (List UInt8)} (h : Holds encStr w g 0 zs.toArray) : RdK encS w (some ⟨g, 0, none⟩) (zs.map mkS) := fun _ =>
  ⟨_, rfl, fun j u hu => by
    have hj := flat_encS_lt hu
    have hj' : j < zs.length := by simpa using hj
    rw [flat_encS _ j hj] at hu
    injection hu with hu
    subst hu
    have e1 : (⟨g, 0, none⟩ : Addr).add j = ⟨g, 0 + j, none⟩ := by unfold Addr.add; split <;> simp_all
    rw [e1, (h j (by simpa using hj')).1]
    simp [hj', mkS, encStr]⟩
theorem holds_head {w : World} {g : Nat} {zs ys : List (List UInt8)} (h : Holds encStr w g 0 (zs ++ ys).toArray) : Holds encStr w g 0 zs.toArray := fun j hj => by
  have hj' : j < zs.length := by simpa using hj
  have := h j (by simp; omega)
  simpa [hj', List.getElem?_append_left hj'] using this

/-- texts in order -/
def sortS (xs : List ByteArray) : List (List UInt8) := (xs.map (·.data.toList)).mergeSort fun x y => decide (x ≤ y)
theorem sortS_length (xs : List ByteArray) : (sortS xs).length = xs.length := by simp [sortS, List.length_mergeSort]
theorem sort_own {w : World} {A : Option Addr} {c : Nat} {xs : List ByteArray} (h : OwnK 9 1 encS w A c xs) (hl : xs.length < 4611686018427387904) :
    Calls Try.prog 49 #[.slice A xs.length c] w fun e w' => e = .returned (.tuple #[]) ∧ (∀ g, A = some ⟨g, 0, none⟩ → Holds encStr w' g 0 (sortS xs).toArray) ∧ Touch (fpo A) w w' := by
  by_cases h0 : xs = []
  · subst h0
    refine (Any.slices_Sort_string_none Try.lays190 A c w).mono ?_
    rintro e w' ⟨rfl, rfl⟩
    exact ⟨rfl, fun g hg j hj => absurd hj (by simp [sortS]), Touch.refl _ _⟩
  · rcases h.head with ⟨_, h1, _⟩ | ⟨g, rfl⟩
    · exact absurd h1 h0
    · have hg := h.lt g (by simp [fpo])
      have := Try.slices_Sort_string g 0 c (xs.map (·.data.toList)) w h.holdsS hg (by simpa using hl)
      rw [List.length_map] at this
      refine this.mono ?_
      rintro e w' ⟨rfl, n, os, rfl⟩
      refine ⟨rfl, fun g' hg' => ?_, ?_⟩
      · injection hg' with hg'
        injection hg' with hg'
        subst hg'
        refine holds_grow _ _ _ _ _ _ (by simpa using hg) (holds_putRow encStr _ g 0 _ _ (holds_ahead encStr w n g 0 _ h.holdsS) ?_)
        simp [List.length_mergeSort]
      · exact (touch_putRow encStr w n g 0 _).trans (touch_grow _ os) (by simp)
theorem compact_own {w : World} {A : Option Addr} {c : Nat} {zs : List (List UInt8)} (hA : zs = [] ∨ ∃ g, A = some ⟨g, 0, none⟩) (h : ∀ g, A = some ⟨g, 0, none⟩ → Holds encStr w g 0 zs.toArray) (hl : zs.length ≤ 100000) (hc : zs.length ≤ c) :
    Calls Try.prog 50 #[.slice A zs.length c] w fun e w' => e = .returned (.slice A (Lib.compact zs).length c) ∧ RdK encS w' A ((Lib.compact zs).map mkS) ∧ Touch (fpo A) w w' := by
  rcases hA with rfl | ⟨g, rfl⟩
  · refine (Any.slices_Compact_string_empty Try.lays194 A c w).mono ?_
    rintro e w' ⟨rfl, rfl⟩
    exact ⟨rfl, fun h => absurd h (by simp [Lib.compact, Lib.compactUpTo]), Touch.refl _ _⟩
  · refine (Try.slices_Compact_string g 0 c zs w (h g rfl) (by omega) hc).mono ?_
    rintro e w' ⟨rfl, q, rfl⟩
    have hle := Lib.compact_length_le zs
    exact ⟨rfl, rdK_of_holds (holds_head (holds_putRow encStr _ g 0 _ _ (holds_ahead encStr w q g 0 _ (h g rfl)) (by simp; omega))), touch_putRow encStr w q g 0 _⟩
/-- the names of a list, in order, each once -/
def colsL (xs : List ByteArray) : List ByteArray := (Lib.compact (sortS xs)).map mkS
theorem compact_le (xs : List ByteArray) : (Lib.compact (sortS xs)).length ≤ xs.length := by
  have := Lib.compact_length_le (sortS xs)
  rwa [sortS_length] at this

set_option maxRecDepth 20000 in
set_option maxHeartbeats 1600000 in
theorem cols_any (n : Nat) (e : TX n) (x : XC) (w : World) (hx : ExP xcE (fun b => b < w.heap.size) n w x e) (hs : sizeX n e ≤ 100000) :
    Calls Try.prog 32 #[x.val] w fun r w' => ∃ A c, r = .returned (.slice A (colsL (namesX n e)).length c) ∧ RdK encS w' A (colsL (namesX n e)) ∧ (∀ b ∈ fpo A, w.heap.size ≤ b) ∧ Touch [] w w' := by
  obtain ⟨N, hN⟩ : ∃ N, N = namesX n e := ⟨_, rfl⟩
  have hNl : N.length ≤ 100000 := by rw [hN]; exact Nat.le_trans (names_len n e) hs
  have hw := fun (B : Nat) (w' : World) (t : Touch [] w w') (h : ColQ w' B none 0 []) (hB : w.heap.size ≤ B) => walk_any n e x w.heap.size B none 0 [] w' (hx.touch0 t) h hB (by simp [fpo]) t.size (by simpa using hs)
  rw [← hN] at hw
  rw [← hN]
  have Hw := Lib.hid hw
  clear hw hN hx hs
  obtain ⟨⟨k, nm, ⟨vk, vn, vt⟩, op⟩, Ax, m, cx⟩ := x
  dsimp only [XC.val] at Hw ⊢
  have t0 := ((Touch.refl [] w).alloc (.cells #[.int .i64 k, .string nm, .int .i64 vk, .int .i64 vn, .string vt, .string op, .slice Ax m cx] 33)).alloc (.cells #[.slice none 0 0] 73)
  have hq : ColQ ((w.alloc (.cells #[.int .i64 k, .string nm, .int .i64 vk, .int .i64 vn, .string vt, .string op, .slice Ax m cx] 33)).alloc (.cells #[.slice none 0 0] 73)) (w.heap.size + 1) none 0 [] := ⟨by have := heap_alloc_new (w.alloc (.cells #[.int .i64 k, .string nm, .int .i64 vk, .int .i64 vn, .string vt, .string op, .slice Ax m cx] 33)) (.cells #[.slice none 0 0] 73); rwa [World.size_alloc] at this, OwnK.nil _ _ _ _, by simp [fpo]⟩
  have Hc := Lib.hid (Hw.out _ _ t0 hq (by omega))
  have Ht0 := Lib.hid t0
  clear hq t0
  go_enter Try.func32, Try.ntmps32
  go_wp2_with fail
  refine Hc.out.mono ?_
  rintro r w1 ⟨rfl, A, c, ⟨ho, hown, hne⟩, hnew, t1⟩
  simp only [List.nil_append] at ho hown
  have hB := cell_blk ho (i := 0) rfl
  have Hs := Lib.hid (sort_own hown (by omega))
  go_wp2_with fail
  refine Hs.out.mono ?_
  rintro r w2 ⟨rfl, hh, t2⟩
  have hB2 := cell_blk (t2.blk ho hne) (i := 0) rfl
  have hC := compact_own (w := w2) (A := A) (c := c) (zs := sortS N) (by
    rcases hown.head with ⟨_, h1, _⟩ | h
    · left; simp [h1, sortS]
    · exact .inr h) hh (by rw [sortS_length]; omega) (by rw [sortS_length]; exact hown.le)
  rw [sortS_length] at hC
  have HC := Lib.hid hC
  clear hC hh hB
  go_wp2_with fail
  refine HC.out.mono ?_
  rintro r w3 ⟨rfl, hrd, t3⟩
  go_wp2_with fail
  go_ret
  have hge : ∀ b ∈ fpo A, w.heap.size ≤ b := fun b hb => by
    rcases hnew b hb with q | q
    · simp [fpo] at q
    · have := Ht0.out.size; omega
  refine ⟨A, c, by simp [colsL], hrd, hge, ((Ht0.out.trans t1 (fun b hb => ?_)).trans t2 (fun b hb => .inr (hge b hb))).trans t3 (fun b hb => .inr (hge b hb))⟩
  simp [fpo] at hb
  subst hb
  right; omega
end Go.Proofs.Ytlkckkagoommaaa

/- A schema in plain words: names, checks, texts, what is read back. No program. -/
namespace Go.Proofs.Ytlkckkagoommaaa

/-- a column -/
structure CD where
  name : ByteArray
  typ : Int

def letB (c : UInt8) : Bool := decide (97 ≤ c.toNat) && decide (c.toNat ≤ 122)
def innB (c : UInt8) : Bool := letB c || (decide (c.toNat = 95) || (decide (48 ≤ c.toNat) && decide (c.toNat ≤ 57)))
/-- is it a right name? -/
def nameV (s : List UInt8) : Bool := match s with
  | [] => false
  | c :: _ => decide (s.length ≤ 16) && (letB c && s.all innB)
/-- the error of a column behind others -/
def errC (pre : List CD) (c : CD) : Int :=
  if nameV c.name.data.toList = false then 13 else if c.typ ≠ 1 ∧ c.typ ≠ 2 then 12 else if (pre.any fun d => decide (d.name = c.name)) = true then 14 else 0
def chkL (pre : List CD) : List CD → Int
  | [] => 0
  | c :: r => if errC pre c = 0 then chkL (pre ++ [c]) r else errC pre c
def checkV (cs : List CD) : Int := if cs.length < 1 ∨ 16 < cs.length then 31 else chkL [] cs

theorem chk_step {cs : List CD} {k : Nat} (h : k < cs.length) : chkL (cs.take k) (cs.drop k) = if errC (cs.take k) cs[k] = 0 then chkL (cs.take (k + 1)) (cs.drop (k + 1)) else errC (cs.take k) cs[k] := by
  rw [List.drop_eq_getElem_cons h]
  show (if _ then _ else _) = _
  rw [List.take_succ_eq_append_getElem h]
theorem chk_zero {cs : List CD} {k : Nat} (h : chkL (cs.take k) (cs.drop k) = 0) (j : Nat) (h1 : k ≤ j) (h2 : j < cs.length) : errC (cs.take j) cs[j] = 0 := by
  have hk : k < cs.length := by omega
  rw [chk_step hk] at h
  by_cases he : errC (cs.take k) cs[k] = 0
  · rw [if_pos he] at h
    by_cases hj : j = k
    · subst hj; exact he
    · exact chk_zero h j (by omega) h2
  · rw [if_neg he] at h; exact absurd h he
termination_by cs.length - k
theorem errC_zero {pre : List CD} {c : CD} (h : errC pre c = 0) : nameV c.name.data.toList = true ∧ (c.typ = 1 ∨ c.typ = 2) ∧ ∀ d ∈ pre, d.name ≠ c.name := by
  unfold errC at h
  split at h
  · cases h
  · rename_i h1
    split at h
    · cases h
    · rename_i h2
      split at h
      · cases h
      · rename_i h3
        refine ⟨by simpa using h1, by omega, fun d hd he => h3 ?_⟩
        rw [List.any_eq_true]
        exact ⟨d, hd, by simpa using he⟩
theorem check_zero {cs : List CD} (h : checkV cs = 0) : 1 ≤ cs.length ∧ cs.length ≤ 16 ∧ ∀ j (hj : j < cs.length), nameV cs[j].name.data.toList = true ∧ (cs[j].typ = 1 ∨ cs[j].typ = 2) := by
  unfold checkV at h
  split at h
  · cases h
  · refine ⟨by omega, by omega, fun j hj => ?_⟩
    have := errC_zero (chk_zero (cs := cs) (k := 0) (by simpa using h) j (by omega) hj)
    exact ⟨this.1, this.2.1⟩
theorem errC_cases (pre : List CD) (c : CD) : errC pre c = 0 ∨ errC pre c = 12 ∨ errC pre c = 13 ∨ errC pre c = 14 := by
  unfold errC
  split
  · exact .inr (.inr (.inl rfl))
  · split
    · exact .inr (.inl rfl)
    · split
      · exact .inr (.inr (.inr rfl))
      · exact .inl rfl
theorem chkL_cases (pre cs : List CD) : chkL pre cs = 0 ∨ chkL pre cs = 12 ∨ chkL pre cs = 13 ∨ chkL pre cs = 14 := by
  induction cs generalizing pre with
  | nil => exact .inl rfl
  | cons c r ih =>
    have e : chkL pre (c :: r) = if errC pre c = 0 then chkL (pre ++ [c]) r else errC pre c := rfl
    rw [e]
    split
    · exact ih _
    · rcases errC_cases pre c with h | h
      · contradiction
      · exact .inr h
theorem checkV_cases (cs : List CD) : checkV cs = 0 ∨ (12 ≤ checkV cs ∧ checkV cs ≤ 31) := by
  unfold checkV
  split
  · exact .inr (by omega)
  · rcases chkL_cases [] cs with h | h
    · exact .inl h
    · right; omega

/-- the word of a type -/
def wordV (t : Int) : List UInt8 := if t = 1 then [105, 110, 116] else [116, 101, 120, 116]
def partV (c : CD) : List UInt8 := c.name.data.toList ++ 32 :: wordV c.typ
/-- the text of a right schema -/
def textV (cs : List CD) : List UInt8 := 40 :: (Lib.join (cs.map partV) [44, 32] ++ [41])
def showV (cs : List CD) : List UInt8 := if checkV cs = 0 then textV cs else []

/-- the pieces between ", " -/
def splitF (sep : List UInt8) : Nat → List UInt8 → List (List UInt8)
  | 0, s => [s]
  | f + 1, s => if Lib.index s sep = -1 then [s] else s.take (Lib.index s sep).toNat :: splitF sep f (s.drop ((Lib.index s sep).toNat + sep.length))
def splitV (s : List UInt8) (sep : List UInt8) : List (List UInt8) := splitF sep s.length s
/-- the type of a word -/
def typV (w : List UInt8) : Int := if w = [105, 110, 116] then 1 else if w = [116, 101, 120, 116] then 2 else 0
def colV (p : List UInt8) : CD := let x := Lib.cut p [32]; ⟨⟨x.1.toArray⟩, typV x.2.1⟩
/-- between the brackets -/
def bodyV (t : List UInt8) : List UInt8 := Lib.trimSuffix (Lib.trimPrefix t [40]) [41]
def colsV (t : List UInt8) : List CD := (splitV (bodyV t) [44, 32]).map colV
/-- the schema of a text -/
def parseV (t : List UInt8) : Option (List CD) := if t = [] ∨ showV (colsV t) ≠ t then none else some (colsV t)
end Go.Proofs.Ytlkckkagoommaaa

/- schema.letter, inner, Name; bywashref02.Name: is it a right name? For every text. -/
namespace Go.Proofs.Ytlkckkagoommaaa
open Go.RowKit

theorem S_get (t : List UInt8) (k : Nat) (h : k < (S t).size) : (S t)[k] = t[k]'(by rwa [S_size] at h) := rfl

theorem letter_any (x : UInt8) (w : World) : Calls Try.prog 77 #[.int .u8 x.toNat] w fun e w' => e = .returned (.bool (letB x)) ∧ w = w' := by
  have hx := x.toNat_lt
  go_enter Try.func77, Try.ntmps77
  go_wp2
  all_goals
    go_ret
    exact ⟨ret_bool (by rw [Bool.eq_iff_iff]; simp [letB]; omega), rfl⟩

theorem inner_any (x : UInt8) (w : World) : Calls Try.prog 78 #[.int .u8 x.toNat] w fun e w' => e = .returned (.bool (innB x)) ∧ w = w' := by
  have hx := x.toNat_lt
  rcases hl : letB x with _ | _
  · have hc := letter_any x w
    rw [hl] at hc
    have Hc := Lib.hid hc; have Hl := Lib.hid hl; clear hc hl
    go_enter Try.func78, Try.ntmps78
    go_wp2_with (go_at_call 77; refine Hc.out.mono ?_; rintro e w' ⟨rfl, rfl⟩)
    all_goals
      go_ret
      exact ⟨ret_bool (by rw [Bool.eq_iff_iff]; simp [innB, Hl.out]; omega), rfl⟩
  · have hc := letter_any x w
    rw [hl] at hc
    have Hc := Lib.hid hc; have Hl := Lib.hid hl; clear hc hl
    go_enter Try.func78, Try.ntmps78
    go_wp2_with (go_at_call 77; refine Hc.out.mono ?_; rintro e w' ⟨rfl, rfl⟩)
    all_goals
      go_ret
      exact ⟨ret_bool (by rw [Bool.eq_iff_iff]; simp [innB, Hl.out]), rfl⟩

theorem nameV_cons (c : UInt8) (r : List UInt8) : nameV (c :: r) = (decide ((c :: r).length ≤ 16) && (letB c && (c :: r).all innB)) := rfl
theorem letB_int (x : UInt8) : letB x = (decide (97 ≤ (x.toNat : Int)) && decide ((x.toNat : Int) ≤ 122)) := by
  unfold letB
  congr 1 <;> exact decide_eq_decide.2 (by omega)
theorem innB_int (x : UInt8) : innB x = (letB x || (decide ((x.toNat : Int) = 95) || (decide (48 ≤ (x.toNat : Int)) && decide ((x.toNat : Int) ≤ 57)))) := by
  unfold innB
  congr 1; congr 1
  · exact decide_eq_decide.2 (by omega)
  · congr 1 <;> exact decide_eq_decide.2 (by omega)
/-- a byte that spoils a name -/
theorem nameV_bad {t : List UInt8} {k : Nat} (h : k < t.length) (hb : innB t[k] = false) : nameV t = false := by
  cases t with
  | nil => rfl
  | cons c r =>
    have : (c :: r).all innB = false := by
      rw [List.all_eq_false]
      exact ⟨_, List.getElem_mem h, by rw [hb]; simp⟩
    rw [nameV_cons, this, Bool.and_false, Bool.and_false]

set_option maxRecDepth 20000 in
set_option maxHeartbeats 1600000 in
theorem name_any (t : List UInt8) (hs : t.length ≤ 140737000000000) (w : World) :
    Calls Try.prog 61 #[.string (S t)] w fun e w' => e = .returned (.bool (nameV t)) ∧ Touch [] w w' := by
  have hsz := S_size t
  by_cases h0 : t = []
  · subst h0
    go_enter Try.func61, Try.ntmps61
    have h1 : (S []).toList = [] := by rw [S_list]
    go_wp2
    go_ret
    exact ⟨rfl, Touch.refl _ _⟩
  · have hl0 : 0 < t.length := List.length_pos_iff.2 h0
    have hq : (S t).toList.isEmpty = false := by rw [S_list]; cases t; exact absurd rfl h0; rfl
    have hq2 : ((S t).toList == []) = false := by rw [S_list]; cases t; exact absurd rfl h0; rfl
    have hq3 : ((S t).toList = []) = False := eq_false (by rw [S_list]; exact h0)
    by_cases h16 : 16 < t.length
    · have hn : nameV t = false := by
        cases t with
        | nil => rfl
        | cons c r => rw [nameV_cons, decide_eq_false (by omega)]; rfl
      have Hn := Lib.hid hn; clear hn h0
      go_enter Try.func61, Try.ntmps61
      go_wp2
      go_ret
      exact ⟨ret_bool Hn.out.symm, Touch.refl _ _⟩
    have hg0 := S_get t 0 (by rw [hsz]; exact hl0)
    obtain ⟨x, hx⟩ : ∃ x, x = t[0] := ⟨_, rfl⟩
    rw [← hx] at hg0
    have Hx := Lib.hid hx; clear hx
    have hc := letter_any x w
    rcases hl : letB x with _ | _
    · have hn : nameV t = false := by
        cases t with
        | nil => rfl
        | cons c r =>
          have : x = c := Hx.out
          rw [nameV_cons, ← this, hl, Bool.false_and, Bool.and_false]
      rw [hl] at hc
      have Hn := Lib.hid hn; have Hc := Lib.hid hc; clear hn h0 hl hc
      go_enter Try.func61, Try.ntmps61
      go_wp2_with (go_at_call 77; refine Hc.out.mono ?_; rintro e w' ⟨rfl, rfl⟩)
      go_ret
      exact ⟨ret_bool Hn.out.symm, Touch.refl _ _⟩
    · rw [hl] at hc
      have Hc := Lib.hid hc; have Hl := Lib.hid hl; clear hl hc h0
      go_enter Try.func61, Try.ntmps61
      have hconv := run_bytes_of t w
      have hr := rd_bytes w t
      have ht := touch_bytes w t
      obtain ⟨W, hW⟩ : ∃ W, W = Lib.bytesWorld w 5 (S t) := ⟨_, rfl⟩
      rw [← hW] at hconv hr ht
      clear hW
      go_wp2_with (go_at_call 77; refine Hc.out.mono ?_; rintro e w' ⟨rfl, rfl⟩)
      clear hconv Hc hg0 hq hq2 hq3
      go_loop [21] (fun i => ∃ k : Nat, k ≤ t.length ∧ i = .int .i64 k ∧ Hid ((t.take k).all innB = true)) (fun i => t.length - (intOf i).toNat)
      case atStart => exact ⟨0, by omega, rfl, Lib.hid rfl⟩
      case round =>
        obtain ⟨k, hk, rfl, hall⟩ := hrel
        by_cases hlt : k < t.length
        · obtain ⟨ad, e1, hcell⟩ := hr.at_ k hlt
          obtain rfl : ⟨w.heap.size, 0, none⟩ = ad := by injection e1
          obtain ⟨y, hy⟩ : ∃ y, y = t[k] := ⟨_, rfl⟩
          have hadd : (⟨w.heap.size, 0, none⟩ : Addr).add k = ⟨w.heap.size, k, none⟩ := by unfold Addr.add; split <;> simp_all
          rw [← hy, hadd] at hcell
          have Hy := Lib.hid hy; clear hy e1 hadd
          have hc := inner_any y W
          rcases hl : innB y with _ | _
          · rw [hl] at hc
            have Hc := Lib.hid hc; clear hc
            have Hn := Lib.hid (nameV_bad hlt (by rw [← Hy.out]; exact hl)); clear hl
            go_wp2_with (go_at_call 78; refine Hc.out.mono ?_; rintro e w' ⟨rfl, rfl⟩)
            go_ret
            exact ⟨ret_bool Hn.out.symm, ht⟩
          · rw [hl] at hc
            have Hc := Lib.hid hc; have Hl2 := Lib.hid hl; clear hc hl
            go_wp2_with (go_at_call 78; refine Hc.out.mono ?_; rintro e w' ⟨rfl, rfl⟩)
            go_round
            case rel => exact ⟨k + 1, by omega, by go_num, Lib.hid (by
              rw [List.take_succ_eq_append_getElem hlt, List.all_append, hall.out, ← Hy.out]
              simp [Hl2.out])⟩
            case measure => simp [intOf]; omega
        · obtain rfl : k = t.length := by omega
          go_wp2
          go_ret
          refine ⟨ret_bool (Eq.symm ?_), ht⟩
          have h := hall.out
          rw [List.take_length] at h
          cases t with
          | nil => simp at hl0
          | cons c r =>
            have e : x = c := Hx.out
            subst e
            rw [nameV_cons, h, Hl.out, decide_eq_true (by omega)]; rfl

end Go.Proofs.Ytlkckkagoommaaa

/- bywashref01.Bytes: the order of two texts. For every texts. -/
namespace Go.Proofs.Ytlkckkagoommaaa
open Go.RowKit
theorem bytes_step {a b : List UInt8} {k : Nat} (h1 : k < a.length) (h2 : k < b.length) : Lib.compareBytes (a.drop k) (b.drop k) = if a[k] < b[k] then -1 else if b[k] < a[k] then 1 else Lib.compareBytes (a.drop (k + 1)) (b.drop (k + 1)) := by
  rw [List.drop_eq_getElem_cons h1, List.drop_eq_getElem_cons h2]; rfl
theorem bytes_end (a b : List UInt8) (h : a = [] ∨ b = []) : Lib.compareBytes a b = if a.length < b.length then -1 else if b.length < a.length then 1 else 0 := by
  rcases h with rfl | rfl
  · cases b <;> rfl
  · cases a <;> rfl

set_option maxRecDepth 20000 in
set_option maxHeartbeats 1600000 in
theorem refBytes_any (a b : List UInt8) (ha : a.length ≤ 9223372036854775807) (hb : b.length ≤ 9223372036854775807) (w : World) :
    Calls Try.prog 33 #[.string (S a), .string (S b)] w fun e w' => e = .returned (.int .i64 (Lib.compareBytes a b)) ∧ Touch [] w w' := by
  have hsa := S_size a
  have hsb := S_size b
  go_enter Try.func33, Try.ntmps33
  go_wp2
  go_loopw [5] (fun i wr => ∃ k : Nat, k ≤ a.length ∧ k ≤ b.length ∧ i = .int .i64 k ∧ Hid (Lib.compareBytes a b = Lib.compareBytes (a.drop k) (b.drop k)) ∧ Touch [] w wr) (fun i _ => a.length - (intOf i).toNat)
  case atStart => exact ⟨0, by omega, by omega, rfl, Lib.hid rfl, Touch.refl _ _⟩
  case round =>
    obtain ⟨k, hka, hkb, rfl, Ho, ht⟩ := hrel
    by_cases hlt : k < a.length ∧ k < b.length
    · obtain ⟨h1, h2⟩ := hlt
      have hst := bytes_step h1 h2
      obtain ⟨x, hx⟩ : ∃ x, x = a[k] := ⟨_, rfl⟩
      obtain ⟨y, hy⟩ : ∃ y, y = b[k] := ⟨_, rfl⟩
      have hg := S_get a k (by rw [hsa]; exact h1)
      have hg2 := S_get b k (by rw [hsb]; exact h2)
      rw [← hx] at hst hg
      rw [← hy] at hst hg2
      simp only [UInt8.lt_iff_toNat_lt] at hst
      have hxl := x.toNat_lt
      have hyl := y.toNat_lt
      have Hst := Lib.hid hst
      have h1I : (k : Int) < (a.length : Int) := by omega
      have h2I : (k : Int) < (b.length : Int) := by omega
      have h0I : (0 : Int) ≤ (k : Int) := by omega
      clear hst hx hy
      rcases Nat.lt_trichotomy x.toNat y.toNat with hq | hq | hq
      · have Hq := Lib.hid (show Lib.compareBytes a b = -1 by rw [Ho.out, Hst.out, if_pos hq])
        go_wp2
        go_quiet (fail)
        go_wp2
        go_ret
        exact ⟨ret_int Hq.out.symm, ht.drewN _⟩
      · have Hq := Lib.hid (show Lib.compareBytes a b = Lib.compareBytes (a.drop (k + 1)) (b.drop (k + 1)) by rw [Ho.out, Hst.out, if_neg (by omega), if_neg (by omega)])
        obtain rfl : x = y := UInt8.toNat_inj.1 hq
        clear hq
        go_wp2
        go_quiet (fail)
        go_wp2
        go_quiet (fail)
        go_wp2
        go_roundw
        case rel => exact ⟨k + 1, by omega, by omega, by go_num, Hq, ht.drewN _⟩
        case measure => simp [intOf]; omega
      · have Hq := Lib.hid (show Lib.compareBytes a b = 1 by rw [Ho.out, Hst.out, if_neg (by omega), if_pos hq])
        have hq2 : ¬ x.toNat < y.toNat := by omega
        go_wp2
        go_quiet (fail)
        go_wp2
        go_quiet (fail)
        go_wp2
        go_ret
        exact ⟨ret_int Hq.out.symm, (ht.drewN _).drewN _⟩
    · have hend : a.drop k = [] ∨ b.drop k = [] := by
        rcases (show k = a.length ∨ k = b.length by omega) with e | e
        · left; rw [e]; exact List.drop_length
        · right; rw [e]; exact List.drop_length
      have hE := bytes_end _ _ hend
      rw [List.length_drop, List.length_drop] at hE
      have HE := Lib.hid hE
      clear hE hend
      rcases Nat.lt_trichotomy a.length b.length with hq | hq | hq
      · have Hq := Lib.hid (show Lib.compareBytes a b = -1 by rw [Ho.out, HE.out, if_pos (by omega)])
        obtain rfl : k = a.length := by omega
        have hqI : (a.length : Int) < (b.length : Int) := by omega
        clear HE Ho hlt
        go_wp2
        go_ret
        exact ⟨ret_int Hq.out.symm, ht⟩
      · have Hq := Lib.hid (show Lib.compareBytes a b = 0 by rw [Ho.out, HE.out, if_neg (by omega), if_neg (by omega)])
        obtain rfl : k = a.length := by omega
        clear HE Ho hlt
        go_wp2
        go_ret
        exact ⟨ret_int Hq.out.symm, ht⟩
      · have Hq := Lib.hid (show Lib.compareBytes a b = 1 by rw [Ho.out, HE.out, if_neg (by omega), if_pos (by omega)])
        obtain rfl : k = b.length := by omega
        have hqI : (b.length : Int) < (a.length : Int) := by omega
        clear HE Ho hlt
        go_wp2
        go_ret
        exact ⟨ret_int Hq.out.symm, ht⟩
theorem refBytes_anyB (a b : ByteArray) (ha : a.size ≤ 9223372036854775807) (hb : b.size ≤ 9223372036854775807) (w : World) :
    Calls Try.prog 33 #[.string a, .string b] w fun e w' => e = .returned (.int .i64 (Lib.compareBytes a.data.toList b.data.toList)) ∧ Touch [] w w' := by
  have := refBytes_any a.data.toList b.data.toList (by rw [← S_size, S_of]; exact ha) (by rw [← S_size, S_of]; exact hb) w
  rwa [S_of, S_of] at this
end Go.Proofs.Ytlkckkagoommaaa

/- An expression in one list, each with the number of its Args: what is built of it. No walk. -/
namespace Go.Proofs.Ytlkckkagoommaaa
open Go.RowKit

/-- bywashlaw04.Plain -/
structure PL where
  nd : ND
  cnt : Int
def plE (p : PL) : List Value := [.int .i64 p.nd.kind, .string p.nd.name, .int .i64 p.nd.v.kind, .int .i64 p.nd.v.num, .string p.nd.v.text, .string p.nd.op, .int .i64 p.cnt]
theorem plE_length (p : PL) : (plE p).length = 7 := rfl
def PlsAt (w : World) (A : Option Addr) (l : List PL) : Prop := RdK plE w A l
def zeroP : PL := ⟨⟨0, S [], ⟨0, 0, S []⟩, S []⟩, 0⟩
/-- so many Args at most, one behind the other; what they take together -/
def kidsX {α : Type} (f : List PL → α × Nat) : Nat → List PL → List α × Nat
  | 0, _ => ([], 0)
  | _ + 1, [] => ([], 0)
  | k + 1, p :: l => ((f (p :: l)).1 :: (kidsX f k ((p :: l).drop (f (p :: l)).2)).1, (f (p :: l)).2 + (kidsX f k ((p :: l).drop (f (p :: l)).2)).2)
theorem kidsX_zero {α : Type} (f : List PL → α × Nat) (l : List PL) : kidsX f 0 l = ([], 0) := by cases l <;> rfl
theorem kidsX_nil {α : Type} (f : List PL → α × Nat) (k : Nat) : kidsX f k [] = ([], 0) := by cases k <;> rfl
theorem kidsX_step {α : Type} (f : List PL → α × Nat) (k : Nat) {l : List PL} (h : l ≠ []) : kidsX f (k + 1) l = ((f l).1 :: (kidsX f k (l.drop (f l).2)).1, (f l).2 + (kidsX f k (l.drop (f l).2)).2) := by
  cases l with
  | nil => exact absurd rfl h
  | cons p l => rfl
/-- what is built, of so many levels more, and how many it takes -/
def buildX : (m : Nat) → List PL → TX (m + 1) × Nat
  | 0, l => ((((l.headD zeroP).nd, []) : TX 1), 1)
  | m + 1, l => ((((l.headD zeroP).nd, (kidsX (buildX m) (l.headD zeroP).cnt.toNat l.tail).1) : TX (m + 2)), 1 + (kidsX (buildX m) (l.headD zeroP).cnt.toNat l.tail).2)
theorem buildX_succ (m : Nat) (l : List PL) : buildX (m + 1) l = ((((l.headD zeroP).nd, (kidsX (buildX m) (l.headD zeroP).cnt.toNat l.tail).1) : TX (m + 2)), 1 + (kidsX (buildX m) (l.headD zeroP).cnt.toNat l.tail).2) := rfl
theorem kidsX_le {α : Type} {f : List PL → α × Nat} (hf : ∀ l, l ≠ [] → (f l).2 ≤ l.length) : ∀ (k : Nat) (l : List PL), (kidsX f k l).2 ≤ l.length
  | 0, l => by rw [kidsX_zero]; exact Nat.zero_le _
  | k + 1, [] => by rw [kidsX_nil]; exact Nat.zero_le _
  | k + 1, p :: l => by
    rw [kidsX_step f k (by simp)]
    have h1 := hf (p :: l) (by simp)
    have h2 := kidsX_le hf k ((p :: l).drop (f (p :: l)).2)
    rw [List.length_drop] at h2
    simp only
    omega
theorem buildX_pos (m : Nat) (l : List PL) : 1 ≤ (buildX m l).2 := by
  cases m with
  | zero => exact Nat.le_refl 1
  | succ m => rw [buildX_succ]; simp only; omega
theorem buildX_le : ∀ (m : Nat) (l : List PL), l ≠ [] → (buildX m l).2 ≤ l.length
  | 0, l => fun h => by
    cases l with
    | nil => exact absurd rfl h
    | cons p l => show 1 ≤ _; simp
  | m + 1, l => fun h => by
    rw [buildX_succ]
    have := kidsX_le (f := buildX m) (fun l h => buildX_le m l h) (l.headD zeroP).cnt.toNat l.tail
    cases l with
    | nil => exact absurd rfl h
    | cons p l => simp only [List.tail_cons, List.length_cons] at this ⊢; omega
/-- as many expressions as it takes -/
theorem kidsX_size {m : Nat} {f : List PL → TX (m + 1) × Nat} (hf : ∀ l, l ≠ [] → sizeX (m + 1) (f l).1 = (f l).2) : ∀ (k : Nat) (l : List PL), sumX (m + 1) (kidsX f k l).1 = (kidsX f k l).2
  | 0, l => by rw [kidsX_zero]; rfl
  | k + 1, [] => by rw [kidsX_nil]; rfl
  | k + 1, p :: l => by
    rw [kidsX_step f k (by simp)]
    have h1 := hf (p :: l) (by simp)
    have h2 := kidsX_size hf k ((p :: l).drop (f (p :: l)).2)
    unfold sumX at h2 ⊢
    simp only [List.map_cons, List.sum_cons]
    omega
theorem buildX_size : ∀ (m : Nat) (l : List PL), sizeX (m + 1) (buildX m l).1 = (buildX m l).2
  | 0, l => rfl
  | m + 1, l => by
    rw [buildX_succ]
    have := kidsX_size (f := buildX m) (fun l _ => buildX_size m l) (l.headD zeroP).cnt.toNat l.tail
    show 1 + sumX (m + 1) _ = 1 + _
    rw [this]
theorem kidsX_all {m : Nat} {q : ND → Prop} {f : List PL → TX (m + 1) × Nat} (hf : ∀ l, l ≠ [] → (∀ p ∈ l, q p.nd) → allX q (m + 1) (f l).1) : ∀ (k : Nat) (l : List PL), (∀ p ∈ l, q p.nd) → ∀ a ∈ (kidsX f k l).1, allX q (m + 1) a
  | 0, l => fun _ a ha => by rw [kidsX_zero] at ha; cases ha
  | k + 1, [] => fun _ a ha => by rw [kidsX_nil] at ha; cases ha
  | k + 1, p :: l => fun h a ha => by
    rw [kidsX_step f k (by simp)] at ha
    rcases List.mem_cons.1 ha with rfl | ha
    · exact hf _ (by simp) h
    · exact kidsX_all hf k _ (fun x hx => h x (List.mem_of_mem_drop hx)) a ha
theorem buildX_all {q : ND → Prop} : ∀ (m : Nat) (l : List PL), l ≠ [] → (∀ p ∈ l, q p.nd) → allX q (m + 1) (buildX m l).1
  | 0, l => fun h hq => by
    cases l with
    | nil => exact absurd rfl h
    | cons p l => exact ⟨hq p List.mem_cons_self, fun a ha => by cases ha⟩
  | m + 1, l => fun h hq => by
    cases l with
    | nil => exact absurd rfl h
    | cons p l =>
      rw [buildX_succ]
      exact ⟨hq p List.mem_cons_self, fun a ha => kidsX_all (fun l h hq => buildX_all m l h hq) _ _ (fun x hx => hq x (List.mem_cons_of_mem _ hx)) a ha⟩
/-- how many there are at most -/
theorem kidsX_len {α : Type} (f : List PL → α × Nat) : ∀ (k : Nat) (l : List PL), (kidsX f k l).1.length ≤ k
  | 0, l => by rw [kidsX_zero]; exact Nat.le_refl _
  | k + 1, [] => by rw [kidsX_nil]; exact Nat.zero_le _
  | k + 1, p :: l => by
    rw [kidsX_step f k (by simp)]
    have := kidsX_len f k ((p :: l).drop (f (p :: l)).2)
    simp only [List.length_cons]; omega
/-- how far the loop has come: these built, so many taken -/
def Come {α : Type} (f : List PL → α × Nat) (k : Nat) (l : List PL) (j t : Nat) (bs : List α) : Prop :=
  bs.length = j ∧ 1 ≤ t ∧ t ≤ l.length ∧ j ≤ k ∧ kidsX f k l.tail = (bs ++ (kidsX f (k - j) (l.drop t)).1, t - 1 + (kidsX f (k - j) (l.drop t)).2)
theorem Come.start {α : Type} (f : List PL → α × Nat) (k : Nat) {l : List PL} (h : l ≠ []) : Come f k l 0 1 [] := by
  cases l with
  | nil => exact absurd rfl h
  | cons p l => exact ⟨rfl, by omega, by simp, by omega, by simp⟩
theorem Come.step {α : Type} {f : List PL → α × Nat} {k : Nat} {l : List PL} {j t : Nat} {bs : List α} (h : Come f k l j t bs) (hj : j < k) (ht : t < l.length) (hf : (f (l.drop t)).2 ≤ (l.drop t).length) :
    Come f k l (j + 1) (t + (f (l.drop t)).2) (bs ++ [(f (l.drop t)).1]) := by
  obtain ⟨h1, h2, h3, h4, h5⟩ := h
  have hne : l.drop t ≠ [] := fun q => by have := congrArg List.length q; rw [List.length_drop] at this; simp at this; omega
  obtain ⟨r, hr⟩ : ∃ r, k - j = r + 1 := ⟨k - j - 1, by omega⟩
  rw [hr, kidsX_step f r hne, List.drop_drop] at h5
  rw [List.length_drop] at hf
  refine ⟨by simp [h1], by omega, by omega, by omega, ?_⟩
  rw [h5, show k - (j + 1) = r by omega]
  exact Prod.ext (by simp) (by simp only; omega)
theorem Come.stop {α : Type} {f : List PL → α × Nat} {k : Nat} {l : List PL} {j t : Nat} {bs : List α} (h : Come f k l j t bs) (hj : k ≤ j ∨ l.length ≤ t) : kidsX f k l.tail = (bs, t - 1) := by
  obtain ⟨_, _, _, h4, h5⟩ := h
  rw [h5]
  rcases hj with hj | hj
  · rw [show k - j = 0 by omega, kidsX_zero]; simp
  · rw [List.drop_of_length_le hj, kidsX_nil]; simp
end Go.Proofs.Ytlkckkagoommaaa

/- What is built hangs on those that it takes, and tells them. No walk. -/
namespace Go.Proofs.Ytlkckkagoommaaa
open Go.RowKit

/-- as many Args each -/
def SameC (l r : List PL) : Prop := l.map PL.cnt = r.map PL.cnt
theorem SameC.drop {l r : List PL} (h : SameC l r) (n : Nat) : SameC (l.drop n) (r.drop n) := by unfold SameC at h ⊢; rw [List.map_drop, List.map_drop, h]
theorem SameC.len {l r : List PL} (h : SameC l r) : l.length = r.length := by have := congrArg List.length h; simpa using this
theorem SameC.tail {l r : List PL} (h : SameC l r) : SameC l.tail r.tail := by have := h.drop 1; rwa [List.drop_one, List.drop_one] at this
theorem SameC.head {l r : List PL} (h : SameC l r) : (l.headD zeroP).cnt = (r.headD zeroP).cnt := by
  cases l with
  | nil => cases r with
    | nil => rfl
    | cons b r => cases h
  | cons a l => cases r with
    | nil => cases h
    | cons b r => exact (List.cons.inj h).1
theorem SameC.nil {l r : List PL} (h : SameC l r) (hl : l ≠ []) : r ≠ [] := fun q => by
  have := h.len
  rw [q] at this
  exact hl (List.eq_nil_of_length_eq_zero (by simpa using this))
theorem kids_same {α : Type} {f : List PL → α × Nat} (hf : ∀ l r, SameC l r → (f l).2 = (f r).2) : ∀ (k : Nat) (l r : List PL), SameC l r → (kidsX f k l).2 = (kidsX f k r).2
  | 0, l, r => fun _ => by rw [kidsX_zero, kidsX_zero]
  | k + 1, l, r => fun h => by
    by_cases hl : l = []
    · subst hl
      have : r = [] := List.eq_nil_of_length_eq_zero (by have := h.len; simpa using this.symm)
      rw [this]
    · rw [kidsX_step f k hl, kidsX_step f k (h.nil hl)]
      have h1 := hf l r h
      have h2 := kids_same hf k _ _ (h.drop (f l).2)
      simp only
      rw [h1] at h2 ⊢
      rw [h2]
theorem build_same : ∀ (m : Nat) (l r : List PL), SameC l r → (buildX m l).2 = (buildX m r).2
  | 0, _, _ => fun _ => rfl
  | m + 1, l, r => fun h => by
    rw [buildX_succ, buildX_succ]
    simp only
    rw [h.head, kids_same (build_same m) _ _ _ h.tail]
theorem take_parts {α : Type} {l r : List α} {a b : Nat} (h : l.take (a + b) = r.take (a + b)) : l.take a = r.take a ∧ (l.drop a).take b = (r.drop a).take b := by
  constructor
  · have := congrArg (List.take a) h
    rwa [List.take_take, List.take_take, Nat.min_eq_left (by omega)] at this
  · have := congrArg (List.drop a) h
    rwa [List.drop_take, List.drop_take, Nat.add_sub_cancel_left] at this
theorem kids_agree {α : Type} {f : List PL → α × Nat} (hf : ∀ l r, SameC l r → l ≠ [] → l.take (f l).2 = r.take (f l).2 → (f l).1 = (f r).1) (hf2 : ∀ l r, SameC l r → (f l).2 = (f r).2) :
    ∀ (k : Nat) (l r : List PL), SameC l r → l.take (kidsX f k l).2 = r.take (kidsX f k l).2 → (kidsX f k l).1 = (kidsX f k r).1
  | 0, l, r => fun _ _ => by rw [kidsX_zero, kidsX_zero]
  | k + 1, l, r => fun h ha => by
    by_cases hl : l = []
    · subst hl
      have : r = [] := List.eq_nil_of_length_eq_zero (by have := h.len; simpa using this.symm)
      rw [this]
    · rw [kidsX_step f k hl] at ha
      simp only at ha
      obtain ⟨h1, h2⟩ := take_parts ha
      rw [kidsX_step f k hl, kidsX_step f k (h.nil hl), ← hf2 l r h, hf l r h hl h1, kids_agree hf hf2 k _ _ (h.drop _) h2]
theorem build_agree : ∀ (m : Nat) (l r : List PL), SameC l r → l ≠ [] → l.take (buildX m l).2 = r.take (buildX m l).2 → (buildX m l).1 = (buildX m r).1
  | 0, l, r => fun h hl ha => by
    cases l with
    | nil => exact absurd rfl hl
    | cons a l => cases r with
      | nil => cases h
      | cons b r =>
        have : a = b := (List.cons.inj ha).1
        subst this; rfl
  | m + 1, l, r => fun h hl ha => by
    cases l with
    | nil => exact absurd rfl hl
    | cons a l => cases r with
      | nil => cases h
      | cons b r =>
        rw [buildX_succ] at ha
        simp only [List.headD_cons, List.tail_cons] at ha
        rw [Nat.add_comm, List.take_succ_cons, List.take_succ_cons] at ha
        obtain ⟨h1, h2⟩ := List.cons.inj ha
        subst h1
        rw [buildX_succ, buildX_succ]
        simp only [List.headD_cons, List.tail_cons]
        exact congrArg (fun q => ((a.nd, q) : TX (m + 2))) (kids_agree (build_agree m) (build_same m) _ l r h.tail h2)
/-- an expression and those within, in a row -/
def flatX : (n : Nat) → TX n → List ND
  | 0, _ => []
  | n + 1, e => e.1 :: e.2.flatMap (flatX n)
theorem kids_flat {m : Nat} {f : List PL → TX (m + 1) × Nat} (hf : ∀ l, l ≠ [] → flatX (m + 1) (f l).1 = (l.take (f l).2).map PL.nd) : ∀ (k : Nat) (l : List PL), (kidsX f k l).1.flatMap (flatX (m + 1)) = (l.take (kidsX f k l).2).map PL.nd
  | 0, l => by rw [kidsX_zero]; rfl
  | k + 1, l => by
    by_cases hl : l = []
    · subst hl; rw [kidsX_nil]; rfl
    · rw [kidsX_step f k hl]
      simp only
      rw [List.flatMap_cons, hf l hl, kids_flat hf k, List.take_add, List.map_append]
theorem build_flat : ∀ (m : Nat) (l : List PL), l ≠ [] → flatX (m + 1) (buildX m l).1 = (l.take (buildX m l).2).map PL.nd
  | 0, l => fun hl => by
    cases l with
    | nil => exact absurd rfl hl
    | cons a l => rfl
  | m + 1, l => fun hl => by
    cases l with
    | nil => exact absurd rfl hl
    | cons a l =>
      rw [buildX_succ]
      simp only [List.headD_cons, List.tail_cons]
      show a.nd :: List.flatMap (flatX (m + 1)) _ = _
      rw [kids_flat (build_flat m), Nat.add_comm 1, List.take_succ_cons, List.map_cons]
/-- a list that differs in one thing makes another expression just if the thing is taken -/
theorem build_other (m : Nat) (l r : List PL) (i : Nat) (hi : i < l.length) (h : SameC l r) (hr : ∀ j, j ≠ i → r[j]? = l[j]?) (hn : ∀ a b, l[i]? = some a → r[i]? = some b → a.nd ≠ b.nd) :
    (buildX m l).1 = (buildX m r).1 ↔ (buildX m l).2 ≤ i := by
  have hl : l ≠ [] := fun q => by rw [q] at hi; simp at hi
  constructor
  · intro he
    rcases Nat.lt_or_ge i (buildX m l).2 with hlt | hge
    · exfalso
      have h1 := build_flat m l hl
      have h2 := build_flat m r (h.nil hl)
      rw [← he, ← build_same m l r h] at h2
      rw [h1] at h2
      have h3 := congrArg (fun x : List ND => x[i]?) h2
      have hi2 : i < r.length := by rw [← h.len]; exact hi
      simp only [List.getElem?_map, List.getElem?_take, if_pos hlt, List.getElem?_eq_getElem hi, List.getElem?_eq_getElem hi2, Option.map_some, Option.some.injEq] at h3
      exact hn _ _ (List.getElem?_eq_getElem hi) (List.getElem?_eq_getElem hi2) h3
    · exact hge
  · intro hge
    refine build_agree m l r h hl (List.ext_getElem? fun j => ?_)
    rw [List.getElem?_take, List.getElem?_take]
    split
    · exact (hr j (by omega)).symm
    · rfl
end Go.Proofs.Ytlkckkagoommaaa

/- Rows of numbers as they lie in memory. No program's function. -/
namespace Go.Proofs.Ytlkckkagoommaaa
open Go.RowKit

/-- a number's cell -/
def inE (n : Int) : List Value := [.int .i64 n]
theorem inE_length (n : Int) : (inE n).length = 1 := rfl
theorem inE_one (n : Int) : ∀ u ∈ inE n, u.oneCell' = true := by
  intro u hu
  obtain rfl : u = .int .i64 n := by simpa [inE] using hu
  rfl
theorem RdKI.at_ {w : World} {A : Option Addr} {l : List Int} (h : RdK inE w A l) (i : Nat) (hi : i < l.length) : ∃ ad, A = some ad ∧ w.cell? (ad.add i) = some (.int .i64 l[i]) := by
  obtain ⟨ad, b, off, h1, h2, _, h3⟩ := RdK.at_ h 1 inE_length (by omega) i hi
  rw [Nat.mul_one] at h2
  exact ⟨ad, h1, by rw [h2]; exact h3 0 _ rfl⟩
end Go.Proofs.Ytlkckkagoommaaa

/- The order of values and of rows: cmp.Or, value.Value.Cmp. For every values. -/
namespace Go.Proofs.Ytlkckkagoommaaa
open Go.RowKit

/-- the first that is not 0 -/
def orV : List Int → Int
  | [] => 0
  | x :: r => if x = 0 then orV r else x
def cmpVV (a b : VD) : Int := orV [Lib.compareInt a.kind b.kind, Lib.compareInt a.num b.num, Lib.compareBytes a.text.data.toList b.text.data.toList]
def cmpRV : List VD → List VD → Int
  | [], [] => 0
  | [], _ :: _ => -1
  | _ :: _, [] => 1
  | a :: l, b :: r => if cmpVV a b = 0 then cmpRV l r else cmpVV a b

theorem compareInt_neg (x y : Int) : Lib.compareInt y x = -Lib.compareInt x y := by
  unfold Lib.compareInt
  split <;> split <;> (try split) <;> omega
theorem compareInt_b (x y : Int) : -1 ≤ Lib.compareInt x y ∧ Lib.compareInt x y ≤ 1 := by
  unfold Lib.compareInt
  split <;> (try split) <;> omega
theorem compareBytes_neg : ∀ (x y : List UInt8), Lib.compareBytes y x = -Lib.compareBytes x y
  | [], [] => rfl
  | [], _ :: _ => rfl
  | _ :: _, [] => rfl
  | a :: l, b :: r => by
    unfold Lib.compareBytes
    by_cases h1 : a < b
    · have h2 : ¬ b < a := by rw [UInt8.lt_iff_toNat_lt] at h1 ⊢; omega
      rw [if_neg h2, if_pos h1, if_pos h1]; rfl
    · by_cases h2 : b < a
      · rw [if_pos h2, if_neg h1, if_pos h2]
      · rw [if_neg h2, if_neg h1, if_neg h1, if_neg h2]; exact compareBytes_neg l r
theorem compareBytes_b : ∀ (x y : List UInt8), -1 ≤ Lib.compareBytes x y ∧ Lib.compareBytes x y ≤ 1
  | [], [] => ⟨by decide, by decide⟩
  | [], _ :: _ => ⟨Int.le_refl (-1), show (-1 : Int) ≤ 1 by decide⟩
  | _ :: _, [] => ⟨show (-1 : Int) ≤ 1 by decide, Int.le_refl 1⟩
  | a :: l, b :: r => by
    unfold Lib.compareBytes
    split
    · omega
    · split
      · omega
      · exact compareBytes_b l r
theorem cmpVV_neg (a b : VD) : cmpVV b a = -cmpVV a b := by
  unfold cmpVV
  rw [compareInt_neg a.kind, compareInt_neg a.num, compareBytes_neg a.text.data.toList]
  generalize Lib.compareInt a.kind b.kind = x
  generalize Lib.compareInt a.num b.num = y
  generalize Lib.compareBytes a.text.data.toList b.text.data.toList = z
  simp only [orV]
  by_cases h1 : x = 0 <;> by_cases h2 : y = 0 <;> by_cases h3 : z = 0 <;> simp [h1, h2, h3]
theorem cmpVV_b (a b : VD) : -1 ≤ cmpVV a b ∧ cmpVV a b ≤ 1 := by
  have h1 := compareInt_b a.kind b.kind
  have h2 := compareInt_b a.num b.num
  have h3 := compareBytes_b a.text.data.toList b.text.data.toList
  unfold cmpVV
  simp only [orV]
  split
  · split
    · split <;> omega
    · omega
  · omega
theorem cmpRV_neg : ∀ (l r : List VD), cmpRV r l = -cmpRV l r
  | [], [] => rfl
  | [], _ :: _ => rfl
  | _ :: _, [] => rfl
  | a :: l, b :: r => by
    unfold cmpRV
    rw [cmpVV_neg a b]
    by_cases h : cmpVV a b = 0
    · rw [if_pos (by omega), if_pos h]; exact cmpRV_neg l r
    · rw [if_neg (by omega), if_neg h]
theorem cmpRV_b : ∀ (l r : List VD), -1 ≤ cmpRV l r ∧ cmpRV l r ≤ 1
  | [], [] => ⟨by decide, by decide⟩
  | [], _ :: _ => ⟨Int.le_refl (-1), show (-1 : Int) ≤ 1 by decide⟩
  | _ :: _, [] => ⟨show (-1 : Int) ≤ 1 by decide, Int.le_refl 1⟩
  | a :: l, b :: r => by
    unfold cmpRV
    split
    · exact cmpRV_b l r
    · exact cmpVV_b a b

set_option maxHeartbeats 800000 in
theorem or_any (A : Option Addr) (cap n : Nat) (l : List Int) (hn : l.length = n) (w : World) (h : RdK inE w A l) (hl : n ≤ 140737000000000) :
    Calls Try.prog 93 #[.slice A n cap] w fun e w' => e = .returned (.int .i64 (orV l)) ∧ w' = w := by
  subst hn
  go_enter Try.func93, Try.ntmps93
  go_wp2
  go_loopw [8] (fun i wr => ∃ k : Nat, k ≤ l.length ∧ i = .int .i64 k ∧ Hid (orV l = orV (l.drop k)) ∧ wr = w) (fun i _ => l.length - (intOf i).toNat)
  case atStart => exact ⟨0, by omega, rfl, Lib.hid rfl, rfl⟩
  case round =>
    obtain ⟨k, hk, rfl, Ho, rfl⟩ := hrel
    by_cases hlt : k < l.length
    · obtain ⟨ad, rfl, c0⟩ := RdKI.at_ h k hlt
      have hst : orV (l.drop k) = if l[k] = 0 then orV (l.drop (k + 1)) else l[k] := by rw [List.drop_eq_getElem_cons hlt]; rfl
      obtain ⟨x, hx⟩ : ∃ x, x = l[k] := ⟨_, rfl⟩
      rw [← hx] at hst c0
      have Hst := Lib.hid hst
      clear hst hx
      by_cases h0 : x = 0
      · subst h0
        have Hq := Lib.hid (show orV l = orV (l.drop (k + 1)) by rw [Ho.out, Hst.out, if_pos rfl])
        go_wp2
        go_roundw
        case rel => exact ⟨k + 1, by omega, by go_num, Hq, trivial⟩
        case measure => simp [intOf]; omega
      · have Hq := Lib.hid (show orV l = x by rw [Ho.out, Hst.out, if_neg h0])
        have hq : (x == 0) = false := by rw [beq_eq_false_iff_ne]; exact h0
        have hq' : (x != 0) = true := by rw [bne, hq]; rfl
        go_wp2
        go_ret
        exact ⟨ret_int Hq.out.symm, rfl⟩
    · obtain rfl : k = l.length := by omega
      have Hq := Lib.hid (show orV l = 0 by rw [Ho.out, List.drop_length]; rfl)
      go_wp2
      go_ret
      exact ⟨ret_int Hq.out.symm, rfl⟩

theorem wp_still_tail' {P : Program} {id : Nat} {Q : Exit → Act → World → Prop} {a : Act} {w : World} {l : List Oper} (n : Nat) (hm : P.follows .mixedOrders = true) (hB : Region.lexTailB .any l.toArray n = true)
    (h : ∀ w2, w2 = w.drew → wpStill P l.toArray w2 (fun a' => wpList P l.toArray Q (l.drop n) a' w2) (l.take n) a) : (Code.region id l.toArray true).wp P Q a w :=
  wp_region_still_tail n hm hB (h _ rfl)

set_option maxRecDepth 20000 in
set_option maxHeartbeats 1600000 in
theorem cmpVal_any (a b : VD) (w : World) :
    Calls Try.prog 73 #[a.val, b.val] w fun e w' => e = .returned (.int .i64 (cmpVV a b)) ∧ Touch [] w w' := by
  obtain ⟨k1, n1, s1⟩ := a
  obtain ⟨k2, n2, s2⟩ := b
  have h1 := fun w' => Try.cmp_Compare_int k1 k2 w'
  have h2 := fun w' => Try.cmp_Compare_int n1 n2 w'
  have h3 := fun w' => Try.strings_Compare s1 s2 w'
  have hc : cmpVV ⟨k1, n1, s1⟩ ⟨k2, n2, s2⟩ = orV [Lib.compareInt k1 k2, Lib.compareInt n1 n2, Lib.compareBytes s1.data.toList s2.data.toList] := rfl
  rw [hc]
  obtain ⟨x, hx⟩ : ∃ x, x = Lib.compareInt k1 k2 := ⟨_, rfl⟩
  obtain ⟨y, hy⟩ : ∃ y, y = Lib.compareInt n1 n2 := ⟨_, rfl⟩
  obtain ⟨z, hz⟩ : ∃ z, z = Lib.compareBytes s1.data.toList s2.data.toList := ⟨_, rfl⟩
  rw [← hx, ← hy, ← hz]
  rw [← hx] at h1
  rw [← hy] at h2
  rw [← hz] at h3
  have H1 := Lib.hid h1; have H2 := Lib.hid h2; have H3 := Lib.hid h3
  have t0 := (((Touch.refl [] w).alloc (.cells #[.int .i64 k1, .int .i64 n1, .string s1] 30)).alloc (.cells #[.int .i64 k2, .int .i64 n2, .string s2] 30))
  clear h1 h2 h3 hx hy hz hc
  dsimp only [VD.val]
  go_enter Try.func73, Try.ntmps73
  go_wp2_with fail
  refine wp_still_tail' 15 (by kernel_rfl) (by kernel_rfl) ?_
  intro w2 hw2
  have ta := (((Touch.refl [] (w.alloc (.cells #[.int .i64 k1, .int .i64 n1, .string s1] 30))).alloc (.cells #[.int .i64 k2, .int .i64 n2, .string s2] 30))).drew
  have tb := ((Touch.refl [] ((w.alloc (.cells #[.int .i64 k1, .int .i64 n1, .string s1] 30)).alloc (.cells #[.int .i64 k2, .int .i64 n2, .string s2] 30)))).drew
  have t2 := t0.drew
  rw [← hw2] at ta tb t2
  have hb1 := heap_alloc_new w (.cells #[.int .i64 k1, .int .i64 n1, .string s1] 30)
  have hb2 := heap_alloc_new (w.alloc (.cells #[.int .i64 k1, .int .i64 n1, .string s1] 30)) (.cells #[.int .i64 k2, .int .i64 n2, .string s2] 30)
  rw [World.size_alloc] at hb2
  have e0 := ta.cell (cell_blk hb1 (i := 0) rfl) (by simp)
  have e1 := ta.cell (cell_blk hb1 (i := 1) rfl) (by simp)
  have e2 := ta.cell (cell_blk hb1 (i := 2) rfl) (by simp)
  have f0 := tb.cell (cell_blk hb2 (i := 0) rfl) (by simp)
  have f1 := tb.cell (cell_blk hb2 (i := 1) rfl) (by simp)
  have f2 := tb.cell (cell_blk hb2 (i := 2) rfl) (by simp)
  clear hb1 hb2 ta tb t0 hw2
  simp only [List.take_succ_cons, List.take_zero, List.drop_succ_cons, List.drop_zero]
  repeat still_step
  still_call (H1.out _)
  repeat still_step
  still_call (H2.out _)
  repeat still_step
  still_call (H3.out _)
  refine wpStill_nil ?_
  have r3 : RdK inE (w2.alloc (.cells #[.int .i64 x, .int .i64 y, .int .i64 z] 3)) (some ⟨w2.heap.size, 0, none⟩) [x, y, z] := RdK.row w2 3 [x, y, z] _ rfl
  go_wp2_with fail
  refine (or_any _ 3 3 [x, y, z] rfl _ r3 (by omega)).mono ?_
  rintro e w3 ⟨rfl, rfl⟩
  go_wp2
  go_ret
  exact ⟨rfl, t2.alloc _⟩
end Go.Proofs.Ytlkckkagoommaaa

/- A map of the calls' own, entry by entry: look-up, store, delete, len as equations on the run. For keys of whatever kind that the library's bundle 'Keyed' speaks of. -/
namespace Go.Proofs.Ytlkckkagoommaaa
open Go.RowKit Go.Maps Go.ChangeMaps

/-- block b is a map that holds just these entries, in the order of their birth -/
def MapAt (P : Program) (k : TypeId) (w : World) (b : Nat) (kvs : List (Value × Value)) : Prop :=
  ∃ es clock, w.heap[b]? = some (.map es clock) ∧ es.toList.map (fun e => (e.key, e.val)) = kvs ∧ (∀ e ∈ es.toList, ∃ l, keyOf P k e.key = some l) ∧ kvs.Pairwise (fun p q => p.1 ≠ q.1)

variable {P : Program} {k : TypeId}
theorem MapAt.made (w : World) : MapAt P k (w.alloc (.map #[] 0)) w.heap.size [] := ⟨#[], 0, heap_alloc_new w _, rfl, by simp, .nil⟩
theorem MapAt.touch {w w' : World} {b : Nat} {kvs : List (Value × Value)} {fp : List Nat} (h : MapAt P k w b kvs) (ht : Touch fp w w') (hb : b ∉ fp) : MapAt P k w' b kvs := by
  obtain ⟨es, clock, h1, h2⟩ := h
  exact ⟨es, clock, ht.blk h1 hb, h2⟩
theorem MapAt.lt {w : World} {b : Nat} {kvs : List (Value × Value)} (h : MapAt P k w b kvs) : b < w.heap.size := by
  obtain ⟨es, clock, h1, _⟩ := h
  exact (Array.getElem?_eq_some_iff.1 h1).1
theorem Touch.setBlock {w : World} {b : Nat} {es : Array MapEntry} {clock : Nat} (hb : w.heap[b]? = some (.map es clock)) (o : Obj) : Touch [b] w (setBlock w b o) :=
  ⟨rfl, rfl, rfl, by simp [ChangeMaps.setBlock], fun j _ hn => heap_setBlock_other hb o (fun e => hn (by simp [e]))⟩

/-- nothing stands under the key -/
theorem MapAt.miss {w : World} {b : Nat} {kvs : List (Value × Value)} {t e : TypeId} (h : MapAt P k w b kvs) (K : Keyed P k) (ht : P.underlying t = some (.map k e)) {key : Value} {kl : Lit} (hkey : keyOf P k key = some kl)
    (hm : ∀ p ∈ kvs, p.1 ≠ key) (z : Value) (hz : (zeroValue e).run P w = .ok z w) (c : Bool) :
    (Instr.lookup t (.map (some b)) key c).run P w = .ok (if c then .tuple #[z, .bool false] else z) w := by
  obtain ⟨es, clock, hb, rfl, hk, _⟩ := h
  rcases K.find w hkey es.toList hk with ⟨h1, h2⟩ | ⟨j, e0, h1, h2, h3⟩
  · simp [Instr.lookup, run_underlying ht, MapKept.run_getObj_map hb, K.check w _ hkey, h1, hz, Result.andThen]
  · exact absurd h3 (hm (e0.key, e0.val) (List.mem_map.2 ⟨e0, List.mem_of_getElem? h2, rfl⟩))
theorem find_place {es : List MapEntry} {j : Nat} {e0 : MapEntry} {key : Value} {l1 l2 : List (Value × Value)} {v0 : Value} (h2 : es[j]? = some e0) (h3 : e0.key = key) (he : es.map (fun e => (e.key, e.val)) = l1 ++ (key, v0) :: l2)
    (hp : (l1 ++ (key, v0) :: l2).Pairwise (fun p q => p.1 ≠ q.1)) : j = l1.length ∧ e0.val = v0 := by
  have hj : (l1 ++ (key, v0) :: l2)[j]? = some (key, e0.val) := by rw [← he, List.getElem?_map, h2, ← h3]; rfl
  have hjl : j < (l1 ++ (key, v0) :: l2).length := (List.getElem?_eq_some_iff.1 hj).1
  have hl : (l1 ++ (key, v0) :: l2)[l1.length]? = some (key, v0) := by simp
  have hll : l1.length < (l1 ++ (key, v0) :: l2).length := (List.getElem?_eq_some_iff.1 hl).1
  have e1 : (l1 ++ (key, v0) :: l2)[j] = (key, e0.val) := by rw [List.getElem?_eq_getElem hjl] at hj; exact Option.some.inj hj
  have e2 : (l1 ++ (key, v0) :: l2)[l1.length] = (key, v0) := by rw [List.getElem?_eq_getElem hll] at hl; exact Option.some.inj hl
  have hpw := List.pairwise_iff_getElem.1 hp
  rcases Nat.lt_trichotomy j l1.length with h | h | h
  · exact absurd (by rw [e1, e2]) (hpw j l1.length hjl hll h)
  · subst h
    rw [e1] at e2
    exact ⟨rfl, (Prod.mk.inj e2).2⟩
  · exact absurd (by rw [e1, e2]) (hpw l1.length j hll hjl h)
/-- what stands under the key -/
theorem MapAt.hit {w : World} {b : Nat} {kvs : List (Value × Value)} {t e : TypeId} (h : MapAt P k w b kvs) (K : Keyed P k) (ht : P.underlying t = some (.map k e)) {key v : Value} {kl : Lit} (hkey : keyOf P k key = some kl)
    (hm : (key, v) ∈ kvs) (c : Bool) :
    (Instr.lookup t (.map (some b)) key c).run P w = .ok (if c then .tuple #[v, .bool true] else v) w := by
  obtain ⟨es, clock, hb, rfl, hk, hp⟩ := h
  obtain ⟨e1, he1, e2⟩ := List.mem_map.1 hm
  rcases K.find w hkey es.toList hk with ⟨h1, h2⟩ | ⟨j, e0, h1, h2, h3⟩
  · exact absurd (by simpa using congrArg Prod.fst e2) (h2 e1 he1)
  · have hv : e0.val = v := by
      obtain ⟨l1, l2, hl⟩ := List.append_of_mem hm
      exact (find_place h2 h3 hl (hl ▸ hp)).2
    simp [Instr.lookup, run_underlying ht, MapKept.run_getObj_map hb, K.check w _ hkey, h1, hv, Result.andThen]
/-- a new entry -/
theorem MapAt.put_new {w : World} {b : Nat} {kvs : List (Value × Value)} {t e : TypeId} (h : MapAt P k w b kvs) (K : Keyed P k) (ht : P.underlying t = some (.map k e)) {key : Value} {kl : Lit} (hkey : keyOf P k key = some kl)
    (hm : ∀ p ∈ kvs, p.1 ≠ key) (v : Value) :
    ∃ w', (Instr.mapUpdate t (.map (some b)) key v).run P w = .ok () w' ∧ MapAt P k w' b (kvs ++ [(key, v)]) ∧ Touch [b] w w' := by
  obtain ⟨es, clock, hb, rfl, hk, hp⟩ := h
  rcases K.find w hkey es.toList hk with ⟨h1, h2⟩ | ⟨j, e0, h1, h2, h3⟩
  · refine ⟨ChangeMaps.setBlock w b (.map (es.push ⟨key, v, clock⟩) (clock + 1)), ?_, ⟨es.push ⟨key, v, clock⟩, clock + 1, heap_setBlock_same hb _, by simp, ?_, ?_⟩, Touch.setBlock hb _⟩
    · simp [Instr.mapUpdate, run_underlying ht, MapKept.run_getObj_map hb, K.check w false hkey, h1, MapKept.run_setObj_map _ hb, Result.andThen, ChangeMaps.setBlock]
    · intro x hx
      simp only [Array.toList_push, List.mem_append, List.mem_singleton] at hx
      rcases hx with hx | rfl
      · exact hk x hx
      · exact ⟨kl, hkey⟩
    · rw [List.pairwise_append]
      refine ⟨hp, by simp, fun p hp2 q hq => ?_⟩
      obtain rfl : q = (key, v) := by simpa using hq
      exact hm p hp2
  · exact absurd h3 (hm (e0.key, e0.val) (List.mem_map.2 ⟨e0, List.mem_of_getElem? h2, rfl⟩))
/-- the entry of a key gets another value -/
theorem MapAt.put_old {w : World} {b : Nat} {l1 l2 : List (Value × Value)} {t e : TypeId} {key v0 : Value} (h : MapAt P k w b (l1 ++ (key, v0) :: l2)) (K : Keyed P k) (ht : P.underlying t = some (.map k e)) {kl : Lit} (hkey : keyOf P k key = some kl) (v : Value) :
    ∃ w', (Instr.mapUpdate t (.map (some b)) key v).run P w = .ok () w' ∧ MapAt P k w' b (l1 ++ (key, v) :: l2) ∧ Touch [b] w w' := by
  obtain ⟨es, clock, hb, he, hk, hp⟩ := h
  rcases K.find w hkey es.toList hk with ⟨h1, h2⟩ | ⟨j, e0, h1, h2, h3⟩
  · have : (key, v0) ∈ es.toList.map (fun e => (e.key, e.val)) := by rw [he]; simp
    obtain ⟨e1, he1, e2⟩ := List.mem_map.1 this
    exact absurd (by simpa using congrArg Prod.fst e2) (h2 e1 he1)
  · obtain ⟨rfl, hv⟩ := find_place h2 h3 he hp
    have hjs : l1.length < es.size := by have := (List.getElem?_eq_some_iff.1 h2).1; simpa using this
    have hget : es[l1.length]? = some e0 := by rw [← Array.getElem?_toList]; exact h2
    have hst := K.stays w hkey
    refine ⟨ChangeMaps.setBlock w b (.map (es.modify l1.length fun e => { e with key := key, val := v }) clock), ?_, ⟨es.modify l1.length fun e => { e with key := key, val := v }, clock, heap_setBlock_same hb _, ?_, ?_, ?_⟩, Touch.setBlock hb _⟩
    · simp [Instr.mapUpdate, run_underlying ht, MapKept.run_getObj_map hb, K.check w false hkey, h1, hget, h3, hst, MapKept.run_setObj_map _ hb, Result.andThen, ChangeMaps.setBlock]
    · apply List.ext_getElem?
      intro i
      have hi : (es.toList.map (fun e => (e.key, e.val)))[i]? = (l1 ++ (key, v0) :: l2)[i]? := by rw [he]
      simp only [List.getElem?_map, Array.getElem?_toList, Array.getElem?_modify] at hi ⊢
      by_cases hil : l1.length = i
      · subst hil
        simp [hget]
      · rw [if_neg hil, hi]
        rcases Nat.lt_or_gt_of_ne hil with h | h
        · rw [List.getElem?_append_right (by omega), List.getElem?_append_right (by omega)]
          obtain ⟨m, hm⟩ : ∃ m, i - l1.length = m + 1 := ⟨i - l1.length - 1, by omega⟩
          rw [hm]; rfl
        · rw [List.getElem?_append_left h, List.getElem?_append_left h]
    · intro x hx
      obtain ⟨i, hi⟩ := List.mem_iff_getElem?.1 hx
      rw [Array.getElem?_toList, Array.getElem?_modify] at hi
      by_cases hil : l1.length = i
      · subst hil
        rw [if_pos rfl, hget] at hi
        obtain rfl := Option.some.inj hi
        exact ⟨kl, hkey⟩
      · rw [if_neg hil] at hi
        exact hk x (List.mem_iff_getElem?.2 ⟨i, by rw [Array.getElem?_toList]; exact hi⟩)
    · rw [List.pairwise_append, List.pairwise_cons] at hp ⊢
      exact ⟨hp.1, ⟨hp.2.1.1, hp.2.1.2⟩, fun p hp1 q hq => by
        rcases List.mem_cons.1 hq with rfl | hq
        · exact hp.2.2 p hp1 (key, v0) (by simp)
        · exact hp.2.2 p hp1 q (List.mem_cons.2 (.inr hq))⟩
/-- the entry of a key goes -/
theorem MapAt.del {w : World} {b : Nat} {l1 l2 : List (Value × Value)} {t e : TypeId} {key v0 : Value} (h : MapAt P k w b (l1 ++ (key, v0) :: l2)) (K : Keyed P k) (ht : P.underlying t = some (.map k e)) {kl : Lit} (hkey : keyOf P k key = some kl) (ty : TypeId) :
    ∃ w', (Builtin.delete_ #[t, k] ty #[.map (some b), key]).run P w = .ok (.tuple #[]) w' ∧ MapAt P k w' b (l1 ++ l2) ∧ Touch [b] w w' := by
  obtain ⟨es, clock, hb, he, hk, hp⟩ := h
  rcases K.find w hkey es.toList hk with ⟨h1, h2⟩ | ⟨j, e0, h1, h2, h3⟩
  · have : (key, v0) ∈ es.toList.map (fun e => (e.key, e.val)) := by rw [he]; simp
    obtain ⟨e1, he1, e2⟩ := List.mem_map.1 this
    exact absurd (by simpa using congrArg Prod.fst e2) (h2 e1 he1)
  · obtain ⟨rfl, hv⟩ := find_place h2 h3 he hp
    have hjs : l1.length < es.size := by have := (List.getElem?_eq_some_iff.1 h2).1; simpa using this
    have hsub : (es.eraseIdxIfInBounds l1.length).toList = es.toList.eraseIdx l1.length := by
      unfold Array.eraseIdxIfInBounds
      rw [dif_pos hjs]
      simp
    refine ⟨ChangeMaps.setBlock w b (.map (es.eraseIdxIfInBounds l1.length) clock), ?_, ⟨_, clock, heap_setBlock_same hb _, ?_, ?_, ?_⟩, Touch.setBlock hb _⟩
    · simp [Builtin.delete_, run_underlying ht, MapKept.run_getObj_map hb, K.check w _ hkey, h1, MapKept.run_setObj_map _ hb, Result.andThen, ChangeMaps.setBlock]
    · rw [hsub, List.eraseIdx_eq_take_drop_succ, List.map_append, List.map_take, List.map_drop, he]
      simp
    · intro x hx
      rw [hsub] at hx
      exact hk x ((List.eraseIdx_sublist _ _).subset hx)
    · rw [List.pairwise_append, List.pairwise_cons] at hp
      rw [List.pairwise_append]
      exact ⟨hp.1, hp.2.1.2, fun p hp1 q hq => hp.2.2 p hp1 q (List.mem_cons.2 (.inr hq))⟩
/-- there is none to go -/
theorem MapAt.del_miss {w : World} {b : Nat} {kvs : List (Value × Value)} {t e : TypeId} {key : Value} (h : MapAt P k w b kvs) (K : Keyed P k) (ht : P.underlying t = some (.map k e)) {kl : Lit} (hkey : keyOf P k key = some kl) (hm : ∀ p ∈ kvs, p.1 ≠ key) (ty : TypeId) :
    ∃ w', (Builtin.delete_ #[t, k] ty #[.map (some b), key]).run P w = .ok (.tuple #[]) w' ∧ MapAt P k w' b kvs ∧ Touch [b] w w' := by
  obtain ⟨es, clock, hb, he, hk, hp⟩ := h
  rcases K.find w hkey es.toList hk with ⟨h1, h2⟩ | ⟨j, e0, h1, h2, h3⟩
  · refine ⟨ChangeMaps.setBlock w b (.map es clock), ?_, ⟨es, clock, heap_setBlock_same hb _, he, hk, hp⟩, Touch.setBlock hb _⟩
    simp [Builtin.delete_, run_underlying ht, MapKept.run_getObj_map hb, K.check w _ hkey, h1, MapKept.run_setObj_map _ hb, Result.andThen, ChangeMaps.setBlock]
  · exact absurd h3 (hm (e0.key, e0.val) (by rw [← he]; exact List.mem_map.2 ⟨e0, List.mem_of_getElem? h2, rfl⟩))
theorem MapAt.len {w : World} {b : Nat} {kvs : List (Value × Value)} {t e : TypeId} (h : MapAt P k w b kvs) (ht : P.underlying t = some (.map k e)) (ty : TypeId) :
    (Builtin.len_ #[t] ty #[.map (some b)]).run P w = .ok (.int .i64 kvs.length) w := by
  obtain ⟨es, clock, hb, rfl, _, _⟩ := h
  simp [Builtin.len_, run_underlying ht, MapKept.run_getObj_map hb, Result.andThen, goInt]

section
variable {ops : Array Oper} {rest : List Oper} {o : Oper} {a : Act} {Q : Exit → Act → World → Prop}
/-- a look-up whose run is known -/
theorem wpList_lookup_is {w : World} (hg : o.guard = none) (m x : Operand) (t : TypeId) (c : Bool) (hop : o.op = Op.lookup t m x c) (mv key v : Value) (hm : a.eval m = mv) (hx : a.eval x = key)
    (hrun : (Instr.lookup t mv key c).run P w = .ok v w) (hK : wpList P ops Q rest (a.put o.dst v) w) : wpList P ops Q (o :: rest) a w := by
  refine wpList_plain hg fun K' hK' => ?_
  unfold Oper.wp
  simp [execOp, hop, hm, hx, hrun, Result.andThen]
  exact hK' _ _ hK
/-- a store into a map whose run is known -/
theorem wpList_update_is {w w' : World} (hg : o.guard = none) (m x v : Operand) (t : TypeId) (hop : o.op = Op.mapUpdate t m x v) (mv key val : Value) (hm : a.eval m = mv) (hx : a.eval x = key) (hv : a.eval v = val)
    (hrun : (Instr.mapUpdate t mv key val).run P w = .ok () w') (hK : wpList P ops Q rest (a.put o.dst undef) w') : wpList P ops Q (o :: rest) a w := by
  refine wpList_plain hg fun K' hK' => ?_
  unfold Oper.wp
  simp [execOp, hop, hm, hx, hv, hrun, Result.andThen]
  exact hK' _ _ hK
end
end Go.Proofs.Ytlkckkagoommaaa

/- schema.Schema.Check: is a schema right? For every schema. -/
namespace Go.Proofs.Ytlkckkagoommaaa
open Go.RowKit Go.Maps

/-- a column's cells -/
def cdE (c : CD) : List Value := [.string c.name, .int .i64 c.typ]
theorem cdE_length (c : CD) : (cdE c).length = 2 := rfl
theorem cdE_one (c : CD) : ∀ u ∈ cdE c, u.oneCell' = true := by
  intro u hu
  simp only [cdE, List.mem_cons, List.not_mem_nil, or_false] at hu
  rcases hu with rfl | rfl <;> rfl
/-- names not too long, types that are ints -/
structure CD.Ok (c : CD) : Prop where
  n : c.name.size ≤ 140737000000000
  t : -9223372036854775808 ≤ c.typ ∧ c.typ ≤ 9223372036854775807
def ColsAt (w : World) (A : Option Addr) (cs : List CD) : Prop := RdK cdE w A cs
theorem ColsAt.at_ {w : World} {A : Option Addr} {cs : List CD} (h : ColsAt w A cs) (i : Nat) (hi : i < cs.length) :
    ∃ ad b off, A = some ad ∧ ad.add (i * 2) = ⟨b, off, none⟩ ∧ w.cell? ⟨b, off, none⟩ = some (.string cs[i].name) ∧ w.cell? ⟨b, off + 1, none⟩ = some (.int .i64 cs[i].typ) := by
  obtain ⟨ad, b, off, h1, h2, _, h3⟩ := RdK.at_ h 2 cdE_length (by omega) i hi
  exact ⟨ad, b, off, h1, h2, h3 0 _ rfl, h3 1 _ rfl⟩
theorem ColsAt.touch0 {w w' : World} {A : Option Addr} {cs : List CD} (h : ColsAt w A cs) (ht : Touch [] w w') : ColsAt w' A cs := RdK.touch0 h ht

theorem name_anyB (s : ByteArray) (hs : s.size ≤ 140737000000000) (w : World) :
    Calls Try.prog 61 #[.string s] w fun e w' => e = .returned (.bool (nameV s.data.toList)) ∧ Touch [] w w' := by
  have := name_any s.data.toList (by rw [size_toList]; exact hs) w
  rwa [S_of] at this

theorem zeroBool (w : World) : (zeroValue 4).run Try.prog w = .ok (.bool false) w := by kernel_rfl
/-- the names seen so far -/
def seenV (cs : List CD) : List (Value × Value) := cs.map fun c => (.string c.name, .bool true)

set_option maxRecDepth 20000 in
set_option maxHeartbeats 1600000 in
theorem check_any (A : Option Addr) (cap n : Nat) (cs : List CD) (hn : cs.length = n) (hok : ∀ c ∈ cs, c.Ok) (w : World) (h : ColsAt w A cs) (hl : n ≤ 9223372036854775807) :
    Calls Try.prog 38 #[.slice A n cap] w fun e w' => e = .returned (.int .i64 (checkV cs)) ∧ Touch [] w w' := by
  subst hn
  have hmm := @run_makeMap Try.prog
  by_cases h0 : cs.length < 1 ∨ 16 < cs.length
  · have hc : checkV cs = 31 := by unfold checkV; rw [if_pos h0]
    have Hc := Lib.hid hc; clear hc
    rcases h0 with h0 | h0
    · have hz : cs.length = 0 := by omega
      have hzb : ((cs.length : Int) == 0) = true := by rw [hz]; rfl
      clear hz
      go_enter Try.func38, Try.ntmps38
      go_wp2
      go_ret
      exact ⟨ret_int Hc.out.symm, Touch.refl _ _⟩
    · have hzb : ((cs.length : Int) == 0) = false := by rw [beq_eq_false_iff_ne]; omega
      go_enter Try.func38, Try.ntmps38
      go_wp2
      go_ret
      exact ⟨ret_int Hc.out.symm, Touch.refl _ _⟩
  · have h1 : 1 ≤ cs.length := by omega
    have h16 : cs.length ≤ 16 := by omega
    have hzb : ((cs.length : Int) == 0) = false := by rw [beq_eq_false_iff_ne]; omega
    have hc : checkV cs = chkL (cs.take 0) (cs.drop 0) := by unfold checkV; rw [if_neg h0]; rfl
    have Hc := Lib.hid hc; clear hc h0
    go_enter Try.func38, Try.ntmps38
    go_wp2
    clear hzb
    go_loopw [17] (fun i wr => ∃ k : Nat, k ≤ cs.length ∧ i = .int .i64 k ∧ Hid (checkV cs = chkL (cs.take k) (cs.drop k)) ∧ MapAt Try.prog 9 wr w.heap.size (seenV (cs.take k)) ∧ Touch [] w wr) (fun i _ => cs.length - (intOf i).toNat)
    case atStart => exact ⟨0, by omega, rfl, Hc, MapAt.made _, (Touch.refl _ _).alloc _⟩
    case round =>
      clear Hc hmm
      obtain ⟨k, hk, rfl, Hc, hmap, ht⟩ := hrel
      by_cases hlt : k < cs.length
      · obtain ⟨ad, b, off, rfl, hadd, c0, c1⟩ := (h.touch0 ht).at_ k hlt
        have hcok := hok _ (List.getElem_mem hlt)
        have hst := chk_step hlt
        obtain ⟨c, hce⟩ : ∃ c, c = cs[k] := ⟨_, rfl⟩
        rw [← hce] at c0 c1 hst hcok
        have hsn : seenV (cs.take (k + 1)) = seenV (cs.take k) ++ [(.string c.name, .bool true)] := by
          unfold seenV; rw [List.take_succ_eq_append_getElem hlt, List.map_append, ← hce]; rfl
        have Hst := Lib.hid (Hc.out.trans hst); have Hsn := Lib.hid hsn
        clear hst Hc hce hsn
        obtain ⟨hcn, hct1, hct2⟩ := hcok
        have tb := (Touch.refl [] wr).alloc (.cells #[.string c.name, .int .i64 c.typ] 45)
        have hb := heap_alloc_new wr (.cells #[.string c.name, .int .i64 c.typ] 45)
        have hname := name_anyB c.name hcn (wr.alloc (.cells #[.string c.name, .int .i64 c.typ] 45))
        have Hkey := Lib.hid (Go.WideMaps.keyOf_string_mk Try.underlying9 (s := c.name) (by unfold maxLen; omega))
        have Hmap := Lib.hid (hmap.touch tb (by simp)); clear hmap
        rcases hnv : nameV c.name.data.toList with _ | _
        · rw [hnv] at hname
          have Hname := Lib.hid hname; clear hname
          have he : errC (cs.take k) c = 13 := by unfold errC; rw [if_pos hnv]
          have He := Lib.hid (show checkV cs = 13 by rw [Hst.out, he]; rfl); clear he hnv
          go_wp2_with (go_at_call 61; refine Hname.out.mono ?_; rintro e w1 ⟨rfl, t1⟩)
          go_ret
          exact ⟨ret_int He.out.symm, (ht.trans0 tb).trans0 t1⟩
        · rw [hnv] at hname
          have Hname := Lib.hid hname; clear hname
          by_cases hty : c.typ ≠ 1 ∧ c.typ ≠ 2
          · have he : errC (cs.take k) c = 12 := by unfold errC; rw [if_neg (by rw [hnv]; simp), if_pos hty]
            have He := Lib.hid (show checkV cs = 12 by rw [Hst.out, he]; rfl); clear he hnv
            obtain ⟨q1, q2⟩ := hty
            have q1b : (c.typ == 1) = false := by rw [beq_eq_false_iff_ne]; exact q1
            have q2b : (c.typ == 2) = false := by rw [beq_eq_false_iff_ne]; exact q2
            have q1n : (c.typ != 1) = true := by rw [bne, q1b]; rfl
            have q2n : (c.typ != 2) = true := by rw [bne, q2b]; rfl
            go_wp2_with fail
            refine Hname.out.mono ?_
            rintro e w1 ⟨rfl, t1⟩
            have hb1 := t1.blk hb (by simp)
            have d0 := cell_blk hb1 (i := 0) rfl
            have d1 := cell_blk hb1 (i := 1) rfl
            go_wp2
            go_ret
            exact ⟨ret_int He.out.symm, (ht.trans0 tb).trans0 t1⟩
          · have hty2 : c.typ = 1 ∨ c.typ = 2 := by omega
            go_wp2_with fail
            refine Hname.out.mono ?_
            rintro e w1 ⟨rfl, t1⟩
            have hb1 := t1.blk hb (by simp)
            have d0 := cell_blk hb1 (i := 0) rfl
            have d1 := cell_blk hb1 (i := 1) rfl
            have Hmap1 := Lib.hid (Hmap.out.touch t1 (by simp))
            by_cases hany : ((cs.take k).any fun d => decide (d.name = c.name)) = true
            · have he : errC (cs.take k) c = 14 := by unfold errC; rw [if_neg (by rw [hnv]; simp), if_neg hty, if_pos hany]
              have He := Lib.hid (show checkV cs = 14 by rw [Hst.out, he]; rfl); clear he hnv
              have hmem : (Value.string c.name, Value.bool true) ∈ seenV (cs.take k) := by
                obtain ⟨d, hd, hde⟩ := List.any_eq_true.1 hany
                exact List.mem_map.2 ⟨d, hd, by rw [show d.name = c.name by simpa using hde]⟩
              clear hany
              rcases hty2 with q | q
              all_goals
                have q1b : (c.typ == 1) = decide (c.typ = 1) := rfl
                rw [q] at d1
                clear q1b hty q
                go_wp2_with (at_lookup; refine stop ?_)
                refine go ?_
                refine wpList_lookup_is rfl (.tmp 36) (.tmp 38) 76 false rfl _ _ _ rfl rfl (Hmap1.out.hit (string_keyed Try.underlying9) Try.underlying76 Hkey.out hmem false) ?_
                go_wp2
                go_ret
                exact ⟨ret_int He.out.symm, (ht.trans0 tb).trans0 t1⟩
            · have he : errC (cs.take k) c = 0 := by unfold errC; rw [if_neg (by rw [hnv]; simp), if_neg hty, if_neg hany]
              have He := Lib.hid (show checkV cs = chkL (cs.take (k + 1)) (cs.drop (k + 1)) by rw [Hst.out, he]; rfl); clear he hnv
              have hmiss : ∀ p ∈ seenV (cs.take k), p.1 ≠ Value.string c.name := by
                intro p hp e
                obtain ⟨d, hd, rfl⟩ := List.mem_map.1 hp
                exact hany (List.any_eq_true.2 ⟨d, hd, by simpa using e⟩)
              clear hany
              obtain ⟨w2, hrun, hmap2, t2⟩ := Hmap1.out.put_new (string_keyed Try.underlying9) Try.underlying76 Hkey.out hmiss (.bool true)
              have Hrun := Lib.hid hrun; clear hrun
              rcases hty2 with q | q
              all_goals
                rw [q] at d1
                clear hty q
                go_wp2_with (at_lookup; refine stop ?_)
                refine go ?_
                refine wpList_lookup_is rfl (.tmp 36) (.tmp 38) 76 false rfl _ _ _ rfl rfl (Hmap1.out.miss (string_keyed Try.underlying9) Try.underlying76 Hkey.out hmiss _ (zeroBool _) false) ?_
                go_wp2_with (at_mapUpdate; refine stop ?_)
                refine go ?_
                refine wpList_update_is rfl (.tmp 40) (.tmp 42) (.const (.bool true)) 76 rfl _ _ _ rfl rfl rfl Hrun.out ?_
                go_wp2
                go_roundw
                case rel => exact ⟨k + 1, by omega, by go_num, He, by rw [Hsn.out]; exact hmap2, ((ht.trans0 tb).trans0 t1).trans t2 (fun b hb => .inr (by simp at hb; omega))⟩
                case measure => simp [intOf]; omega
      · obtain rfl : k = cs.length := by omega
        have He := Lib.hid (show checkV cs = 0 by rw [Hc.out, List.drop_length]; rfl)
        go_wp2
        go_ret
        exact ⟨ret_int He.out.symm, ht⟩
end Go.Proofs.Ytlkckkagoommaaa

/- schema.Schema.Find, slices.IndexFunc at its closure: where a column is. For every schema and name. -/
namespace Go.Proofs.Ytlkckkagoommaaa
open Go.RowKit

/-- the place of the first column of a name -/
def placeV (cs : List CD) (s : ByteArray) : Option Nat := cs.findIdx? fun c => decide (c.name = s)
/-- the same as a number, -1: none -/
def placeI (cs : List CD) (s : ByteArray) : Int := match placeV cs s with | some k => (k : Int) | none => -1
theorem placeV_some {cs : List CD} {s : ByteArray} {k : Nat} (h : k < cs.length) (hk : cs[k].name = s) (hno : ∀ j (hj : j < k), cs[j].name ≠ s) : placeV cs s = some k := by
  unfold placeV
  rw [List.findIdx?_eq_some_iff_getElem]
  exact ⟨h, by simpa using hk, fun j hj => by simpa using hno j hj⟩
theorem placeV_none {cs : List CD} {s : ByteArray} (hno : ∀ j (hj : j < cs.length), cs[j].name ≠ s) : placeV cs s = none := by
  unfold placeV
  rw [List.findIdx?_eq_none_iff]
  intro c hc
  obtain ⟨j, hj, rfl⟩ := List.mem_iff_getElem.1 hc
  simpa using hno j hj
theorem placeV_lt {cs : List CD} {s : ByteArray} {k : Nat} (h : placeV cs s = some k) : k < cs.length := by
  unfold placeV at h
  rw [List.findIdx?_eq_some_iff_getElem] at h
  exact h.1

set_option maxHeartbeats 400000 in
theorem find1_any (c : CD) (B : Nat) (s : ByteArray) (w : World) (hB : w.cell? ⟨B, 0, none⟩ = some (.string s)) :
    Calls Try.prog 63 #[.agg #[.string c.name, .int .i64 c.typ], .pointer (some ⟨B, 0, none⟩)] w fun e w' => e = .returned (.bool (decide (c.name = s))) ∧ Touch [] w w' := by
  have hbq := bs_beq c.name s
  have t0 := (Touch.refl [] w).alloc (.cells #[.string c.name, .int .i64 c.typ] 45)
  have hlt : B < w.heap.size := World.block_lt_of_cell? w _ hB
  go_enter Try.func63, Try.ntmps63
  go_wp2
  all_goals
    go_ret
    exact ⟨rfl, t0⟩

set_option maxRecDepth 20000 in
set_option maxHeartbeats 1600000 in
theorem indexFunc_any (A : Option Addr) (cap n : Nat) (cs : List CD) (hn : cs.length = n) (B : Nat) (s : ByteArray) (w : World) (h : ColsAt w A cs) (hB : w.cell? ⟨B, 0, none⟩ = some (.string s)) (hl : n ≤ 140737000000000) :
    Calls Try.prog 62 #[.slice A n cap, .func (.func 63) #[] #[.pointer (some ⟨B, 0, none⟩)]] w fun e w' =>
      e = .returned (.int .i64 (placeI cs s)) ∧ Touch [] w w' := by
  subst hn
  go_enter Try.func62, Try.ntmps62
  go_wp2
  go_loopw [8] (fun i wr => ∃ k : Nat, k ≤ cs.length ∧ i = .int .i64 k ∧ Hid (∀ j (hj : j < k) (hl : j < cs.length), cs[j].name ≠ s) ∧ Touch [] w wr) (fun i _ => cs.length - (intOf i).toNat)
  case atStart => exact ⟨0, by omega, rfl, Lib.hid (fun j hj => absurd hj (by omega)), Touch.refl _ _⟩
  case round =>
    obtain ⟨k, hk, rfl, Hno, ht⟩ := hrel
    by_cases hlt : k < cs.length
    · obtain ⟨ad, b, off, rfl, hadd, c0, c1⟩ := (h.touch0 ht).at_ k hlt
      have hyes := placeV_some (s := s) hlt
      obtain ⟨c, hce⟩ : ∃ c, c = cs[k] := ⟨_, rfl⟩
      rw [← hce] at c0 c1 hyes
      have Hce := Lib.hid hce; have Hyes := Lib.hid hyes
      clear hce hyes
      have hf := find1_any c B s wr (ht.cell hB (by simp))
      by_cases hcs : c.name = s
      · rw [decide_eq_true hcs] at hf
        have Hf := Lib.hid hf
        have Hp := Lib.hid (Hyes.out hcs (fun j hj => Hno.out j hj (by omega)))
        clear hf hcs
        go_wp2_with (go_at_call 63; refine Hf.out.mono ?_; rintro e w1 ⟨rfl, t1⟩)
        go_ret
        exact ⟨ret_int (by unfold placeI; rw [Hp.out]), ht.trans0 t1⟩
      · rw [decide_eq_false hcs] at hf
        have Hf := Lib.hid hf
        have Hcs := Lib.hid hcs
        clear hf hcs
        go_wp2_with (go_at_call 63; refine Hf.out.mono ?_; rintro e w1 ⟨rfl, t1⟩)
        go_roundw
        case rel => exact ⟨k + 1, by omega, by go_num, Lib.hid (fun j hj hl => by
          by_cases hjk : j = k
          · subst hjk; rw [← Hce.out]; exact Hcs.out
          · exact Hno.out j (by omega) hl), ht.trans0 t1⟩
        case measure => simp [intOf]; omega
    · obtain rfl : k = cs.length := by omega
      have Hp := Lib.hid (placeV_none (cs := cs) (s := s) (fun j hj => Hno.out j hj hj))
      go_wp2
      go_ret
      exact ⟨ret_int (by unfold placeI; rw [Hp.out]), ht⟩

set_option maxHeartbeats 800000 in
theorem findC_any (A : Option Addr) (cap n : Nat) (cs : List CD) (hn : cs.length = n) (s : ByteArray) (w : World) (h : ColsAt w A cs) (hl : n ≤ 140737000000000) :
    Calls Try.prog 40 #[.slice A n cap, .string s] w fun e w' =>
      e = .returned (.tuple #[.int .i64 (((placeV cs s).getD 0 : Nat) : Int), .bool (placeV cs s).isSome]) ∧ Touch [] w w' := by
  subst hn
  have t0 := (Touch.refl [] w).alloc (.cells #[.string s] 9)
  have hb := heap_alloc_new w (.cells #[.string s] 9)
  have hi := indexFunc_any A cap cs.length cs rfl w.heap.size s _ (h.touch0 t0) (cell_blk hb (i := 0) rfl) hl
  rcases hp : placeV cs s with _ | k
  · rw [show placeI cs s = -1 by unfold placeI; rw [hp]] at hi
    have Hi := Lib.hid hi
    clear hi hp hb
    go_enter Try.func40, Try.ntmps40
    go_wp2_with (go_at_call 62; refine Hi.out.mono ?_; rintro e w1 ⟨rfl, t1⟩)
    go_ret2
    exact ⟨rfl, t0.trans0 t1⟩
  · rw [show placeI cs s = (k : Int) by unfold placeI; rw [hp]] at hi
    have hkl := placeV_lt hp
    have Hi := Lib.hid hi
    clear hi hp hb
    have hmx : max (k : Int) 0 = k := by omega
    have hk0 : (0 : Int) ≤ k := by omega
    go_enter Try.func40, Try.ntmps40
    go_wp2_with (go_at_call 62; refine Hi.out.mono ?_; rintro e w1 ⟨rfl, t1⟩)
    go_ret2
    exact ⟨rfl, t0.trans0 t1⟩
end Go.Proofs.Ytlkckkagoommaaa
