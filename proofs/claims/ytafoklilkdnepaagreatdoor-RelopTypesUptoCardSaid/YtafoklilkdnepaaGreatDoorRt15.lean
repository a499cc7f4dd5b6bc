/- Part 15 of the texts of this proof, one behind the other; each begins with its own sentence. No condition beyond those that its theorems state. -/
import Derived.Test.YtafoklilkdnepaaGreatDoorRt14
import Derived.Shelf.Small.Bits
import Derived.Shelf.Small.Strs
import Derived.Shelf.Small.Wraps
import Derived.Shelf.Strconv.Itoa0
import Derived.Shelf.Strconv.Itoa1
import Derived.Shelf.LaysM
import Derived.Shelf.Strconv.Itoa2
import Derived.Shelf.Strconv.Itoa3
import Derived.Shelf.Strings.Search1
import Derived.Shelf.Sort.Plain
import Derived.Shelf.Slices.Turned
import Derived.Shelf.Slices.Equal
import Derived.Shelf.Slices.CompactS
import Derived.Ground.Names2Prog
import Derived.Shelf.Slices.SearchI
import Derived.Shelf.Slices.Cells
import Derived.Shelf.Slices.In.SortNone
import Derived.Shelf.Slices.Empties2
import Derived.Test.YtafoklilkdnepaaGreatDoorProg
import Derived.Deep.RegionHeld3
/- The contracts of Go library functions at this translation, laid in plain words by the tool of the kit; no condition. -/
namespace Go.Proofs
open Go.Shelf
def Tryz.lays125_ren : Go.Shelf.Ren := ⟨fun | 125 => 85 | 128 => 124 | 129 => 125 | n => n, fun | 46 => 149 | 3 => 3 | 51 => 182 | 53 => 184 | 4 => 4 | 5 => 5 | 9 => 9 | n => n, fun | n => n⟩
theorem Tryz.lays125 : Go.Proofs.Lays.n125 Tryz.prog Tryz.lays125_ren := {
  mixed := by kernel_rfl
  f125 := Tryz.func85.trans (congrArg some (by kernel_rfl))
  f128 := Tryz.func124.trans (congrArg some (by kernel_rfl))
  f129 := Tryz.func125.trans (congrArg some (by kernel_rfl))
  t3 := Tryz.underlying3
  a3 := Tryz.isAgg3
  z3 := Tryz.sizeOf3
  v3 := Tryz.zeroValue3
  t4 := Tryz.underlying4
  a4 := Tryz.isAgg4
  z4 := Tryz.sizeOf4
  v4 := Tryz.zeroValue4
  t5 := Tryz.underlying5
  a5 := Tryz.isAgg5
  z5 := Tryz.sizeOf5
  v5 := Tryz.zeroValue5
  t9 := Tryz.underlying9
  a9 := Tryz.isAgg9
  z9 := Tryz.sizeOf9
  v9 := Tryz.zeroValue9
  t46 := Tryz.underlying149
  a46 := Tryz.isAgg149
  z46 := Tryz.sizeOf149
  v46 := Tryz.zeroValue149
  t51 := Tryz.underlying182
  a51 := Tryz.isAgg182
  z51 := Tryz.sizeOf182
  v51 := Tryz.zeroValue182
  t53 := Tryz.underlying184
  a53 := Tryz.isAgg184
  z53 := Tryz.sizeOf184
  v53 := Tryz.zeroValue184 }
/-- bits.Len: "Len returns the minimum number of bits required to represent x; the result is 0 for x == 0.": IT RETURNS 'Lib.bitLen x'; the world is as it was. (A uint has 64 bits in the model.) ITS CALLEE bits.Len64 IS MET BY ITS OWN CONTRACT OFF THE SHELF (lay that first). (LAID: no walk: one application.) -/
theorem Tryz.bits_Len (x : Int) (w : World) (h0 : 0 ≤ x) (h1 : x ≤ 18446744073709551615) :
    Calls Tryz.prog 85 #[.int .u64 x] w fun e w' => e = .returned (.int .i64 (Lib.bitLen x.toNat)) ∧ w' = w := Any.bits_Len Tryz.lays125 x w h0 h1
def Tryz.laysM171_ren : Go.Shelf.Ren := ⟨fun | 171 => 193 | 243 => 207 | 246 => 213 | 283 => 215 | 284 => 216 | 285 => 217 | 286 => 218 | 129 => 125 | 317 => 219 | 318 => 220 | 319 => 221 | 320 => 222 | 337 => 223 | 338 => 224 | n => n, fun | 3 => 3 | 9 => 9 | 2 => 2 | 4 => 4 | 171 => 262 | 0 => 0 | 53 => 184 | 37 => 165 | 5 => 5 | 173 => 264 | 212 => 267 | 51 => 182 | 20 => 20 | 213 => 268 | 46 => 149 | 232 => 269 | 233 => 270 | n => n, fun | 17 => 2 | 18 => 3 | 19 => 4 | n => n⟩
theorem Tryz.laysM171 : Go.Proofs.LaysM.n171 Tryz.prog Tryz.laysM171_ren := {
  mixed := by kernel_rfl
  f129 := Tryz.func125.trans (congrArg some (by kernel_rfl))
  f171 := Tryz.func193.trans (congrArg some (by kernel_rfl))
  f243 := Tryz.func207.trans (congrArg some (by kernel_rfl))
  f246 := Tryz.func213.trans (congrArg some (by kernel_rfl))
  f283 := Tryz.func215.trans (congrArg some (by kernel_rfl))
  f284 := Tryz.func216.trans (congrArg some (by kernel_rfl))
  f285 := Tryz.func217.trans (congrArg some (by kernel_rfl))
  f286 := Tryz.func218.trans (congrArg some (by kernel_rfl))
  f317 := Tryz.func219.trans (congrArg some (by kernel_rfl))
  f318 := Tryz.func220.trans (congrArg some (by kernel_rfl))
  f319 := Tryz.func221.trans (congrArg some (by kernel_rfl))
  f320 := Tryz.func222.trans (congrArg some (by kernel_rfl))
  f337 := Tryz.func223.trans (congrArg some (by kernel_rfl))
  f338 := Tryz.func224.trans (congrArg some (by kernel_rfl))
  t0 := Tryz.underlying0
  a0 := Tryz.isAgg0
  z0 := Tryz.sizeOf0
  v0 := Tryz.zeroValue0
  t2 := Tryz.underlying2
  a2 := Tryz.isAgg2
  z2 := Tryz.sizeOf2
  v2 := Tryz.zeroValue2
  t3 := Tryz.underlying3
  a3 := Tryz.isAgg3
  z3 := Tryz.sizeOf3
  v3 := Tryz.zeroValue3
  t4 := Tryz.underlying4
  a4 := Tryz.isAgg4
  z4 := Tryz.sizeOf4
  v4 := Tryz.zeroValue4
  t5 := Tryz.underlying5
  a5 := Tryz.isAgg5
  z5 := Tryz.sizeOf5
  v5 := Tryz.zeroValue5
  t9 := Tryz.underlying9
  a9 := Tryz.isAgg9
  z9 := Tryz.sizeOf9
  v9 := Tryz.zeroValue9
  t20 := Tryz.underlying20
  a20 := Tryz.isAgg20
  z20 := Tryz.sizeOf20
  v20 := Tryz.zeroValue20
  t37 := Tryz.underlying165
  a37 := Tryz.isAgg165
  z37 := Tryz.sizeOf165
  v37 := Tryz.zeroValue165
  t46 := Tryz.underlying149
  a46 := Tryz.isAgg149
  z46 := Tryz.sizeOf149
  v46 := Tryz.zeroValue149
  t51 := Tryz.underlying182
  a51 := Tryz.isAgg182
  z51 := Tryz.sizeOf182
  v51 := Tryz.zeroValue182
  t53 := Tryz.underlying184
  a53 := Tryz.isAgg184
  z53 := Tryz.sizeOf184
  v53 := Tryz.zeroValue184
  t171 := Tryz.underlying262
  a171 := Tryz.isAgg262
  z171 := Tryz.sizeOf262
  v171 := Tryz.zeroValue262
  t173 := Tryz.underlying264
  a173 := Tryz.isAgg264
  z173 := Tryz.sizeOf264
  v173 := Tryz.zeroValue264
  t212 := Tryz.underlying267
  a212 := Tryz.isAgg267
  z212 := Tryz.sizeOf267
  v212 := Tryz.zeroValue267
  t213 := Tryz.underlying268
  a213 := Tryz.isAgg268
  z213 := Tryz.sizeOf268
  t232 := Tryz.underlying269
  a232 := Tryz.isAgg269
  z232 := Tryz.sizeOf269
  v232 := Tryz.zeroValue269
  t233 := Tryz.underlying270
  a233 := Tryz.isAgg270
  z233 := Tryz.sizeOf270
  v233 := Tryz.zeroValue270
  g17 := by kernel_rfl
  g18 := by kernel_rfl
  g19 := by kernel_rfl
  i0 := by kernel_rfl
  i2 := by kernel_rfl
  i3 := by kernel_rfl
  i4 := by kernel_rfl
  i5 := by kernel_rfl
  i9 := by kernel_rfl
  i20 := by kernel_rfl
  i37 := by kernel_rfl
  i46 := by kernel_rfl
  i51 := by kernel_rfl
  i53 := by kernel_rfl
  i171 := by kernel_rfl
  i173 := by kernel_rfl
  i212 := by kernel_rfl
  i232 := by kernel_rfl
  i233 := by kernel_rfl
  m17 := by kernel_rfl
  m18 := by kernel_rfl
  m19 := by kernel_rfl }
open Go.RowKit Go.Sort Go.Lib in
/-- strconv.Itoa: "Itoa is equivalent to FormatInt(int64(i), 10).": i's DECIMAL NUMERAL ('Lib.itoa': a '-' where i is negative, then the digits), FOR EVERY int. The world behind the call: the world before it, new blocks behind the heap (the library's 'var a [24]byte'), draws. (LAID: no walk: one application.) -/
theorem Tryz.strconv_Itoa (n : Int) (h0 : -9223372036854775808 ≤ n) (h1 : n ≤ 9223372036854775807) (w : World) (htab : Lib.TabIs Tryz.prog w "internal/strconv.uint64pow10" .u64 Lib.pow10Tab) :
    Calls Tryz.prog 193 #[.int .i64 n] w fun e w' => e = .returned (.string ⟨(Lib.itoa n).toArray⟩) ∧ ∃ k os, w' = grow (w.drewN k) os := Any.strconv_Itoa Tryz.laysM171 n h0 h1 w htab
def Tryz.lays171_ren : Go.Shelf.Ren := ⟨fun | 171 => 193 | 243 => 207 | 246 => 213 | 283 => 215 | 284 => 216 | 285 => 217 | 286 => 218 | 129 => 125 | 317 => 219 | 318 => 220 | 319 => 221 | 320 => 222 | 337 => 223 | 338 => 224 | n => n, fun | 3 => 3 | 9 => 9 | 2 => 2 | 4 => 4 | 171 => 262 | 0 => 0 | 53 => 184 | 37 => 165 | 5 => 5 | 173 => 264 | 212 => 267 | 51 => 182 | 20 => 20 | 213 => 268 | 46 => 149 | 232 => 269 | 233 => 270 | n => n, fun | 17 => 2 | 18 => 3 | 19 => 4 | n => n⟩
theorem Tryz.lays171 : Go.Proofs.Lays.n171 Tryz.prog Tryz.lays171_ren := {
  mixed := by kernel_rfl
  f129 := Tryz.func125.trans (congrArg some (by kernel_rfl))
  f171 := Tryz.func193.trans (congrArg some (by kernel_rfl))
  f243 := Tryz.func207.trans (congrArg some (by kernel_rfl))
  f246 := Tryz.func213.trans (congrArg some (by kernel_rfl))
  f283 := Tryz.func215.trans (congrArg some (by kernel_rfl))
  f284 := Tryz.func216.trans (congrArg some (by kernel_rfl))
  f285 := Tryz.func217.trans (congrArg some (by kernel_rfl))
  f286 := Tryz.func218.trans (congrArg some (by kernel_rfl))
  f317 := Tryz.func219.trans (congrArg some (by kernel_rfl))
  f318 := Tryz.func220.trans (congrArg some (by kernel_rfl))
  f319 := Tryz.func221.trans (congrArg some (by kernel_rfl))
  f320 := Tryz.func222.trans (congrArg some (by kernel_rfl))
  f337 := Tryz.func223.trans (congrArg some (by kernel_rfl))
  f338 := Tryz.func224.trans (congrArg some (by kernel_rfl))
  t0 := Tryz.underlying0
  a0 := Tryz.isAgg0
  z0 := Tryz.sizeOf0
  v0 := Tryz.zeroValue0
  t2 := Tryz.underlying2
  a2 := Tryz.isAgg2
  z2 := Tryz.sizeOf2
  v2 := Tryz.zeroValue2
  t3 := Tryz.underlying3
  a3 := Tryz.isAgg3
  z3 := Tryz.sizeOf3
  v3 := Tryz.zeroValue3
  t4 := Tryz.underlying4
  a4 := Tryz.isAgg4
  z4 := Tryz.sizeOf4
  v4 := Tryz.zeroValue4
  t5 := Tryz.underlying5
  a5 := Tryz.isAgg5
  z5 := Tryz.sizeOf5
  v5 := Tryz.zeroValue5
  t9 := Tryz.underlying9
  a9 := Tryz.isAgg9
  z9 := Tryz.sizeOf9
  v9 := Tryz.zeroValue9
  t20 := Tryz.underlying20
  a20 := Tryz.isAgg20
  z20 := Tryz.sizeOf20
  v20 := Tryz.zeroValue20
  t37 := Tryz.underlying165
  a37 := Tryz.isAgg165
  z37 := Tryz.sizeOf165
  v37 := Tryz.zeroValue165
  t46 := Tryz.underlying149
  a46 := Tryz.isAgg149
  z46 := Tryz.sizeOf149
  v46 := Tryz.zeroValue149
  t51 := Tryz.underlying182
  a51 := Tryz.isAgg182
  z51 := Tryz.sizeOf182
  v51 := Tryz.zeroValue182
  t53 := Tryz.underlying184
  a53 := Tryz.isAgg184
  z53 := Tryz.sizeOf184
  v53 := Tryz.zeroValue184
  t171 := Tryz.underlying262
  a171 := Tryz.isAgg262
  z171 := Tryz.sizeOf262
  v171 := Tryz.zeroValue262
  t173 := Tryz.underlying264
  a173 := Tryz.isAgg264
  z173 := Tryz.sizeOf264
  v173 := Tryz.zeroValue264
  t212 := Tryz.underlying267
  a212 := Tryz.isAgg267
  z212 := Tryz.sizeOf267
  v212 := Tryz.zeroValue267
  t213 := Tryz.underlying268
  a213 := Tryz.isAgg268
  z213 := Tryz.sizeOf268
  t232 := Tryz.underlying269
  a232 := Tryz.isAgg269
  z232 := Tryz.sizeOf269
  v232 := Tryz.zeroValue269
  t233 := Tryz.underlying270
  a233 := Tryz.isAgg270
  z233 := Tryz.sizeOf270
  v233 := Tryz.zeroValue270
  g17 := by kernel_rfl
  g18 := by kernel_rfl
  g19 := by kernel_rfl }
open Go.RowKit Go.Sort Go.Lib in
/-- THE ROAD WITHOUT THE TABLE: 0 <= i < 100: NO PREMISE ON THE WORLD, AND THE WORLD IS AS IT WAS: a row that keeps its argument in that range need list no table ('laid = []'). (LAID: no walk: one application.) -/
theorem Tryz.strconv_Itoa_small (i : Nat) (hi : i < 100) (w : World) :
    Calls Tryz.prog 193 #[.int .i64 i] w fun e w' => e = .returned (.string ⟨(Lib.decDigits i).toArray⟩) ∧ w' = w := Any.strconv_Itoa_small Tryz.lays171 i hi w
end Go.Proofs

/- relop.Plan.group over an empty table by no columns with one count: one row. relop.Agg.of without a column. -/
namespace Go.Proofs.YtafoklilkdnepaaGreatDoor
open Go.RowKit Go.Maps Go.ChangeMaps

theorem wpList_here {P : Program} {ops : Array Oper} {Q : Exit → Act → World → Prop} {rest : List Oper} {a : Act} {w : World} (h : ∀ W, W = w → wpList P ops Q rest a W) : wpList P ops Q rest a w := h w rfl
set_option maxRecDepth 20000 in
set_option maxHeartbeats 1600000 in
/-- how many rows -/
theorem of_rows (op col nm : ByteArray) (h5 : col.toList.isEmpty = true) (SA : Option Addr) (n c : Nat) (RA : Option Addr) (m rc : Nat) (_hm : m ≤ 1000000) (w : World) :
    Calls Tryz.prog 139 #[.agg #[.string op, .string col, .string nm], .slice SA n c, .slice RA m rc] w fun e w' => e = .returned (.tuple #[.agg #[.int .i64 1, .int .i64 m, .string ⟨#[]⟩], .int .i64 0]) ∧ Touch [] w w' := by
  have t0 := ((Touch.refl [] w).alloc (.cells #[.string op, .string col, .string nm] 79)).alloc (.cells #[.int .i64 0, .int .i64 0, .string ⟨#[]⟩] 31)
  have hr := heap_alloc_new (w.alloc (.cells #[.string op, .string col, .string nm] 79)) (.cells #[.int .i64 0, .int .i64 0, .string ⟨#[]⟩] 31)
  rw [World.size_alloc] at hr
  have HR := Lib.hid (And.intro t0 hr)
  have Hof := Lib.hid fun w' => of_num m w'
  clear t0 hr
  go_enter Tryz.func139, Tryz.ntmps139
  go_wp2_with fail
  refine (Hof.out _).mono ?_
  rintro e w1 ⟨rfl, t1⟩
  have hr1 := t1.blk HR.out.2 (by simp)
  obtain ⟨z0, z1, z2, y0, y1, y2⟩ := blk3 hr1
  have HT := Lib.hid (And.intro (HR.out.1.trans0 t1) hr1)
  clear hr1 t1
  go_wp2_with fail
  refine bodyPost_ret (results_cell_two rfl _ _ (w.heap.size + 1) _ _ _ _ rfl (set3 HT.out.2 rfl _ _ _) Tryz.underlying31 rfl rfl) rfl ⟨rfl, HT.out.1.trans (touch3 _ _ _ _ _) (fun b hb => .inr (by simp at hb; omega))⟩

set_option maxHeartbeats 1600000 in
theorem inR_one (A : Option Addr) (c : Nat) (fv : Value) (w : World) : Calls Tryz.prog 177 #[.slice A 1 c, .int .i64 0, .int .i64 1, fv] w fun e w' => e = .returned (.tuple #[]) ∧ w' = w := by
  go_enter Tryz.func177, Tryz.ntmps177
  go_wp2_with fail
  go_loop [8] (fun y => y = .int .i64 1) (fun _ => 0)
  case atStart => rfl
  case round =>
    obtain rfl := hrel
    go_wp2
    go_end0
    exact ⟨rfl, rfl⟩
set_option maxRecDepth 20000 in
set_option maxHeartbeats 3200000 in
theorem pdqR_one (A : Option Addr) (c : Nat) (lim : Int) (fv : Value) (w : World) : Calls Tryz.prog 172 #[.slice A 1 c, .int .i64 0, .int .i64 1, .int .i64 lim, fv] w fun e w' => e = .returned (.tuple #[]) ∧ w' = w := by
  have Hi := Lib.hid (inR_one A c fv)
  go_enter Tryz.func172, Tryz.ntmps172
  go_wp2_with fail
  refine wp_loop_rounds 1 ?_
  rw [rounds_succ]
  go_wp2_with fail
  refine (Hi.out _).mono ?_
  rintro e w1 ⟨rfl, hw⟩
  have HW := Lib.hid hw
  clear hw
  go_wp2_with fail
  refine bodyPost_ret (results_none rfl _ _ _) rfl ?_
  exact ⟨rfl, HW.out⟩
set_option maxHeartbeats 1600000 in
theorem sortFR_one (A : Option Addr) (c : Nat) (fv : Value) (w : World) : Calls Tryz.prog 138 #[.slice A 1 c, fv] w fun e w' => e = .returned (.tuple #[]) ∧ w' = w := by
  have Hi := Lib.hid fun lim w' => pdqR_one A c lim fv w'
  have Hb := Lib.hid fun w' => Tryz.bits_Len 1 w' (by omega) (by omega)
  go_enter Tryz.func138, Tryz.ntmps138
  go_wp2_with fail
  refine (Hb.out _).mono ?_
  rintro e w1 ⟨rfl, hw⟩
  have HW := Lib.hid hw
  clear hw
  go_wp2_with fail
  refine (Hi.out _ _).mono ?_
  rintro e w2 ⟨rfl, hw⟩
  have HW2 := Lib.hid hw
  clear hw
  go_wp2_with fail
  go_end0
  exact ⟨rfl, by rw [HW2.out, HW.out]⟩

set_option maxRecDepth 40000 in
set_option maxHeartbeats 12800000 in
/-- one row: how many rows there are, none -/
theorem group_zero (x : PC) (h1 : x.names.n = 0) (h2 : x.aggs.n = 1) (op nm : ByteArray) (sa ra : SL) (cs : List CD) (hsn : sa.n = cs.length) (hl : cs.length ≤ 1000000) (hrn : ra.n = 0) (w : World) (hg : RdK agE w x.aggs.A [⟨op, ⟨#[]⟩, nm⟩]) (hcs : ColsAt w sa.A cs) :
    Calls Tryz.prog 97 #[x.val, .agg #[.slice sa.A sa.n sa.c, .slice ra.A ra.n ra.c]] w fun e w' => ∃ B c, e = .returned (.tuple #[.slice B 1 c, .int .i64 0]) ∧ RowsAt w' B [[⟨1, 0, ⟨#[]⟩⟩]] ∧ Touch [] w w' := by
  obtain ⟨SA, sn, sc⟩ := sa
  obtain ⟨RA, rn, rc⟩ := ra
  obtain ⟨k0, k1, ⟨A2, n2, c2'⟩, ⟨⟨ck, cn, ⟨cvk, cvn, cvt⟩, cop⟩, CA, cnn, cc⟩, ⟨NA, nn, nc⟩, ⟨EA, en, ec⟩, ⟨OA, ol, oc⟩, ⟨GA, gn, gc⟩, ⟨BA, bn, bc⟩, count⟩ := x
  dsimp only at h1 h2 hsn hrn hg hcs ⊢
  simp only [PC.val]
  subst h1 h2 hrn
  obtain ⟨ad, gb, go_, rfl, hadd, hc⟩ := RdK.cells hg 3 agE_length (by omega) 0 (by simp)
  rw [Nat.zero_mul] at hadd
  have e0 := hc 0 _ rfl
  have e1 := hc 1 _ rfl
  have e2 := hc 2 _ rfl
  simp only [List.getElem_cons_zero, Nat.add_zero] at e0 e1 e2
  obtain ⟨W, hW⟩ : ∃ W, W = (w.alloc (.cells #[.int .i64 k0, .string k1, .slice A2 n2 c2', .int .i64 ck, .string cn, .int .i64 cvk, .int .i64 cvn, .string cvt, .string cop, .slice CA cnn cc, .slice NA 0 nc, .slice EA en ec, .slice OA ol oc, .slice (some ad) 1 gc, .slice BA bn bc, .int .i64 count] 49)).alloc (.cells #[.slice SA sn sc, .slice RA 0 rc] 27) := ⟨_, rfl⟩
  have t0 : Touch [] w W := hW ▸ ((Touch.refl [] w).alloc _).alloc _
  have hbp := hW ▸ ((Touch.refl [] (w.alloc (.cells #[.int .i64 k0, .string k1, .slice A2 n2 c2', .int .i64 ck, .string cn, .int .i64 cvk, .int .i64 cvn, .string cvt, .string cop, .slice CA cnn cc, .slice NA 0 nc, .slice EA en ec, .slice OA ol oc, .slice (some ad) 1 gc, .slice BA bn bc, .int .i64 count] 49))).alloc (.cells #[.slice SA sn sc, .slice RA 0 rc] 27)).blk (heap_alloc_new w _) (by simp)
  have hbt : W.heap[w.heap.size + 1]? = some (.cells #[.slice SA sn sc, .slice RA 0 rc] 27 (0, 0)) := by
    have := heap_alloc_new (w.alloc (.cells #[.int .i64 k0, .string k1, .slice A2 n2 c2', .int .i64 ck, .string cn, .int .i64 cvk, .int .i64 cvn, .string cvt, .string cop, .slice CA cnn cc, .slice NA 0 nc, .slice EA en ec, .slice OA ol oc, .slice (some ad) 1 gc, .slice BA bn bc, .int .i64 count] 49)) (.cells #[.slice SA sn sc, .slice RA 0 rc] 27)
    rw [World.size_alloc] at this
    exact hW ▸ this
  have q10 : W.cell? ⟨w.heap.size, 10, none⟩ = some (.slice NA 0 nc) := cell_blk hbp rfl
  have q13 : W.cell? ⟨w.heap.size, 13, none⟩ = some (.slice (some ad) 1 gc) := cell_blk hbp rfl
  have HW := Lib.hid hW
  have HT0 := Lib.hid t0
  have HB := Lib.hid (And.intro hbt (And.intro q10 q13))
  have HE := Lib.hid (And.intro (t0.cell e0 (by simp)) (And.intro (t0.cell e1 (by simp)) (t0.cell e2 (by simp))))
  have Hpl := Lib.hid (places_any SA sc sn cs hsn.symm (by omega) NA nc 0 [] rfl (by omega) W (hcs.touch0 t0) (RdK.nil _ _ _))
  have hmm := @run_makeMap Tryz.prog
  clear hW t0 hbp hbt e0 e1 e2 hc hg hcs hsn
  go_enter Tryz.func97, Tryz.ntmps97
  go_wp2_with fail
  rw [← HW.out]
  refine Hpl.out.mono ?_
  rintro e w1 ⟨A1, m1, rfl, M1'⟩
  have HT1 := Lib.hid M1'.t
  have tm := (HT1.out.alloc (.map #[] 0))
  obtain ⟨b0, b1, _, _⟩ := blk2 (tm.blk HB.out.1 (by simp))
  have p10 := tm.cell HB.out.2.1 (by simp)
  have HMP := Lib.hid (IdxAt.made [] w1)
  clear M1' Hpl tm q10 q13
  go_wp2_with fail
  clear hmm
  refine wp_loop_rounds 1 ?_
  rw [rounds_succ]
  go_wp2_with (at_builtin; refine stop ?_)
  refine go ?_
  refine wpList_appK (enc := slE) rfl (.tmp 71) (.tmp 72) 25 rfl 33 _ 1 24 info_r5 Tryz.underlying25 rfl (by omega) slE_length slE_one none 0 0 [] rfl rfl (OwnK.nil _ _ _ _)
    (some ⟨w1.heap.size + 1, 0, none⟩) 1 1 [⟨none, 0, 0⟩] rfl rfl (by
      have := RdK.one (enc := slE) (w1.alloc (.map #[] 0)) 33 ⟨none, 0, 0⟩ #[.slice none 0 0] rfl
      rwa [World.size_alloc] at this) (by omega) (by omega) ?_
  intro Bo co w2 hown ht hf
  obtain ⟨ad2, ob, oo, rfl, hadd2, hc2⟩ := RdK.cells hown.rd 1 slE_length (by omega) 0 (by simp)
  rw [Nat.zero_mul] at hadd2
  have o0 := hc2 0 _ rfl
  simp only [Nat.add_zero] at o0
  have o0 : w2.cell? ⟨ob, oo, none⟩ = some (.slice none 0 0) := o0
  have tb := ((Touch.refl [] (w1.alloc (.map #[] 0))).alloc (.cells #[.slice none 0 0] 33)).trans0 ht
  have HT2 := Lib.hid ((HT1.out.alloc (.map #[] 0)).trans0 tb)
  have HM2 := Lib.hid (HMP.out.touch0 tb)
  have HBL := Lib.hid (HT2.out.blk HB.out.1 (by simp))
  have p13 := HT2.out.cell HB.out.2.2 (by simp)
  have Hsr := Lib.hid (sortFR_one (some ad2) co (.func (.func 81) #[] #[]) w2)
  clear hown ht hf hc2 tb HMP
  go_wp2_with fail
  refine Hsr.out.mono ?_
  rintro e w3 ⟨rfl, rfl⟩
  go_wp2_with fail
  refine wp_loop_rounds 2 ?_
  rw [rounds_succ]
  go_wp2_with fail
  refine (cloneV_any none 0 0 [] rfl (by omega) w3 (RdK.nil _ _ _)).mono ?_
  rintro e w4 ⟨A4, c4, rfl, m4⟩
  have M4 := Lib.hid m4
  have HT4 := Lib.hid (HT2.out.trans0 m4.t)
  have HM4 := Lib.hid (HM2.out.touch0 m4.t)
  have HBL4 := Lib.hid (m4.t.blk HBL.out (by simp))
  have p13' := m4.t.cell p13 (by simp)
  have e0 := HT4.out.cell HE.out.1 (by simp)
  have e1 := HT4.out.cell HE.out.2.1 (by simp)
  have e2 := HT4.out.cell HE.out.2.2 (by simp)
  clear m4 p13 HM2
  go_wp2_with fail
  refine wp_loop_rounds 2 ?_
  rw [rounds_succ]
  go_wp2_with fail
  have ta := (Touch.refl [] w4).alloc (.cells #[.string op, .string ⟨#[]⟩, .string nm] 79)
  have hba := heap_alloc_new w4 (.cells #[.string op, .string ⟨#[]⟩, .string nm] 79)
  obtain ⟨W5, hW5⟩ : ∃ W5, W5 = w4.alloc (.cells #[.string op, .string ⟨#[]⟩, .string nm] 79) := ⟨_, rfl⟩
  rw [← hW5] at ta hba ⊢
  have HT5 := Lib.hid (And.intro ta (And.intro hba (show W5.heap.size = w4.heap.size + 1 by rw [hW5, World.size_alloc])))
  obtain ⟨K, hK⟩ : ∃ K, K = S (keyL []) := ⟨_, rfl⟩
  have Hky := Lib.hid fun w' => keyOf_any none 0 0 [] rfl w' (RdK.nil _ _ _) (by omega) (by simp) (by simp)
  rw [← hK] at Hky
  have Hof := Lib.hid fun w' => (of_rows op ⟨#[]⟩ nm (by rw [toList_B]; rfl) SA sn sc none 0 0 (by omega) w' : Calls _ _ _ _ fun e w'' => e = .returned (.tuple #[.agg #[.int .i64 1, .int .i64 0, .string ⟨#[]⟩], .int .i64 0]) ∧ _)
  have Hlk := Lib.hid fun w' (t : Touch [] W5 w') => hK ▸ (((HM4.out.touch0 ta).touch0 t).miss (keyL []) (by simp [keyL]) (by simp) false)
  have td := (Touch.refl [] W5).drew
  obtain ⟨a0, a1, a2, _, _, _⟩ := blk3 hba
  obtain ⟨s0, _, _, _⟩ := blk2 (ta.blk HBL4.out (by simp))
  have HK : Hid (∀ w', Touch [] W5 w' → w'.cell? ⟨w4.heap.size, 0, none⟩ = some (.string op) ∧ w'.cell? ⟨w4.heap.size, 1, none⟩ = some (.string ⟨#[]⟩) ∧ w'.cell? ⟨w4.heap.size, 2, none⟩ = some (.string nm) ∧ w'.cell? ⟨w.heap.size + 1, 0, none⟩ = some (.slice SA sn sc) ∧ (Instr.lookup 191 (.map (some w1.heap.size)) (.string K) false).run Tryz.prog w' = .ok (.slice none 0 0) w') := Lib.hid fun w' t => ⟨t.cell a0 (by simp), t.cell a1 (by simp), t.cell a2 (by simp), t.cell s0 (by simp), Hlk.out _ t⟩
  have HTd := Lib.hid td
  have HTe : Hid (Touch [] W5 (W5.alloc (.cells #[.int .i64 0, .int .i64 0, .string ⟨#[]⟩] 31)).drew) := Lib.hid ((Touch.refl [] W5).alloc _).drew
  have HBe := Lib.hid ((Touch.refl [] (W5.alloc (.cells #[.int .i64 0, .int .i64 0, .string ⟨#[]⟩] 31))).drew.blk (heap_alloc_new W5 (.cells #[.int .i64 0, .int .i64 0, .string ⟨#[]⟩] 31)) (by simp))
  clear hW5 ta hba hK td a0 a1 a2 s0 e0 e1 e2
  go_region_held3 (fun w' => w'.cell? ⟨w4.heap.size, 0, none⟩ = some (.string op) ∧ w'.cell? ⟨w4.heap.size, 1, none⟩ = some (.string ⟨#[]⟩) ∧ w'.cell? ⟨w4.heap.size, 2, none⟩ = some (.string nm) ∧ w'.cell? ⟨w.heap.size + 1, 0, none⟩ = some (.slice SA sn sc) ∧ (Instr.lookup 191 (.map (some w1.heap.size)) (.string K) false).run Tryz.prog w' = .ok (.slice none 0 0) w')
    (first
      | with_reducible exact HK.out _ HTd.out
      | with_reducible exact HK.out _ HTe.out
      | with_reducible exact HK.out _ T6
      | with_reducible exact HK.out _ (T6.alloc _)
      | with_reducible exact HK.out _ T7
      | with_reducible exact HK.out _ (T7.alloc _)
      | exact HK.out _ (T7.trans (touch3 _ _ _ _ _) (fun b hb => .inr (by simp at hb; omega))))
    (first
      | (go_at_call 136; refine (Hky.out _).mono ?_; rintro e w6 ⟨rfl, t6⟩; have h6 : Touch [] (W5.alloc (.cells #[.int .i64 0, .int .i64 0, .string ⟨#[]⟩] 31)).drew w6 := (by with_reducible exact t6); have hbv6 := h6.blk HBe.out (by simp); have T6 : Touch [] W5 w6 := HTe.out.trans0 h6; have s6 := T6.size)
      | (go_at_call 136; refine (Hky.out _).mono ?_; rintro e w6 ⟨rfl, t6⟩; have h6 : Touch [] W5.drew w6 := (by with_reducible exact t6); have T6 : Touch [] W5 w6 := HTd.out.trans0 h6; have s6 := T6.size)
      | (go_at_call 139; refine (Hof.out _).mono ?_; rintro e w7 ⟨rfl, t7⟩; have h7 : Touch [] (w6.alloc (.cells #[.int .i64 0, .int .i64 0, .string ⟨#[]⟩] 31)) w7 := (by with_reducible exact t7); have T7 : Touch [] W5 w7 := (T6.alloc _).trans0 h7; have hbv := h7.blk (heap_alloc_new w6 (.cells #[.int .i64 0, .int .i64 0, .string ⟨#[]⟩] 31)) (by simp); obtain ⟨z0, z1, z2, y0, y1, y2⟩ := blk3 hbv)
      | (go_at_call 139; refine (Hof.out _).mono ?_; rintro e w7 ⟨rfl, t7⟩; have h7 : Touch [] w6 w7 := (by with_reducible exact t7); have T7 : Touch [] W5 w7 := T6.trans0 h7; have hbv := h7.blk hbv6 (by simp); obtain ⟨z0, z1, z2, y0, y1, y2⟩ := blk3 hbv)
      | (go_at_call 139; refine (Hof.out _).mono ?_; rintro e w7 ⟨rfl, t7⟩; have h7 : Touch [] w6 w7 := (by with_reducible exact t7); have T7 : Touch [] W5 w7 := T6.trans0 h7))
  all_goals (go_wp2_with (at_builtin; refine stop ?_))
  all_goals
    refine go ?_
    refine wpList_here ?_
    intro W8 hW8
    have T8 : Touch [] W5 W8 := by
      rw [hW8]
      first
        | with_reducible exact (T7.alloc _).alloc _
        | exact (T7.trans (touch3 _ _ _ _ _) (fun b hb => .inr (by simp at hb; omega))).alloc _
    have hrd : ∀ g, g + 1 = W8.heap.size → RdK vdE W8 (some ⟨g, 0, none⟩) [⟨1, 0, ⟨#[]⟩⟩] := by
      obtain ⟨X, hX⟩ : ∃ X : World, W8 = X.alloc (.cells #[.int .i64 1, .int .i64 0, .string ⟨#[]⟩] 31) := ⟨_, hW8⟩
      intro g hg
      rw [hX] at hg ⊢
      rw [World.size_alloc] at hg
      obtain rfl : g = X.heap.size := by omega
      exact RdK.one (enc := vdE) X 31 ⟨1, 0, ⟨#[]⟩⟩ _ rfl
    have hA : ∀ g, g = W8.heap.size → g = W8.heap.size := fun _ h => h
    refine wpList_appK (enc := vdE) rfl (.tmp 105) (.tmp 107) 33 rfl 31 _ 3 32 info_v5 Tryz.underlying33 rfl (by omega) vdE_length vdE_one A4 0 c4 [] rfl rfl (M4.out.own.touch0 (HT5.out.1.trans0 T8))
      _ 1 _ [⟨1, 0, ⟨#[]⟩⟩] rfl rfl (hrd _ (by rw [hW8]; simp)) (by omega) (by omega) ?_
    intro A9 c9 w9 hown ht hf
    have hTT : Touch [] w w9 := (((HT0.out.trans0 HT4.out).trans0 HT5.out.1).trans0 T8).trans ht (fun b hb => .inr (by have := M4.out.f b hb; have := (HT0.out.trans0 HT2.out).size; omega))
    rw [List.nil_append] at hown
    have HX := Lib.hid (And.intro hown hTT)
    clear hown ht hf hTT hrd hA T8 hW8
    go_wp2_with fail
    rw [rounds_succ]
    go_wp2_with (at_builtin; refine stop ?_)
    refine go ?_
    refine wpList_appR rfl (.tmp 110) (.tmp 112) 25 rfl 33 info_r5 Tryz.underlying25 0 none 0 0 [] rfl rfl (OwnR.nil _ _ _) A9 c9 [⟨1, 0, ⟨#[]⟩⟩] HX.out.1.rd
      (fun b hb => ⟨by simp [fpo], HX.out.1.lt b hb, Nat.zero_le _⟩) 1 rfl (by omega) rfl ?_
    intro B' c' w' hown2 ht2 hf2
    have HY := Lib.hid (And.intro hown2 ((HX.out.2.alloc _).trans0 ht2))
    clear hown2 ht2 hf2
    go_wp2_with fail
    rw [rounds_succ]
    go_wp2_with fail
    go_ret2
    exact ⟨B', c', rfl, HY.out.1.rowsAt, HY.out.2⟩
end Go.Proofs.YtafoklilkdnepaaGreatDoor

/- relop.Plan.typed at scans. For every sources. -/
namespace Go.Proofs.YtafoklilkdnepaaGreatDoor
open Go.RowKit

/-- how many Args a kind needs -/
def needV : Nat → Nat
  | 2 => 1 | 3 => 1 | 4 => 2 | 5 => 2 | 6 => 1 | 7 => 2 | 8 => 1 | 9 => 1 | _ => 0
/-- the package's table lies there -/
def NeedsAt (w : World) : Prop := ∀ k, k < 10 → w.cell? ⟨0, k, none⟩ = some (.int .i64 (needV k))
theorem NeedsAt.touch0 {w w' : World} (h : NeedsAt w) (ht : Touch [] w w') : NeedsAt w' := fun k hk => ht.cell (h k hk) (by simp)
/-- a schema that lies in memory made since base, and an error -/
def TyPost (base : Nat) (v : Int × List CD) (w : World) (e : Ending) (w' : World) : Prop := ∃ s : SL, e = .returned (.tuple #[.slice s.A s.n s.c, .int .i64 v.1]) ∧ s.n = v.2.length ∧ s.n ≤ s.c ∧ ColsAt w' s.A v.2 ∧ (∀ b ∈ fpo s.A, base ≤ b ∧ b < w'.heap.size) ∧ Touch [] w w'
theorem TyPost.err {w w' : World} (base : Nat) (k : Int) (ht : Touch [] w w') : TyPost base (k, []) w (.returned (.tuple #[.slice none 0 0, .int .i64 k])) w' :=
  ⟨⟨none, 0, 0⟩, rfl, rfl, Nat.le_refl _, RdK.nil _ _ _, by simp [fpo], ht⟩
theorem TyPost.made {w w' : World} {k : Int} {l : List CD} {A : Option Addr} {c : Nat} (h : Made 29 2 cdE l A c w w') : TyPost w.heap.size (k, l) w (.returned (.tuple #[.slice A l.length c, .int .i64 k])) w' :=
  ⟨⟨A, l.length, c⟩, rfl, rfl, h.own.le, h.own.rd, fun b hb => ⟨h.f b hb, h.own.lt b hb⟩, h.t⟩
theorem TyPost.of {v : Int × List CD} {w : World} {e : Ending} {w' : World} (h : SchPost v w e w') : TyPost w.heap.size v w e w' := by
  obtain ⟨A, c, rfl, hm⟩ := h
  exact TyPost.made hm
/-- what the schema of a plan is, wherever it is asked for -/
def TypedC (w : World) (I : Option Addr) (ic n : Nat) (x : PC) (d : Int) (v : Int × List CD) : Prop := ∀ w', Touch [] w w' → Calls Tryz.prog 31 #[x.val, .slice I n ic, .int .i64 d] w' (TyPost w'.heap.size v w')
/-- a scan's -/
def scanV (l : List SrcD) (s : ByteArray) : Int × List CD := match srcI l s with
  | none => (13, [])
  | some k => match l[k]? with
    | none => (13, [])
    | some d => if checkT d.cs d.rows = 0 then (0, d.cs) else (12, [])

set_option maxRecDepth 40000 in
set_option maxHeartbeats 6400000 in
theorem typed_scan (x : PC) (hk0 : x.kind = 1) (ha0 : x.args.n = 0) (d : Int) (hd : d ≤ 16) (I : Option Addr) (ic n : Nat) (l : List SrcD) (hn : l.length = n) (hl : n ≤ 1000000) (hok : ∀ d ∈ l, d.Ok) (w : World) (hG : NeedsAt w) (h : SrcsAt w I l) :
    Calls Tryz.prog 31 #[x.val, .slice I n ic, .int .i64 d] w (TyPost w.heap.size (scanV l x.name) w) := by
  obtain ⟨k0, k1, ⟨A2, n2, c2'⟩, ⟨⟨ck, cn, ⟨cvk, cvn, cvt⟩, cop⟩, CA, cnn, cc⟩, ⟨NA, nn, nc⟩, ⟨EA, en, ec⟩, ⟨OA, ol, oc⟩, ⟨GA, gn, gc⟩, ⟨BA, bn, bc⟩, count⟩ := x
  dsimp only at hk0 ha0 ⊢
  subst hk0 ha0
  simp only [PC.val]
  obtain ⟨W, hW⟩ : ∃ W, W = w.alloc (.cells #[.int .i64 1, .string k1, .slice A2 0 c2', .int .i64 ck, .string cn, .int .i64 cvk, .int .i64 cvn, .string cvt, .string cop, .slice CA cnn cc, .slice NA nn nc, .slice EA en ec, .slice OA ol oc, .slice GA gn gc, .slice BA bn bc, .int .i64 count] 49) := ⟨_, rfl⟩
  have t0 : Touch [] w W := hW ▸ (Touch.refl [] w).alloc _
  have hb0 := hW ▸ heap_alloc_new w (.cells #[.int .i64 1, .string k1, .slice A2 0 c2', .int .i64 ck, .string cn, .int .i64 cvk, .int .i64 cvn, .string cvt, .string cop, .slice CA cnn cc, .slice NA nn nc, .slice EA en ec, .slice OA ol oc, .slice GA gn gc, .slice BA bn bc, .int .i64 count] 49)
  have g1 := t0.cell (hG 1 (by omega)) (by simp)
  have q0 : W.cell? ⟨w.heap.size, 0, none⟩ = some (.int .i64 1) := cell_blk hb0 rfl
  have q1 : W.cell? ⟨w.heap.size, 1, none⟩ = some (.string k1) := cell_blk hb0 rfl
  have q2 : W.cell? ⟨w.heap.size, 2, none⟩ = some (.slice A2 0 c2') := cell_blk hb0 rfl
  have hd2 : (16 < d) = False := by simp; omega
  have HW := Lib.hid hW
  have HT0 := Lib.hid t0
  simp only [needV] at g1
  rcases hs : srcI l k1 with _ | k
  · have Hs := Lib.hid fun w' (t : Touch [] W w') => source_no I ic n l hn k1 w' (h.touch0 (t0.trans0 t)) (by omega) hs
    have Hv := Lib.hid (show scanV l k1 = (13, []) by unfold scanV; rw [hs])
    clear hs h hb0 hW t0
    go_enter Tryz.func31, Tryz.ntmps31
    go_wp2_with fail
    rw [← HW.out]
    go_quiet (fail)
    go_wp2_with fail
    refine (Hs.out _ ((Touch.refl _ _).drewN _)).mono ?_
    rintro e w1 ⟨rfl, t1⟩
    have HT1 := Lib.hid ((HT0.out.drewN _).trans0 t1)
    clear t1
    go_wp2_with fail
    go_ret2
    rw [Hv.out]
    exact TyPost.err _ 13 (HT1.out.alloc _)
  · have hkl := srcI_lt hs
    have Hs := Lib.hid fun w' (t : Touch [] W w') => source_yes I ic n l hn k1 w' (h.touch0 (t0.trans0 t)) (by omega) k hkl hs
    have hdk := hok _ (List.getElem_mem hkl)
    have hlk : l[k]? = some l[k] := List.getElem?_eq_getElem hkl
    obtain ⟨sd, hsd⟩ : ∃ sd, sd = l[k] := ⟨_, rfl⟩
    rw [← hsd] at Hs hdk hlk
    obtain ⟨snm, cs, rows⟩ := sd
    dsimp only at Hs
    have Hv := Lib.hid (show scanV l k1 = if checkT cs rows = 0 then (0, cs) else (12, []) by unfold scanV; rw [hs]; dsimp only; rw [hlk])
    have Hok := Lib.hid hdk
    clear hs h hb0 hW t0 hsd hlk hdk
    go_enter Tryz.func31, Tryz.ntmps31
    go_wp2_with fail
    rw [← HW.out]
    go_quiet (fail)
    go_wp2_with fail
    refine (Hs.out _ ((Touch.refl _ _).drewN _)).mono ?_
    rintro e w1 ⟨s1, r1, rfl, htab, t1⟩
    obtain ⟨SA, sn, sc⟩ := s1
    obtain ⟨RA, rn, rc⟩ := r1
    have HT1 := Lib.hid ((HT0.out.drewN _).trans0 t1)
    have ta := (Touch.refl [] w1).alloc (.cells #[.slice SA sn sc, .slice RA rn rc] 27)
    have hbt := heap_alloc_new w1 (.cells #[.slice SA sn sc, .slice RA rn rc] 27)
    obtain ⟨h1, h2, h3, h4, h5⟩ := htab
    dsimp only at h1 h2 h3 h4 h5
    have hck := checkT_any SA sc sn cs h1.symm Hok.out.cols RA rc rn rows h4.symm Hok.out.rows _ (h3.touch0 ta) (h5.touch0 ta) (by have := Hok.out.n; dsimp only at this; omega) (by have := Hok.out.m; dsimp only at this; omega)
    obtain ⟨K, hK⟩ : ∃ K, K = checkT cs rows := ⟨_, rfl⟩
    rw [← hK] at hck Hv
    have Hck := Lib.hid hck
    have HX := Lib.hid (And.intro ta (And.intro hbt (And.intro h1 (And.intro h2 h3))))
    clear t1 ta hbt h1 h2 h3 h4 h5 hck hK
    by_cases hz : K = 0
    · have Hv0 := Lib.hid (show scanV l k1 = (0, cs) by rw [Hv.out, if_pos hz])
      subst hz
      clear Hv
      go_wp2_with fail
      refine Hck.out.mono ?_
      rintro e w2 ⟨rfl, t2⟩
      obtain ⟨ta, hbt, h1, h2, h3⟩ := HX.out
      obtain ⟨f0, f1, _, _⟩ := blk2 (t2.blk hbt (by simp))
      have Hcl := Lib.hid (cloneC_any SA sc sn cs h1.symm (by have := Hok.out.n; dsimp only at this; omega) w2 (h3.touch0 (ta.trans0 t2)))
      have HT2 := Lib.hid ((HT1.out.trans0 ta).trans0 t2)
      clear ta hbt h1 h2 h3 t2
      go_wp2_with fail
      refine Hcl.out.mono ?_
      rintro e w3 ⟨A3, c3, rfl, hm⟩
      have HM := Lib.hid hm
      clear hm
      go_wp2_with fail
      go_ret2
      rw [Hv0.out]
      exact ⟨⟨A3, sn, c3⟩, rfl, HX.out.2.2.1, by have := HM.out.own.le; have := HX.out.2.2.1; dsimp only; omega, HM.out.own.rd, fun b hb => ⟨Nat.le_trans HT2.out.size (HM.out.f b hb), HM.out.own.lt b hb⟩, HT2.out.trans0 HM.out.t⟩
    · have Hv0 := Lib.hid (show scanV l k1 = (12, []) by rw [Hv.out, if_neg hz])
      have hq : (K == 0) = false := by rw [beq_eq_false_iff_ne]; exact hz
      have hq' : (K != 0) = true := by rw [bne, hq]; rfl
      go_wp2_with fail
      refine Hck.out.mono ?_
      rintro e w2 ⟨rfl, t2⟩
      have HT2 := Lib.hid ((HT1.out.trans0 HX.out.1).trans0 t2)
      clear t2
      go_wp2_with fail
      go_ret2
      rw [Hv0.out]
      exact TyPost.err _ 12 HT2.out
end Go.Proofs.YtafoklilkdnepaaGreatDoor
