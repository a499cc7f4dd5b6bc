/- Part 5 of the texts of this proof, one behind the other; each begins with its own sentence. No condition beyond those that its theorems state. -/
import Derived.Test.YtgpadejkmpfafaaDoorFp4
import Derived.Laws.StructEq
import Derived.Shelf.Small.Strs
import Derived.Shelf.Small.Wraps
import Derived.Ground.Names2Prog
import Derived.Shelf.Slices.SearchI
import Derived.Shelf.Bytes.SlSearch0
import Derived.Ground.SlbCloneProg
import Derived.Shelf.Bytes.SlClone
import Derived.Shelf.Bytes.SlEqualAll
import Derived.Shelf.Bytes.Small
import Derived.Test.YtgpadejkmpfafaaDoorProg
import Derived.StillTailTactics
/- Slices of numbers; schema.Schema.Equal: for every schemas. -/
namespace Go.Proofs.YtgpadejkmpfafaaDoor
open Go.RowKit

/-- a number's cell -/
def inE (n : Int) : List Value := [.int .i64 n]
theorem inE_length (n : Int) : (inE n).length = 1 := rfl
theorem inE_one (n : Int) : ∀ u ∈ inE n, u.oneCell' = true := by
  intro u hu
  obtain rfl : u = .int .i64 n := by simpa [inE] using hu
  rfl
theorem RdKI.at_ {w : World} {A : Option Addr} {l : List Int} (h : RdK inE w A l) (i : Nat) (hi : i < l.length) : ∃ ad, A = some ad ∧ w.cell? (ad.add i) = some (.int .i64 l[i]) := by
  obtain ⟨ad, b, off, h1, h2, _, h3⟩ := RdK.at_ h 1 inE_length (by omega) i hi
  rw [Nat.mul_one] at h2
  exact ⟨ad, h1, by rw [h2]; exact h3 0 _ rfl⟩
theorem info_int : (Tryd.prog.info? 3).map (fun i => (i.zero, i.size, i.bytes)) = some (some (.int .i64 0), 1, 8) := by kernel_rfl

/-- are two columns one? -/
def eqC (a b : CD) : Bool := decide (a.name = b.name) && decide (a.typ = b.typ)
theorem eqC_iff (a b : CD) : eqC a b = true ↔ a = b := by
  obtain ⟨an, aty⟩ := a
  obtain ⟨bn, bty⟩ := b
  simp [eqC]
theorem eqIn_col (a b : CD) (w : World) : (Op.equalIn 10000 83 (.agg #[.string a.name, .int .i64 a.typ]) (.agg #[.string b.name, .int .i64 b.typ])).run Tryd.prog w = .ok (eqC a b) w := by
  have hS : Tryd.prog.underlying 83 = some (.struct (Tryd.prog.fieldsOf 83)) := by kernel_rfl
  have hp : Tryd.prog.stoodInHeld 83 = false := by kernel_rfl
  rw [show (10000 : Nat) = 9999 + 1 from rfl, run_equalIn_agg w 9999 83 _ _ hS hp]
  simp only [Program.fieldsOf, Tryd.underlying83]
  have hs := bs_beq a.name b.name
  go_simp
  by_cases h1 : a.name = b.name <;> by_cases h2 : a.typ = b.typ <;> simp [eqC, h1, h2]
theorem guard_col (op : BinOp) (x y : Operand) (a b : Array Value) (w : World) : (eqGuard op 83 x y (.agg a) (.agg b)).run Tryd.prog w = .ok () w := run_eqGuard_agg w op _ x y _ _ (by kernel_rfl)

/-- are two lists of columns one? -/
def eqCs : List CD → List CD → Bool
  | [], [] => true
  | a :: r, b :: s => eqC a b && eqCs r s
  | _, _ => false
theorem eqCs_iff (l r : List CD) : eqCs l r = true ↔ l = r := by
  induction l generalizing r with
  | nil => cases r <;> simp [eqCs]
  | cons a l ih => cases r with
    | nil => simp [eqCs]
    | cons b r => simp [eqCs, ih, eqC_iff]

set_option maxRecDepth 20000 in
set_option maxHeartbeats 1600000 in
theorem equalC_any (A B : Option Addr) (c1 c2 n m : Nat) (l r : List CD) (hn : l.length = n) (hm : r.length = m) (w : World) (h : ColsAt w A l) (h2 : ColsAt w B r) (hl : n ≤ 140737000000000) (hl2 : m ≤ 140737000000000) :
    Calls Tryd.prog 62 #[.slice A n c1, .slice B m c2] w fun e w' => e = .returned (.bool (eqCs l r)) ∧ Touch [] w w' := by
  subst hn hm
  by_cases hlen : l.length = r.length
  · have Hlen := Lib.hid hlen
    have hq : ((l.length : Int) == (r.length : Int)) = true := by rw [beq_iff_eq]; omega
    have hq' : ((l.length : Int) != (r.length : Int)) = false := by rw [bne, hq]; rfl
    clear hlen
    go_enter Tryd.func62, Tryd.ntmps62
    go_wp2
    clear hq hq'
    go_loopw [13] (fun i wr => ∃ k : Nat, k ≤ l.length ∧ i = .int .i64 k ∧ Hid (eqCs l r = eqCs (l.drop k) (r.drop k)) ∧ Touch [] w wr) (fun i _ => l.length - (intOf i).toNat)
    case atStart => exact ⟨0, by omega, rfl, Lib.hid rfl, Touch.refl _ _⟩
    case round =>
      obtain ⟨k, hk, rfl, He, ht⟩ := hrel
      by_cases hlt : k < l.length
      · have hlt2 : k < r.length := by have := Hlen.out; omega
        obtain ⟨ad, b, off, rfl, hadd, c0, c1⟩ := (h.touch0 ht).at_ k hlt
        obtain ⟨bd, b2, off2, rfl, hadd2, d0, d1⟩ := (h2.touch0 ht).at_ k hlt2
        have hst : eqCs l r = (eqC l[k] r[k] && eqCs (l.drop (k + 1)) (r.drop (k + 1))) := by
          rw [He.out, List.drop_eq_getElem_cons hlt, List.drop_eq_getElem_cons hlt2]; rfl
        have heq := eqIn_col l[k] r[k]
        obtain ⟨x, hx⟩ : ∃ x, x = l[k] := ⟨_, rfl⟩
        obtain ⟨y, hy⟩ : ∃ y, y = r[k] := ⟨_, rfl⟩
        rw [← hx, ← hy] at hst heq
        rw [← hx] at c0 c1
        rw [← hy] at d0 d1
        have Hst := Lib.hid hst
        have hgd := guard_col
        have g0 := TW.cell c0
        have g1 := TW.cell c1
        have g2 := TW.cell d0
        have g3 := TW.cell d1
        have hkI0 : (0 : Int) ≤ (k : Int) := by omega
        have hkI : (k : Int) < (l.length : Int) := by omega
        have hkI2 : (k : Int) < (r.length : Int) := by omega
        clear hst hx hy He c0 c1 d0 d1
        rcases hxy : eqC x y with _ | _
        · have Hf := Lib.hid (show eqCs l r = false by rw [Hst.out, hxy]; rfl)
          rw [hxy] at heq
          clear hxy
          go_wp2
          refine wp_region_tw wr (Touch.refl _ _) (by kernel_rfl) (by kernel_rfl) ?_
          repeat (go_big_quiet_step (fail))
          refine wpQuiet_nil ?_
          rintro _ ⟨x2, rfl⟩
          go_wp2
          go_ret
          exact ⟨ret_bool (by rw [Hf.out]), ht.trans0 x2.t⟩
        · have Hf := Lib.hid (show eqCs l r = eqCs (l.drop (k + 1)) (r.drop (k + 1)) by rw [Hst.out, hxy]; rfl)
          rw [hxy] at heq
          clear hxy
          go_wp2
          refine wp_region_tw wr (Touch.refl _ _) (by kernel_rfl) (by kernel_rfl) ?_
          repeat (go_big_quiet_step (fail))
          refine wpQuiet_nil ?_
          rintro _ ⟨x2, rfl⟩
          go_wp2
          go_roundw
          case rel => exact ⟨k + 1, by omega, by go_num, Hf, ht.trans0 x2.t⟩
          case measure => simp [intOf]; omega
      · obtain rfl : k = l.length := by omega
        have Hf := Lib.hid (show eqCs l r = true by rw [He.out, List.drop_length, List.drop_of_length_le (by have := Hlen.out; omega)]; rfl)
        go_wp2
        go_ret
        exact ⟨ret_bool (by rw [Hf.out]), ht⟩
  · have Hf := Lib.hid (show eqCs l r = false by
      rw [Bool.eq_false_iff]
      intro h
      rw [eqCs_iff] at h
      exact hlen (by rw [h]))
    have hq : ((l.length : Int) == (r.length : Int)) = false := by rw [beq_eq_false_iff_ne]; omega
    have hq' : ((l.length : Int) != (r.length : Int)) = true := by rw [bne, hq]; rfl
    clear hlen
    go_enter Tryd.func62, Tryd.ntmps62
    go_wp2
    go_ret
    exact ⟨ret_bool (by rw [Hf.out]), Touch.refl _ _⟩
theorem schEqual_any (A B : Option Addr) (c1 c2 n m : Nat) (l r : List CD) (hn : l.length = n) (hm : r.length = m) (w : World) (h : ColsAt w A l) (h2 : ColsAt w B r) (hl : n ≤ 140737000000000) (hl2 : m ≤ 140737000000000) :
    Calls Tryd.prog 50 #[.slice A n c1, .slice B m c2] w fun e w' => e = .returned (.bool (eqCs l r)) ∧ Touch [] w w' := by
  go_enter Tryd.func50, Tryd.ntmps50
  go_wp2_with fail
  refine (equalC_any A B c1 c2 n m l r hn hm w h h2 hl hl2).mono ?_
  rintro e w1 ⟨rfl, t1⟩
  go_wp2
  go_ret
  exact ⟨rfl, t1⟩
end Go.Proofs.YtgpadejkmpfafaaDoor

/- The contracts of Go library functions at this translation, laid in plain words by the tool of the kit; no condition. -/
namespace Go.Proofs
open Go.Shelf
def Tryd.lays106_ren : Go.Shelf.Ren := ⟨fun | 106 => 67 | 213 => 71 | 265 => 72 | n => n, fun | 9 => 9 | 3 => 3 | n => n, fun | n => n⟩
theorem Tryd.lays106 : Go.Proofs.Lays.n106 Tryd.prog Tryd.lays106_ren := {
  mixed := by kernel_rfl
  f106 := Tryd.func67.trans (congrArg some (by kernel_rfl))
  f213 := Tryd.func71.trans (congrArg some (by kernel_rfl))
  f265 := Tryd.func72.trans (congrArg some (by kernel_rfl))
  t3 := Tryd.underlying3
  a3 := Tryd.isAgg3
  z3 := Tryd.sizeOf3
  v3 := Tryd.zeroValue3
  t9 := Tryd.underlying9
  a9 := Tryd.isAgg9
  z9 := Tryd.sizeOf9
  v9 := Tryd.zeroValue9 }
open Go.RowKit in
/-- strings.Compare: "Compare returns an integer comparing two strings lexicographically. The result will be 0 if a == b, -1 if a < b, and +1 if a > b.": IT RETURNS 'Lib.compareBytes a b'; the world is as it was. (LAID: no walk: one application.) -/
theorem Tryd.strings_Compare (a b : ByteArray) (w : World) :
    Calls Tryd.prog 67 #[.string a, .string b] w fun e w' => e = .returned (.int .i64 (Lib.compareBytes a.data.toList b.data.toList)) ∧ w' = w := Any.strings_Compare Tryd.lays106 a b w
def Tryd.lays122_ren : Go.Shelf.Ren := ⟨fun | 122 => 66 | 215 => 70 | n => n, fun | 3 => 3 | 4 => 4 | n => n, fun | n => n⟩
theorem Tryd.lays122 : Go.Proofs.Lays.n122 Tryd.prog Tryd.lays122_ren := {
  mixed := by kernel_rfl
  f122 := Tryd.func66.trans (congrArg some (by kernel_rfl))
  f215 := Tryd.func70.trans (congrArg some (by kernel_rfl))
  t3 := Tryd.underlying3
  a3 := Tryd.isAgg3
  z3 := Tryd.sizeOf3
  v3 := Tryd.zeroValue3
  t4 := Tryd.underlying4
  a4 := Tryd.isAgg4
  z4 := Tryd.sizeOf4
  v4 := Tryd.zeroValue4 }
open Go.RowKit in
/-- cmp.Compare at int: "Compare returns -1 if x is less than y, 0 if x equals y, +1 if x is greater than y.": IT RETURNS 'Lib.compareInt x y'; the world is as it was. (LAID: no walk: one application.) -/
theorem Tryd.cmp_Compare_int (x y : Int) (w : World) :
    Calls Tryd.prog 66 #[.int .i64 x, .int .i64 y] w fun e w' => e = .returned (.int .i64 (Lib.compareInt x y)) ∧ w' = w := Any.cmp_Compare_int Tryd.lays122 x y w
end Go.Proofs

/- The order of values and of rows: cmp.Or, value.Value.Cmp. For every values. -/
namespace Go.Proofs.YtgpadejkmpfafaaDoor
open Go.RowKit

/-- the first that is not 0 -/
def orV : List Int → Int
  | [] => 0
  | x :: r => if x = 0 then orV r else x
def cmpVV (a b : VD) : Int := orV [Lib.compareInt a.kind b.kind, Lib.compareInt a.num b.num, Lib.compareBytes a.text.data.toList b.text.data.toList]
def cmpRV : List VD → List VD → Int
  | [], [] => 0
  | [], _ :: _ => -1
  | _ :: _, [] => 1
  | a :: l, b :: r => if cmpVV a b = 0 then cmpRV l r else cmpVV a b

theorem compareInt_neg (x y : Int) : Lib.compareInt y x = -Lib.compareInt x y := by
  unfold Lib.compareInt
  split <;> split <;> (try split) <;> omega
theorem compareInt_b (x y : Int) : -1 ≤ Lib.compareInt x y ∧ Lib.compareInt x y ≤ 1 := by
  unfold Lib.compareInt
  split <;> (try split) <;> omega
theorem compareBytes_neg : ∀ (x y : List UInt8), Lib.compareBytes y x = -Lib.compareBytes x y
  | [], [] => rfl
  | [], _ :: _ => rfl
  | _ :: _, [] => rfl
  | a :: l, b :: r => by
    unfold Lib.compareBytes
    by_cases h1 : a < b
    · have h2 : ¬ b < a := by rw [UInt8.lt_iff_toNat_lt] at h1 ⊢; omega
      rw [if_neg h2, if_pos h1, if_pos h1]; rfl
    · by_cases h2 : b < a
      · rw [if_pos h2, if_neg h1, if_pos h2]
      · rw [if_neg h2, if_neg h1, if_neg h1, if_neg h2]; exact compareBytes_neg l r
theorem compareBytes_b : ∀ (x y : List UInt8), -1 ≤ Lib.compareBytes x y ∧ Lib.compareBytes x y ≤ 1
  | [], [] => ⟨by decide, by decide⟩
  | [], _ :: _ => ⟨Int.le_refl (-1), show (-1 : Int) ≤ 1 by decide⟩
  | _ :: _, [] => ⟨show (-1 : Int) ≤ 1 by decide, Int.le_refl 1⟩
  | a :: l, b :: r => by
    unfold Lib.compareBytes
    split
    · omega
    · split
      · omega
      · exact compareBytes_b l r
theorem cmpVV_neg (a b : VD) : cmpVV b a = -cmpVV a b := by
  unfold cmpVV
  rw [compareInt_neg a.kind, compareInt_neg a.num, compareBytes_neg a.text.data.toList]
  generalize Lib.compareInt a.kind b.kind = x
  generalize Lib.compareInt a.num b.num = y
  generalize Lib.compareBytes a.text.data.toList b.text.data.toList = z
  simp only [orV]
  by_cases h1 : x = 0 <;> by_cases h2 : y = 0 <;> by_cases h3 : z = 0 <;> simp [h1, h2, h3]
theorem cmpVV_b (a b : VD) : -1 ≤ cmpVV a b ∧ cmpVV a b ≤ 1 := by
  have h1 := compareInt_b a.kind b.kind
  have h2 := compareInt_b a.num b.num
  have h3 := compareBytes_b a.text.data.toList b.text.data.toList
  unfold cmpVV
  simp only [orV]
  split
  · split
    · split <;> omega
    · omega
  · omega
theorem cmpRV_neg : ∀ (l r : List VD), cmpRV r l = -cmpRV l r
  | [], [] => rfl
  | [], _ :: _ => rfl
  | _ :: _, [] => rfl
  | a :: l, b :: r => by
    unfold cmpRV
    rw [cmpVV_neg a b]
    by_cases h : cmpVV a b = 0
    · rw [if_pos (by omega), if_pos h]; exact cmpRV_neg l r
    · rw [if_neg (by omega), if_neg h]
theorem cmpRV_b : ∀ (l r : List VD), -1 ≤ cmpRV l r ∧ cmpRV l r ≤ 1
  | [], [] => ⟨by decide, by decide⟩
  | [], _ :: _ => ⟨Int.le_refl (-1), show (-1 : Int) ≤ 1 by decide⟩
  | _ :: _, [] => ⟨show (-1 : Int) ≤ 1 by decide, Int.le_refl 1⟩
  | a :: l, b :: r => by
    unfold cmpRV
    split
    · exact cmpRV_b l r
    · exact cmpVV_b a b

set_option maxHeartbeats 800000 in
theorem or_any (A : Option Addr) (cap n : Nat) (l : List Int) (hn : l.length = n) (w : World) (h : RdK inE w A l) (hl : n ≤ 140737000000000) :
    Calls Tryd.prog 65 #[.slice A n cap] w fun e w' => e = .returned (.int .i64 (orV l)) ∧ w' = w := by
  subst hn
  go_enter Tryd.func65, Tryd.ntmps65
  go_wp2
  go_loopw [8] (fun i wr => ∃ k : Nat, k ≤ l.length ∧ i = .int .i64 k ∧ Hid (orV l = orV (l.drop k)) ∧ wr = w) (fun i _ => l.length - (intOf i).toNat)
  case atStart => exact ⟨0, by omega, rfl, Lib.hid rfl, rfl⟩
  case round =>
    obtain ⟨k, hk, rfl, Ho, rfl⟩ := hrel
    by_cases hlt : k < l.length
    · obtain ⟨ad, rfl, c0⟩ := RdKI.at_ h k hlt
      have hst : orV (l.drop k) = if l[k] = 0 then orV (l.drop (k + 1)) else l[k] := by rw [List.drop_eq_getElem_cons hlt]; rfl
      obtain ⟨x, hx⟩ : ∃ x, x = l[k] := ⟨_, rfl⟩
      rw [← hx] at hst c0
      have Hst := Lib.hid hst
      clear hst hx
      by_cases h0 : x = 0
      · subst h0
        have Hq := Lib.hid (show orV l = orV (l.drop (k + 1)) by rw [Ho.out, Hst.out, if_pos rfl])
        go_wp2
        go_roundw
        case rel => exact ⟨k + 1, by omega, by go_num, Hq, trivial⟩
        case measure => simp [intOf]; omega
      · have Hq := Lib.hid (show orV l = x by rw [Ho.out, Hst.out, if_neg h0])
        have hq : (x == 0) = false := by rw [beq_eq_false_iff_ne]; exact h0
        have hq' : (x != 0) = true := by rw [bne, hq]; rfl
        go_wp2
        go_ret
        exact ⟨ret_int Hq.out.symm, rfl⟩
    · obtain rfl : k = l.length := by omega
      have Hq := Lib.hid (show orV l = 0 by rw [Ho.out, List.drop_length]; rfl)
      go_wp2
      go_ret
      exact ⟨ret_int Hq.out.symm, rfl⟩

theorem RdK.row {α : Type} {enc : α → List Value} (w : World) (t : TypeId) (l : List α) (cs : Array Value) (h : cs.toList = l.flatMap enc) : RdK enc (w.alloc (.cells cs t)) (some ⟨w.heap.size, 0, none⟩) l := fun _ =>
  ⟨_, rfl, fun j u hu => by
    have hadd : (⟨w.heap.size, 0, none⟩ : Addr).add j = ⟨w.heap.size, j, none⟩ := by unfold Addr.add; split <;> simp_all
    rw [hadd, cell_of_row _ w.heap.size j cs t (0, 0) (heap_alloc_new w _)]
    rw [← h] at hu
    simpa using hu⟩

theorem wp_still_tail' {P : Program} {id : Nat} {Q : Exit → Act → World → Prop} {a : Act} {w : World} {l : List Oper} (n : Nat) (hm : P.follows .mixedOrders = true) (hB : Region.lexTailB .any l.toArray n = true)
    (h : ∀ w2, w2 = w.drew → wpStill P l.toArray w2 (fun a' => wpList P l.toArray Q (l.drop n) a' w2) (l.take n) a) : (Code.region id l.toArray true).wp P Q a w :=
  wp_region_still_tail n hm hB (h _ rfl)

set_option maxRecDepth 20000 in
set_option maxHeartbeats 1600000 in
theorem cmpVal_any (a b : VD) (w : World) :
    Calls Tryd.prog 61 #[a.val, b.val] w fun e w' => e = .returned (.int .i64 (cmpVV a b)) ∧ Touch [] w w' := by
  obtain ⟨k1, n1, s1⟩ := a
  obtain ⟨k2, n2, s2⟩ := b
  have h1 := fun w' => Tryd.cmp_Compare_int k1 k2 w'
  have h2 := fun w' => Tryd.cmp_Compare_int n1 n2 w'
  have h3 := fun w' => Tryd.strings_Compare s1 s2 w'
  have hc : cmpVV ⟨k1, n1, s1⟩ ⟨k2, n2, s2⟩ = orV [Lib.compareInt k1 k2, Lib.compareInt n1 n2, Lib.compareBytes s1.data.toList s2.data.toList] := rfl
  rw [hc]
  obtain ⟨x, hx⟩ : ∃ x, x = Lib.compareInt k1 k2 := ⟨_, rfl⟩
  obtain ⟨y, hy⟩ : ∃ y, y = Lib.compareInt n1 n2 := ⟨_, rfl⟩
  obtain ⟨z, hz⟩ : ∃ z, z = Lib.compareBytes s1.data.toList s2.data.toList := ⟨_, rfl⟩
  rw [← hx, ← hy, ← hz]
  rw [← hx] at h1
  rw [← hy] at h2
  rw [← hz] at h3
  have H1 := Lib.hid h1; have H2 := Lib.hid h2; have H3 := Lib.hid h3
  have t0 := (((Touch.refl [] w).alloc (.cells #[.int .i64 k1, .int .i64 n1, .string s1] 59)).alloc (.cells #[.int .i64 k2, .int .i64 n2, .string s2] 59))
  clear h1 h2 h3 hx hy hz hc
  dsimp only [VD.val]
  go_enter Tryd.func61, Tryd.ntmps61
  go_wp2_with fail
  refine wp_still_tail' 15 (by kernel_rfl) (by kernel_rfl) ?_
  intro w2 hw2
  have ta := (((Touch.refl [] (w.alloc (.cells #[.int .i64 k1, .int .i64 n1, .string s1] 59))).alloc (.cells #[.int .i64 k2, .int .i64 n2, .string s2] 59))).drew
  have tb := ((Touch.refl [] ((w.alloc (.cells #[.int .i64 k1, .int .i64 n1, .string s1] 59)).alloc (.cells #[.int .i64 k2, .int .i64 n2, .string s2] 59)))).drew
  have t2 := t0.drew
  rw [← hw2] at ta tb t2
  have hb1 := heap_alloc_new w (.cells #[.int .i64 k1, .int .i64 n1, .string s1] 59)
  have hb2 := heap_alloc_new (w.alloc (.cells #[.int .i64 k1, .int .i64 n1, .string s1] 59)) (.cells #[.int .i64 k2, .int .i64 n2, .string s2] 59)
  rw [World.size_alloc] at hb2
  have e0 := ta.cell (cell_blk hb1 (i := 0) rfl) (by simp)
  have e1 := ta.cell (cell_blk hb1 (i := 1) rfl) (by simp)
  have e2 := ta.cell (cell_blk hb1 (i := 2) rfl) (by simp)
  have f0 := tb.cell (cell_blk hb2 (i := 0) rfl) (by simp)
  have f1 := tb.cell (cell_blk hb2 (i := 1) rfl) (by simp)
  have f2 := tb.cell (cell_blk hb2 (i := 2) rfl) (by simp)
  clear hb1 hb2 ta tb t0 hw2
  simp only [List.take_succ_cons, List.take_zero, List.drop_succ_cons, List.drop_zero]
  repeat still_step
  still_call (H1.out _)
  repeat still_step
  still_call (H2.out _)
  repeat still_step
  still_call (H3.out _)
  refine wpStill_nil ?_
  have r3 : RdK inE (w2.alloc (.cells #[.int .i64 x, .int .i64 y, .int .i64 z] 3)) (some ⟨w2.heap.size, 0, none⟩) [x, y, z] := RdK.row w2 3 [x, y, z] _ rfl
  go_wp2_with fail
  refine (or_any _ 3 3 [x, y, z] rfl _ r3 (by omega)).mono ?_
  rintro e w3 ⟨rfl, rfl⟩
  go_wp2
  go_ret
  exact ⟨rfl, t2.alloc _⟩
end Go.Proofs.YtgpadejkmpfafaaDoor

/- slices.CompareFunc at rows of values, schema.CmpRows. For every rows. -/
namespace Go.Proofs.YtgpadejkmpfafaaDoor
open Go.RowKit

theorem cmpRV_step {l r : List VD} {k : Nat} (h1 : k < l.length) (h2 : k < r.length) : cmpRV (l.drop k) (r.drop k) = if cmpVV l[k] r[k] = 0 then cmpRV (l.drop (k + 1)) (r.drop (k + 1)) else cmpVV l[k] r[k] := by
  rw [List.drop_eq_getElem_cons h1, List.drop_eq_getElem_cons h2]; rfl
theorem cmpRV_end (l r : List VD) (h : l = [] ∨ r = []) : cmpRV l r = if l.length < r.length then -1 else if r.length < l.length then 1 else 0 := by
  rcases h with rfl | rfl
  · cases r <;> rfl
  · cases l <;> rfl

set_option maxRecDepth 20000 in
set_option maxHeartbeats 1600000 in
theorem compareFunc_any (A B : Option Addr) (c1 c2 n m : Nat) (l r : List VD) (hn : l.length = n) (hm : r.length = m) (w : World) (h : ValsAt w A l) (h2 : ValsAt w B r) (hl : n ≤ 140737000000000) (hl2 : m ≤ 140737000000000) :
    Calls Tryd.prog 60 #[.slice A n c1, .slice B m c2, .func (.func 61) #[] #[]] w fun e w' => e = .returned (.int .i64 (cmpRV l r)) ∧ Touch [] w w' := by
  subst hn hm
  go_enter Tryd.func60, Tryd.ntmps60
  go_wp2
  go_loopw [13] (fun i wr => ∃ k : Nat, k ≤ l.length ∧ k ≤ r.length ∧ i = .int .i64 k ∧ Hid (cmpRV l r = cmpRV (l.drop k) (r.drop k)) ∧ Touch [] w wr) (fun i _ => l.length - (intOf i).toNat)
  case atStart => exact ⟨0, by omega, by omega, rfl, Lib.hid rfl, Touch.refl _ _⟩
  case round =>
    obtain ⟨k, hka, hkb, rfl, Ho, ht⟩ := hrel
    by_cases h1 : k < l.length
    · obtain ⟨ad, b, off, rfl, hadd, c0, c1, c2⟩ := (h.touch0 ht).at_ k h1
      by_cases h2' : k < r.length
      · obtain ⟨bd, b2, off2, rfl, hadd2, d0, d1, d2⟩ := (h2.touch0 ht).at_ k h2'
        have hst := cmpRV_step h1 h2'
        obtain ⟨x, hx⟩ : ∃ x, x = l[k] := ⟨_, rfl⟩
        obtain ⟨y, hy⟩ : ∃ y, y = r[k] := ⟨_, rfl⟩
        rw [← hx, ← hy] at hst
        rw [← hx] at c0 c1 c2
        rw [← hy] at d0 d1 d2
        obtain ⟨k1, n1, s1⟩ := x
        obtain ⟨k2, n2, s2⟩ := y
        simp only at c0 c1 c2 d0 d1 d2
        have hcv := fun w' => cmpVal_any ⟨k1, n1, s1⟩ ⟨k2, n2, s2⟩ w'
        simp only [VD.val] at hcv
        obtain ⟨q, hq⟩ : ∃ q, q = cmpVV ⟨k1, n1, s1⟩ ⟨k2, n2, s2⟩ := ⟨_, rfl⟩
        rw [← hq] at hst hcv
        have Hcv := Lib.hid hcv
        have Hst := Lib.hid hst
        have ta := ((Touch.refl [] wr).alloc (.cells #[.int .i64 k1, .int .i64 n1, .string s1] 59))
        have e0 := ta.cell d0 (by simp)
        have e1 := ta.cell d1 (by simp)
        have e2 := ta.cell d2 (by simp)
        have hkI : (k : Int) < (r.length : Int) := by omega
        have h0I : (0 : Int) ≤ (k : Int) := by omega
        clear hst hcv hx hy hq d0 d1 d2 ta
        have tb := (ht.alloc (.cells #[.int .i64 k1, .int .i64 n1, .string s1] 59)).alloc (.cells #[.int .i64 k2, .int .i64 n2, .string s2] 59)
        by_cases h0 : q = 0
        · subst h0
          have Hq := Lib.hid (show cmpRV l r = cmpRV (l.drop (k + 1)) (r.drop (k + 1)) by rw [Ho.out, Hst.out, if_pos rfl])
          go_wp2_with fail
          refine (Hcv.out _).mono ?_
          rintro e w1 ⟨rfl, t1⟩
          go_wp2
          go_roundw
          case rel => exact ⟨k + 1, by omega, by omega, by go_num, Hq, tb.trans0 t1⟩
          case measure => simp [intOf]; omega
        · have Hq := Lib.hid (show cmpRV l r = q by rw [Ho.out, Hst.out, if_neg h0])
          have hq : (q == 0) = false := by rw [beq_eq_false_iff_ne]; exact h0
          have hq' : (q != 0) = true := by rw [bne, hq]; rfl
          go_wp2_with fail
          refine (Hcv.out _).mono ?_
          rintro e w1 ⟨rfl, t1⟩
          go_wp2
          go_ret
          exact ⟨ret_int Hq.out.symm, tb.trans0 t1⟩
      · have hE := cmpRV_end (l.drop k) (r.drop k) (.inr (List.drop_of_length_le (by omega)))
        rw [List.length_drop, List.length_drop] at hE
        have Hq := Lib.hid (show cmpRV l r = 1 by rw [Ho.out, hE, if_neg (by omega), if_pos (by omega)])
        obtain ⟨x, hx⟩ : ∃ x, x = l[k] := ⟨_, rfl⟩
        rw [← hx] at c0 c1 c2
        obtain rfl : k = r.length := by omega
        clear hE hx Ho
        go_wp2
        go_ret
        exact ⟨ret_int Hq.out.symm, ht.alloc _⟩
    · have hE := cmpRV_end (l.drop k) (r.drop k) (.inl (List.drop_of_length_le (by omega)))
      rw [List.length_drop, List.length_drop] at hE
      have HE := Lib.hid hE
      clear hE
      obtain rfl : k = l.length := by omega
      by_cases hq : l.length < r.length
      · have Hq := Lib.hid (show cmpRV l r = -1 by rw [Ho.out, HE.out, if_pos (by omega)])
        have hqI : (l.length : Int) < (r.length : Int) := by omega
        clear HE Ho
        go_wp2
        go_ret
        exact ⟨ret_int Hq.out.symm, ht⟩
      · have Hq := Lib.hid (show cmpRV l r = 0 by rw [Ho.out, HE.out, if_neg (by omega), if_neg (by omega)])
        have hqI : ¬ (l.length : Int) < (r.length : Int) := by omega
        clear HE Ho
        go_wp2
        go_ret
        exact ⟨ret_int Hq.out.symm, ht⟩

theorem cmpRows_any (A B : Option Addr) (c1 c2 n m : Nat) (l r : List VD) (hn : l.length = n) (hm : r.length = m) (w : World) (h : ValsAt w A l) (h2 : ValsAt w B r) (hl : n ≤ 140737000000000) (hl2 : m ≤ 140737000000000) :
    Calls Tryd.prog 47 #[.slice A n c1, .slice B m c2] w fun e w' => e = .returned (.int .i64 (cmpRV l r)) ∧ Touch [] w w' := by
  have hcf := compareFunc_any A B c1 c2 n m l r hn hm w h h2 hl hl2
  have Hcf := Lib.hid hcf
  clear hcf
  go_enter Tryd.func47, Tryd.ntmps47
  go_wp2_with fail
  refine Hcf.out.mono ?_
  rintro e w1 ⟨rfl, t1⟩
  go_wp2
  go_ret
  exact ⟨rfl, t1⟩
end Go.Proofs.YtgpadejkmpfafaaDoor

/- Rows of values that lie in memory; table.fit, table.Table.Check: for every schema and rows. -/
namespace Go.Proofs.YtgpadejkmpfafaaDoor
open Go.RowKit

/-- a slice's cell -/
structure SL where
  A : Option Addr
  n : Nat
  c : Nat
def slE (s : SL) : List Value := [.slice s.A s.n s.c]
theorem slE_length (s : SL) : (slE s).length = 1 := rfl
theorem slE_one (s : SL) : ∀ u ∈ slE s, u.oneCell' = true := by
  intro u hu
  simp only [slE, List.mem_cons, List.not_mem_nil, or_false] at hu
  subst hu; rfl
/-- slices that lead to these rows -/
def SlsAt (w : World) (sl : List SL) (rows : List (List VD)) : Prop := sl.length = rows.length ∧ ∀ i (h1 : i < sl.length) (h2 : i < rows.length), sl[i].n = rows[i].length ∧ ValsAt w sl[i].A rows[i]
def RowsAt (w : World) (B : Option Addr) (rows : List (List VD)) : Prop := ∃ sl, SlsAt w sl rows ∧ RdK slE w B sl
theorem RowsAt.touch0 {w w' : World} {B : Option Addr} {rows : List (List VD)} (h : RowsAt w B rows) (ht : Touch [] w w') : RowsAt w' B rows := by
  obtain ⟨sl, ⟨h1, h2⟩, h3⟩ := h
  exact ⟨sl, ⟨h1, fun i a b => ⟨(h2 i a b).1, ValsAt.touch0 (h2 i a b).2 ht⟩⟩, RdK.touch0 h3 ht⟩
theorem RowsAt.at_ {w : World} {B : Option Addr} {rows : List (List VD)} (h : RowsAt w B rows) (i : Nat) (hi : i < rows.length) : ∃ bd A c, B = some bd ∧ w.cell? (bd.add i) = some (.slice A rows[i].length c) ∧ ValsAt w A rows[i] := by
  obtain ⟨sl, ⟨h1, h2⟩, h3⟩ := h
  obtain ⟨ad, b, off, e1, e2, _, e3⟩ := RdK.at_ h3 1 slE_length (by omega) i (by omega)
  rw [Nat.mul_one] at e2
  have := h2 i (by omega) hi
  refine ⟨ad, sl[i].A, sl[i].c, e1, ?_, this.2⟩
  rw [e2, ← this.1]
  exact e3 0 _ rfl

/-- the first row that does not fit -/
def badR (cs : List CD) (rows : List (List VD)) : Option Nat := rows.findIdx? fun r => !fitR cs r
def fitV (cs : List CD) (rows : List (List VD)) : Int := if checkV cs = 0 then (if 4096 < rows.length then 31 else if rows.all (fitR cs) = true then 0 else 12) else checkV cs
/-- does every row stand behind the one ahead? -/
def sortedV (rows : List (List VD)) : Bool := (List.range (rows.length - 1)).all fun i => decide (0 ≤ cmpRV (rows.getD (i + 1) []) (rows.getD i []))
def checkT (cs : List CD) (rows : List (List VD)) : Int := if fitV cs rows = 0 then (if sortedV rows = true then 0 else 20) else fitV cs rows

set_option maxHeartbeats 800000 in
theorem fit1_any (B : Nat) (SA : Option Addr) (cap n : Nat) (cs : List CD) (hn : cs.length = n) (hok : ∀ c ∈ cs, c.Ok) (hc0 : checkV cs = 0) (A : Option Addr) (c m : Nat) (vs : List VD) (hm : vs.length = m) (hvk : ∀ v ∈ vs, v.Ok 140737000000000) (w : World)
    (hB : w.cell? ⟨B, 0, none⟩ = some (.slice SA n cap)) (h : ColsAt w SA cs) (hv : ValsAt w A vs) (hl : n ≤ 140737000000000) (hl2 : m ≤ 140737000000000) :
    Calls Tryd.prog 58 #[.slice A m c, .pointer (some ⟨B, 0, none⟩)] w fun e w' => e = .returned (.bool (!fitR cs vs)) ∧ Touch [] w w' := by
  have hf := fits_any SA cap n cs hn hok A c m vs hm hvk w h hv hl hl2
  rw [hc0] at hf
  have e : (decide ((0 : Int) = 0) && fitR cs vs) = fitR cs vs := by simp
  rw [e] at hf
  have Hf := Lib.hid hf
  clear hf e
  go_enter Tryd.func58, Tryd.ntmps58
  go_wp2_with fail
  refine Hf.out.mono ?_
  rintro e w1 ⟨rfl, t1⟩
  go_wp2
  go_ret
  exact ⟨rfl, t1⟩

theorem all_fit_no {cs : List CD} {rows : List (List VD)} {k : Nat} (h : k < rows.length) (hb : fitR cs rows[k] = false) : rows.all (fitR cs) = false := by
  rw [List.all_eq_false]
  exact ⟨_, List.getElem_mem h, by rw [hb]; simp⟩

set_option maxHeartbeats 1600000 in
theorem indexRows_any (B : Nat) (SA : Option Addr) (cap n : Nat) (cs : List CD) (hn : cs.length = n) (hok : ∀ c ∈ cs, c.Ok) (hc0 : checkV cs = 0) (A : Option Addr) (c m : Nat) (rows : List (List VD)) (hm : rows.length = m) (hvk : ∀ r ∈ rows, r.length ≤ 140737000000000 ∧ ∀ v ∈ r, v.Ok 140737000000000) (w : World)
    (hB : w.cell? ⟨B, 0, none⟩ = some (.slice SA n cap)) (h : ColsAt w SA cs) (hv : RowsAt w A rows) (hl : n ≤ 140737000000000) (hl2 : m ≤ 140737000000000) :
    Calls Tryd.prog 64 #[.slice A m c, .func (.func 58) #[] #[.pointer (some ⟨B, 0, none⟩)]] w fun e w' =>
      (∃ i : Int, e = .returned (.int .i64 i) ∧ -1 ≤ i ∧ i ≤ m ∧ (decide (0 ≤ i) = !rows.all (fitR cs))) ∧ Touch [] w w' := by
  subst hm
  go_enter Tryd.func64, Tryd.ntmps64
  go_wp2
  go_loopw [8] (fun i wr => ∃ k : Nat, k ≤ rows.length ∧ i = .int .i64 k ∧ Hid ((rows.take k).all (fitR cs) = true) ∧ Touch [] w wr) (fun i _ => rows.length - (intOf i).toNat)
  case atStart => exact ⟨0, by omega, rfl, Lib.hid rfl, Touch.refl _ _⟩
  case round =>
    obtain ⟨k, hk, rfl, Hall, ht⟩ := hrel
    by_cases hlt : k < rows.length
    · obtain ⟨bd, A1, c1, rfl, e0, hr⟩ := (hv.touch0 ht).at_ k hlt
      have hvk1 := hvk _ (List.getElem_mem hlt)
      have hno := all_fit_no (cs := cs) hlt
      have hyes := all_snoc (p := fitR cs) hlt Hall.out
      obtain ⟨r, hre⟩ : ∃ r, r = rows[k] := ⟨_, rfl⟩
      rw [← hre] at e0 hr hvk1 hno hyes
      have hf := fun w' (t : Touch [] wr w') => fit1_any B SA cap n cs hn hok hc0 A1 c1 r.length r rfl hvk1.2 w' ((ht.trans0 t).cell hB (by simp)) (h.touch0 (ht.trans0 t)) (hr.touch0 t) hl hvk1.1
      have Hno := Lib.hid hno; have Hyes := Lib.hid hyes
      have hkI : (k : Int) < (rows.length : Int) := by omega
      clear hno hyes hre hr Hall
      rcases hb : fitR cs r with _ | _
      · rw [hb] at hf
        have Hf := Lib.hid hf
        have Hs := Lib.hid (Hno.out hb)
        clear hf hb
        go_wp2_with fail
        refine (Hf.out _ (by first | exact Touch.refl _ _ | exact (Touch.refl _ _).drewN _)).mono ?_
        rintro e w1 ⟨rfl, t1⟩
        go_wp2
        go_ret
        exact ⟨⟨k, rfl, by omega, by omega, by rw [Hs.out]; simp⟩, ht.trans0 t1⟩
      · rw [hb] at hf
        have Hf := Lib.hid hf
        have Hs := Lib.hid (Hyes.out hb)
        clear hf hb
        go_wp2_with fail
        refine (Hf.out _ (by first | exact Touch.refl _ _ | exact (Touch.refl _ _).drewN _)).mono ?_
        rintro e w1 ⟨rfl, t1⟩
        go_wp2
        go_roundw
        case rel => exact ⟨k + 1, by omega, by go_num, Hs, ht.trans0 t1⟩
        case measure => simp [intOf]; omega
    · obtain rfl : k = rows.length := by omega
      have hall := Hall.out
      rw [List.take_length] at hall
      have Hs := Lib.hid hall
      go_wp2
      go_ret
      exact ⟨⟨-1, rfl, by omega, by omega, by rw [Hs.out]; rfl⟩, ht⟩
end Go.Proofs.YtgpadejkmpfafaaDoor

/- slices.ContainsFunc, table.fit, slices.IsSortedFunc, table.Table.Check: for every schema and rows. -/
namespace Go.Proofs.YtgpadejkmpfafaaDoor
open Go.RowKit

/-- rows that are within bounds -/
def RowsOk (rows : List (List VD)) : Prop := ∀ r ∈ rows, r.length ≤ 140737000000000 ∧ ∀ v ∈ r, v.Ok 140737000000000

set_option maxHeartbeats 800000 in
theorem contains_any (B : Nat) (SA : Option Addr) (cap n : Nat) (cs : List CD) (hn : cs.length = n) (hok : ∀ c ∈ cs, c.Ok) (hc0 : checkV cs = 0) (A : Option Addr) (c m : Nat) (rows : List (List VD)) (hm : rows.length = m) (hvk : RowsOk rows) (w : World)
    (hB : w.cell? ⟨B, 0, none⟩ = some (.slice SA n cap)) (h : ColsAt w SA cs) (hv : RowsAt w A rows) (hl : n ≤ 140737000000000) (hl2 : m ≤ 140737000000000) :
    Calls Tryd.prog 57 #[.slice A m c, .func (.func 58) #[] #[.pointer (some ⟨B, 0, none⟩)]] w fun e w' => e = .returned (.bool (!rows.all (fitR cs))) ∧ Touch [] w w' := by
  have hi := indexRows_any B SA cap n cs hn hok hc0 A c m rows hm hvk w hB h hv hl hl2
  have Hi := Lib.hid hi
  clear hi
  go_enter Tryd.func57, Tryd.ntmps57
  go_wp2_with fail
  refine Hi.out.mono ?_
  rintro e w1 ⟨⟨i, rfl, i1, i2, i3⟩, t1⟩
  have I3 := Lib.hid i3
  clear i3
  go_wp2
  go_ret
  exact ⟨ret_bool (by rw [← I3.out]), t1⟩

set_option maxRecDepth 20000 in
set_option maxHeartbeats 1600000 in
theorem fit_any (SA : Option Addr) (cap n : Nat) (cs : List CD) (hn : cs.length = n) (hok : ∀ c ∈ cs, c.Ok) (A : Option Addr) (c m : Nat) (rows : List (List VD)) (hm : rows.length = m) (hvk : RowsOk rows) (w : World)
    (h : ColsAt w SA cs) (hv : RowsAt w A rows) (hl : n ≤ 140737000000000) (hl2 : m ≤ 140737000000000) :
    Calls Tryd.prog 45 #[.slice SA n cap, .slice A m c] w fun e w' => e = .returned (.int .i64 (fitV cs rows)) ∧ Touch [] w w' := by
  have t0 := (Touch.refl [] w).alloc (.cells #[.slice SA n cap] 53)
  have hb0 := heap_alloc_new w (.cells #[.slice SA n cap] 53)
  have hck := check_any SA cap n cs hn hok _ (h.touch0 t0) (by omega)
  by_cases hc : checkV cs = 0
  · rw [hc] at hck
    have Hck := Lib.hid hck
    have Hcf := Lib.hid fun w' (t : Touch [] (w.alloc (.cells #[.slice SA n cap] 53)) w') => contains_any w.heap.size SA cap n cs hn hok hc A c m rows hm hvk w' (t.cell (cell_blk hb0 (i := 0) rfl) (by simp)) (h.touch0 (t0.trans0 t)) (hv.touch0 (t0.trans0 t)) hl hl2
    have Hfv := Lib.hid (show fitV cs rows = if 4096 < rows.length then 31 else if rows.all (fitR cs) = true then 0 else 12 by unfold fitV; rw [if_pos hc])
    have Hm := Lib.hid hm
    clear hck hc hm hvk hok
    by_cases h4 : 4096 < m
    · have Hq := Lib.hid (show fitV cs rows = 31 by rw [Hfv.out, Hm.out, if_pos h4])
      go_enter Tryd.func45, Tryd.ntmps45
      go_wp2_with fail
      refine Hck.out.mono ?_
      rintro e w1 ⟨rfl, t1⟩
      go_wp2
      go_ret
      exact ⟨ret_int Hq.out.symm, t0.trans0 t1⟩
    · rcases ha : rows.all (fitR cs) with _ | _
      · have Hq := Lib.hid (show fitV cs rows = 12 by rw [Hfv.out, Hm.out, if_neg h4, ha]; rfl)
        rw [ha] at Hcf
        clear ha
        go_enter Tryd.func45, Tryd.ntmps45
        go_wp2_with fail
        refine Hck.out.mono ?_
        rintro e w1 ⟨rfl, t1⟩
        go_wp2_with fail
        refine (Hcf.out _ t1).mono ?_
        rintro e w2 ⟨rfl, t2⟩
        go_wp2
        go_ret
        exact ⟨ret_int Hq.out.symm, (t0.trans0 t1).trans0 t2⟩
      · have Hq := Lib.hid (show fitV cs rows = 0 by rw [Hfv.out, Hm.out, if_neg h4, ha]; rfl)
        rw [ha] at Hcf
        clear ha
        go_enter Tryd.func45, Tryd.ntmps45
        go_wp2_with fail
        refine Hck.out.mono ?_
        rintro e w1 ⟨rfl, t1⟩
        go_wp2_with fail
        refine (Hcf.out _ t1).mono ?_
        rintro e w2 ⟨rfl, t2⟩
        go_wp2
        go_ret
        exact ⟨ret_int Hq.out.symm, (t0.trans0 t1).trans0 t2⟩
  · have Hck := Lib.hid hck
    have hfv : fitV cs rows = checkV cs := by unfold fitV; rw [if_neg hc]
    rw [hfv]
    obtain ⟨k, hk⟩ : ∃ k, k = checkV cs := ⟨_, rfl⟩
    rw [← hk]
    rw [← hk] at Hck hc
    have hq : (k == 0) = false := by rw [beq_eq_false_iff_ne]; exact hc
    have hq' : (k != 0) = true := by rw [bne, hq]; rfl
    clear hck hfv hk
    go_enter Tryd.func45, Tryd.ntmps45
    go_wp2_with fail
    refine Hck.out.mono ?_
    rintro e w1 ⟨rfl, t1⟩
    go_wp2
    go_ret
    exact ⟨rfl, t0.trans0 t1⟩

theorem fitV_cases (cs : List CD) (rows : List (List VD)) : fitV cs rows = 0 ∨ fitV cs rows ≠ 0 := by omega

theorem sorted_no {rows : List (List VD)} {p : Nat} (h : p + 1 < rows.length) (hb : cmpRV (rows[p + 1]) (rows[p]) < 0) : sortedV rows = false := by
  unfold sortedV
  rw [List.all_eq_false]
  refine ⟨p, List.mem_range.2 (by omega), ?_⟩
  rw [List.getD_eq_getElem?_getD, List.getD_eq_getElem?_getD, List.getElem?_eq_getElem h, List.getElem?_eq_getElem (by omega : p < rows.length)]
  simpa using hb
theorem sorted_yes {rows : List (List VD)} (h : ∀ p (hp : p + 1 < rows.length), 0 ≤ cmpRV (rows[p + 1]) (rows[p])) : sortedV rows = true := by
  unfold sortedV
  rw [List.all_eq_true]
  intro p hp
  have hp' : p + 1 < rows.length := by have := List.mem_range.1 hp; omega
  rw [List.getD_eq_getElem?_getD, List.getD_eq_getElem?_getD, List.getElem?_eq_getElem hp', List.getElem?_eq_getElem (by omega : p < rows.length)]
  simpa using h p hp'

set_option maxRecDepth 20000 in
set_option maxHeartbeats 1600000 in
theorem isSorted_any (A : Option Addr) (c m : Nat) (rows : List (List VD)) (hm : rows.length = m) (hvk : RowsOk rows) (w : World) (hv : RowsAt w A rows) (hl2 : m ≤ 140737000000000) :
    Calls Tryd.prog 46 #[.slice A m c, .func (.func 47) #[] #[]] w fun e w' => e = .returned (.bool (sortedV rows)) ∧ Touch [] w w' := by
  subst hm
  have hn1 : IntKind.i64.wrap ((rows.length : Int) - 1) = (rows.length : Int) - 1 := IntWalk.i64_in _ (by omega)
  go_enter Tryd.func46, Tryd.ntmps46
  go_wp2
  clear hn1
  go_loopw [5] (fun i wr => ∃ j : Nat, j ≤ rows.length ∧ i = .int .i64 ((j : Int) - 1) ∧ Hid (∀ p (hp : p + 1 < rows.length), j ≤ p + 1 → 0 ≤ cmpRV (rows[p + 1]) (rows[p])) ∧ Touch [] w wr) (fun i _ => (intOf i + 1).toNat)
  case atStart => exact ⟨rows.length, Nat.le_refl _, rfl, Lib.hid (fun p hp h => by omega), Touch.refl _ _⟩
  case round =>
    obtain ⟨j, hj, rfl, Hs, ht⟩ := hrel
    by_cases h2 : 2 ≤ j
    · obtain ⟨p, rfl⟩ : ∃ p, j = p + 2 := ⟨j - 2, by omega⟩
      have hp1 : p + 1 < rows.length := by omega
      have hp0 : p < rows.length := by omega
      obtain ⟨bd, A1, c1, rfl, e1, hr1⟩ := (hv.touch0 ht).at_ (p + 1) hp1
      obtain ⟨bd2, A2, c2, hbd, e2, hr2⟩ := (hv.touch0 ht).at_ p hp0
      obtain rfl : bd = bd2 := by injection hbd
      have hv1 := hvk _ (List.getElem_mem hp1)
      have hv2 := hvk _ (List.getElem_mem hp0)
      have hno := fun h => sorted_no (rows := rows) hp1 h
      obtain ⟨r1, hr1e⟩ : ∃ r, r = rows[p + 1] := ⟨_, rfl⟩
      obtain ⟨r2, hr2e⟩ : ∃ r, r = rows[p] := ⟨_, rfl⟩
      rw [← hr1e] at e1 hr1 hv1 hno
      rw [← hr2e] at e2 hr2 hv2 hno
      have hcv := fun w' (t : Touch [] wr w') => cmpRows_any A1 A2 c1 c2 r1.length r2.length r1 r2 rfl rfl w' (hr1.touch0 t) (hr2.touch0 t) hv1.1 hv2.1
      have hcb := cmpRV_b r1 r2
      obtain ⟨x, hx⟩ : ∃ x, x = cmpRV r1 r2 := ⟨_, rfl⟩
      rw [← hx] at hcv hno hcb
      have Hcv := Lib.hid hcv
      have Hno := Lib.hid hno
      have Hx := Lib.hid hx
      have Hr1 := Lib.hid hr1e; have Hr2 := Lib.hid hr2e
      obtain ⟨q, hq⟩ : ∃ q, q = p + 1 := ⟨_, rfl⟩
      have hi : (((p + 2 : Nat) : Int) - 1) = (q : Int) := by omega
      rw [hi]
      rw [← hq] at e1
      have hw : IntKind.i64.wrap ((q : Int) - 1) = (p : Int) := by rw [IntWalk.i64_in _ (by omega)]; omega
      have hq0 : (0 : Int) < (q : Int) := by omega
      have hq00 : (0 : Int) ≤ (q : Int) := by omega
      have hqn : (q : Int) < (rows.length : Int) := by omega
      have hpp : (0 : Int) ≤ (p : Int) := by omega
      have hpn : (p : Int) < (rows.length : Int) := by omega
      have g1 := TW.cell e1
      have g2 := TW.cell e2
      have Hq := Lib.hid hq
      clear hcv hno hx hr1e hr2e hi hq e1 e2 hr1 hr2 hv1 hv2 hbd
      by_cases hx0 : x < 0
      · have Hf := Lib.hid (Hno.out hx0)
        go_wp2
        refine wp_region_tw wr (Touch.refl _ _) (by kernel_rfl) (by kernel_rfl) ?_
        repeat (go_big_quiet_step (((go_at_call 47; exact Calls.tw _ (Hcv.out _ (TW.t _))))))
        refine wpQuiet_nil ?_
        rintro _ ⟨x2, rfl⟩
        go_wp2
        go_ret
        exact ⟨ret_bool (by rw [Hf.out]), ht.trans0 x2.t⟩
      · have Hg := Lib.hid (show ∀ p' (hp : p' + 1 < rows.length), q ≤ p' + 1 → 0 ≤ cmpRV (rows[p' + 1]) (rows[p']) from fun p' hp h => by
          by_cases he : p + 2 ≤ p' + 1
          · exact Hs.out p' hp he
          · obtain rfl : p' = p := by have := Hq.out; omega
            rw [← Hr1.out, ← Hr2.out, ← Hx.out]; omega)
        go_wp2
        refine wp_region_tw wr (Touch.refl _ _) (by kernel_rfl) (by kernel_rfl) ?_
        repeat (go_big_quiet_step (((go_at_call 47; exact Calls.tw _ (Hcv.out _ (TW.t _))))))
        refine wpQuiet_nil ?_
        rintro _ ⟨x2, rfl⟩
        go_wp2
        go_roundw
        case rel => exact ⟨q, by omega, by have := Hq.out; first | omega | (congr 1; omega), Hg, ht.trans0 x2.t⟩
        case measure => simp [intOf]; have := Hq.out; omega
    · have Hf := Lib.hid (show sortedV rows = true from sorted_yes fun p hp => Hs.out p hp (by omega))
      have hle : ¬ (0 : Int) < (j : Int) - 1 := by omega
      go_wp2
      go_ret
      exact ⟨ret_bool (by rw [Hf.out]), ht⟩

set_option maxRecDepth 20000 in
set_option maxHeartbeats 1600000 in
theorem checkT_any (SA : Option Addr) (cap n : Nat) (cs : List CD) (hn : cs.length = n) (hok : ∀ c ∈ cs, c.Ok) (A : Option Addr) (c m : Nat) (rows : List (List VD)) (hm : rows.length = m) (hvk : RowsOk rows) (w : World)
    (h : ColsAt w SA cs) (hv : RowsAt w A rows) (hl : n ≤ 140737000000000) (hl2 : m ≤ 140737000000000) :
    Calls Tryd.prog 30 #[.agg #[.slice SA n cap, .slice A m c]] w fun e w' => e = .returned (.int .i64 (checkT cs rows)) ∧ Touch [] w w' := by
  have t0 := (Touch.refl [] w).alloc (.cells #[.slice SA n cap, .slice A m c] 56)
  have hb0 := heap_alloc_new w (.cells #[.slice SA n cap, .slice A m c] 56)
  have Hf := Lib.hid (fit_any SA cap n cs hn hok A c m rows hm hvk _ (h.touch0 t0) (hv.touch0 t0) hl hl2)
  have Hs := Lib.hid fun w' (t : Touch [] w w') => isSorted_any A c m rows hm hvk w' (hv.touch0 t) hl2
  have Hct := Lib.hid (show checkT cs rows = if fitV cs rows = 0 then (if sortedV rows = true then 0 else 20) else fitV cs rows from rfl)
  obtain ⟨k, hk⟩ : ∃ k, k = fitV cs rows := ⟨_, rfl⟩
  rw [← hk] at Hf Hct
  have Hb0 := Lib.hid hb0
  clear hb0 hk
  by_cases h0 : k = 0
  · subst h0
    obtain ⟨b, hb⟩ : ∃ b, b = sortedV rows := ⟨_, rfl⟩
    rw [← hb] at Hs Hct
    clear hb
    cases b
    · have Hq := Lib.hid (show checkT cs rows = 20 from Hct.out)
      go_enter Tryd.func30, Tryd.ntmps30
      go_wp2_with fail
      refine Hf.out.mono ?_
      rintro e w1 ⟨rfl, t1⟩
      have e1 := t1.cell (cell_blk Hb0.out (i := 1) rfl) (by simp)
      go_wp2_with fail
      refine (Hs.out _ (t0.trans0 t1)).mono ?_
      rintro e w2 ⟨rfl, t2⟩
      go_wp2
      go_ret
      exact ⟨ret_int Hq.out.symm, (t0.trans0 t1).trans0 t2⟩
    · have Hq := Lib.hid (show checkT cs rows = 0 from Hct.out)
      go_enter Tryd.func30, Tryd.ntmps30
      go_wp2_with fail
      refine Hf.out.mono ?_
      rintro e w1 ⟨rfl, t1⟩
      have e1 := t1.cell (cell_blk Hb0.out (i := 1) rfl) (by simp)
      go_wp2_with fail
      refine (Hs.out _ (t0.trans0 t1)).mono ?_
      rintro e w2 ⟨rfl, t2⟩
      go_wp2
      go_ret
      exact ⟨ret_int Hq.out.symm, (t0.trans0 t1).trans0 t2⟩
  · have Hq := Lib.hid (show checkT cs rows = k by rw [Hct.out, if_neg h0])
    have hq : (k == 0) = false := by rw [beq_eq_false_iff_ne]; exact h0
    have hq' : (k != 0) = true := by rw [bne, hq]; rfl
    go_enter Tryd.func30, Tryd.ntmps30
    go_wp2_with fail
    refine Hf.out.mono ?_
    rintro e w1 ⟨rfl, t1⟩
    go_wp2
    go_ret
    exact ⟨ret_int Hq.out.symm, t0.trans0 t1⟩
end Go.Proofs.YtgpadejkmpfafaaDoor

/- frame.In's methods on an In that is right or bad: what comes out, in one contract each. For every In. -/
namespace Go.Proofs.YtgpadejkmpfafaaDoor
open Go.RowKit

/-- what a reading comes to: bad behind it, or read -/
def RX {α : Type} (r : Option (α × List UInt8)) (bad : Bool) (x : α) (l' : List UInt8) (bad' : Bool) : Prop :=
  (bad' = true ∧ (bad = true ∨ r = none)) ∨ (bad = false ∧ bad' = false ∧ r = some (x, l'))

theorem inText_x (g : Nat) (A : Option Addr) (l : List UInt8) (bad : Bool) (w : World) (hi : InAt w g A l bad) :
    Calls Tryd.prog 19 #[.pointer (some ⟨g, 0, none⟩)] w fun e w' => ∃ s l' bad', e = .returned (.string (S s)) ∧ InPost g A l' bad' w w' ∧ RX (rdT l) bad s l' bad' := by
  cases bad
  · refine (inText_ok g A l w hi).mono fun e w' h => ?_
    unfold TextPost at h
    rcases hr : rdT l with _ | ⟨s, l1⟩
    · rw [hr] at h
      obtain ⟨rfl, l', hp⟩ := h
      exact ⟨[], l', true, rfl, hp, .inl ⟨rfl, .inr rfl⟩⟩
    · rw [hr] at h
      exact ⟨s, l1, false, h.1, h.2, .inr ⟨rfl, rfl, rfl⟩⟩
  · exact (inText_bad g A l w hi).mono fun e w' h => ⟨[], l, true, h.1, h.2, .inl ⟨rfl, .inl rfl⟩⟩
theorem inInt_x (g : Nat) (A : Option Addr) (l : List UInt8) (bad : Bool) (w : World) (hi : InAt w g A l bad) :
    Calls Tryd.prog 18 #[.pointer (some ⟨g, 0, none⟩)] w fun e w' => ∃ n l' bad', e = .returned (.int .i64 n) ∧ InPost g A l' bad' w w' ∧ RX (rdI l) bad n l' bad' ∧ -9223372036854775808 ≤ n ∧ n ≤ 9223372036854775807 := by
  cases bad
  · refine (inInt_ok g A l w hi).mono fun e w' h => ?_
    unfold IntPost at h
    rcases hr : rdI l with _ | ⟨s, l1⟩
    · rw [hr] at h
      obtain ⟨rfl, l', hp⟩ := h
      exact ⟨0, l', true, rfl, hp, .inl ⟨rfl, .inr rfl⟩, by omega, by omega⟩
    · have hb := rdI_bounds hr
      rw [hr] at h
      exact ⟨s, l1, false, h.1, h.2, .inr ⟨rfl, rfl, rfl⟩, hb.1, hb.2⟩
  · exact (inInt_bad g A l w hi).mono fun e w' h => ⟨0, l, true, h.1, h.2, .inl ⟨rfl, .inl rfl⟩, by omega, by omega⟩
theorem rdC_le {most : Int} {l l1 : List UInt8} {n : Int} (h : rdC most l = some (n, l1)) : 0 ≤ n ∧ n ≤ most ∧ l1.length ≤ l.length := by
  unfold rdC at h
  rcases hr : rdI l with _ | ⟨k, l'⟩
  · rw [hr] at h; cases h
  · have := rdI_len hr
    rw [hr] at h
    dsimp only at h
    split at h
    · cases h
    · cases h
      omega
theorem inCount_x (g : Nat) (A : Option Addr) (l : List UInt8) (bad : Bool) (most : Int) (hm : 0 ≤ most) (w : World) (hi : InAt w g A l bad) :
    Calls Tryd.prog 23 #[.pointer (some ⟨g, 0, none⟩), .int .i64 most] w fun e w' => ∃ n l' bad', e = .returned (.int .i64 n) ∧ InPost g A l' bad' w w' ∧ RX (rdC most l) bad n l' bad' ∧ 0 ≤ n ∧ n ≤ most := by
  cases bad
  · refine (inCount_ok g A l most w hi).mono fun e w' h => ?_
    unfold CountPost at h
    rcases hr : rdC most l with _ | ⟨s, l1⟩
    · rw [hr] at h
      obtain ⟨rfl, l', hp⟩ := h
      exact ⟨0, l', true, rfl, hp, .inl ⟨rfl, .inr rfl⟩, by omega, hm⟩
    · have hb := rdC_le hr
      rw [hr] at h
      exact ⟨s, l1, false, h.1, h.2, .inr ⟨rfl, rfl, rfl⟩, hb.1, hb.2.1⟩
  · exact (inCount_bad g A l most w hi).mono fun e w' h => ⟨0, l, true, h.1, h.2, .inl ⟨rfl, .inl rfl⟩, by omega, hm⟩
theorem rdV_ok {l l1 : List UInt8} {v : VD} (h : rdV l = some (v, l1)) (hl : l.length ≤ 140737000000000) : v.Ok 140737000000000 ∧ l1.length ≤ l.length := by
  unfold rdV at h
  rcases hr : rdI l with _ | ⟨k, l'⟩
  · rw [hr] at h; cases h
  · have h1 := rdI_len hr
    rw [hr] at h
    dsimp only at h
    split at h
    · cases h
      exact ⟨⟨by simp [zeroVD], by simp [zeroVD], Nat.zero_le 140737000000000⟩, h1⟩
    · split at h
      · rcases hr2 : rdI l' with _ | ⟨n, l2⟩
        · rw [hr2] at h; cases h
        · have h2 := rdI_len hr2
          have hb := rdI_bounds hr2
          rw [hr2] at h
          cases h
          exact ⟨⟨by simp, hb, Nat.zero_le _⟩, by omega⟩
      · split at h
        · rcases hr2 : rdT l' with _ | ⟨s, l2⟩
          · rw [hr2] at h; cases h
          · have h2 := rdT_len hr2
            rw [hr2] at h
            dsimp only at h
            split at h
            · cases h
              exact ⟨⟨by simp, by simp, by rw [S_size]; omega⟩, by omega⟩
            · cases h
        · cases h
theorem inValue_x (g : Nat) (A : Option Addr) (l : List UInt8) (bad : Bool) (w : World) (hi : InAt w g A l bad) (hA : ∀ b ∈ fpo A, b < w.heap.size) (hsm : bad = false → l.length ≤ 140737000000000) :
    Calls Tryd.prog 29 #[.pointer (some ⟨g, 0, none⟩)] w fun e w' => ∃ v l' bad', e = .returned v.val ∧ InPost g A l' bad' w w' ∧ RX (rdV l) bad v l' bad' := by
  cases bad
  · refine (inValue_ok g A l w hi hA (hsm rfl)).mono fun e w' h => ?_
    unfold ValuePost at h
    rcases hr : rdV l with _ | ⟨s, l1⟩
    · rw [hr] at h
      obtain ⟨rfl, l', hp⟩ := h
      exact ⟨zeroVD, l', true, rfl, hp, .inl ⟨rfl, .inr rfl⟩⟩
    · rw [hr] at h
      exact ⟨s, l1, false, h.1, h.2, .inr ⟨rfl, rfl, rfl⟩⟩
  · exact (inValue_bad g A l w hi).mono fun e w' h => ⟨zeroVD, l, true, h.1, h.2, .inl ⟨rfl, .inl rfl⟩⟩

/-- so many columns; values of a row; rows -/
def rdCs : Nat → List UInt8 → Option (List CD × List UInt8)
  | 0, l => some ([], l)
  | k + 1, l => match rdCs k l with
    | none => none
    | some (cs, m) => match rdT m with
      | none => none
      | some (s, m1) => match rdI m1 with
        | none => none
        | some (t, m2) => some (cs ++ [⟨S s, t⟩], m2)
def rdVs : Nat → List UInt8 → Option (List VD × List UInt8)
  | 0, l => some ([], l)
  | k + 1, l => match rdVs k l with
    | none => none
    | some (vs, m) => match rdV m with
      | none => none
      | some (v, m1) => some (vs ++ [v], m1)
def rdRs (n : Nat) : Nat → List UInt8 → Option (List (List VD) × List UInt8)
  | 0, l => some ([], l)
  | k + 1, l => match rdRs n k l with
    | none => none
    | some (rows, m) => match rdVs n m with
      | none => none
      | some (r, m1) => some (rows ++ [r], m1)
def rdTab (l : List UInt8) : Option ((List CD × List (List VD)) × List UInt8) :=
  match rdC 16 l with
  | none => none
  | some (n, l1) => match rdCs n.toNat l1 with
    | none => none
    | some (cs, l2) => match rdC 4096 l2 with
      | none => none
      | some (m, l3) => match rdRs n.toNat m.toNat l3 with
        | none => none
        | some (rows, l4) => if checkT cs rows = 0 then some ((cs, rows), l4) else none
theorem rdCs_ok {k : Nat} {l m : List UInt8} {cs : List CD} (h : rdCs k l = some (cs, m)) (hl : l.length ≤ 140737000000000) : cs.length = k ∧ (∀ c ∈ cs, c.Ok) ∧ m.length ≤ l.length := by
  induction k generalizing cs m with
  | zero => cases h; exact ⟨rfl, by simp, Nat.le_refl _⟩
  | succ k ih =>
    unfold rdCs at h
    rcases h1 : rdCs k l with _ | ⟨cs1, m1⟩
    · rw [h1] at h; cases h
    · obtain ⟨i1, i2, i3⟩ := ih h1
      rw [h1] at h
      dsimp only at h
      rcases h2 : rdT m1 with _ | ⟨s, m2⟩
      · rw [h2] at h; cases h
      · have e2 := rdT_len h2
        rw [h2] at h
        dsimp only at h
        rcases h3 : rdI m2 with _ | ⟨t, m3⟩
        · rw [h3] at h; cases h
        · have e3 := rdI_len h3
          have e4 := rdI_bounds h3
          rw [h3] at h
          cases h
          refine ⟨by rw [List.length_append, i1]; rfl, fun c hc => ?_, by omega⟩
          rcases List.mem_append.1 hc with q | q
          · exact i2 c q
          · simp only [List.mem_singleton] at q
            subst q
            exact ⟨by rw [S_size]; omega, e4⟩
theorem rdVs_ok {k : Nat} {l m : List UInt8} {vs : List VD} (h : rdVs k l = some (vs, m)) (hl : l.length ≤ 140737000000000) : vs.length = k ∧ (∀ c ∈ vs, c.Ok 140737000000000) ∧ m.length ≤ l.length := by
  induction k generalizing vs m with
  | zero => cases h; exact ⟨rfl, by simp, Nat.le_refl _⟩
  | succ k ih =>
    unfold rdVs at h
    rcases h1 : rdVs k l with _ | ⟨cs1, m1⟩
    · rw [h1] at h; cases h
    · obtain ⟨i1, i2, i3⟩ := ih h1
      rw [h1] at h
      dsimp only at h
      rcases h2 : rdV m1 with _ | ⟨s, m2⟩
      · rw [h2] at h; cases h
      · have e2 := rdV_ok h2 (by omega)
        rw [h2] at h
        cases h
        refine ⟨by rw [List.length_append, i1]; rfl, fun c hc => ?_, by omega⟩
        rcases List.mem_append.1 hc with q | q
        · exact i2 c q
        · simp only [List.mem_singleton] at q
          subst q
          exact e2.1
theorem rdRs_ok {n k : Nat} {l m : List UInt8} {rows : List (List VD)} (h : rdRs n k l = some (rows, m)) (hl : l.length ≤ 140737000000000) (hn : n ≤ 140737000000000) : rows.length = k ∧ RowsOk rows ∧ m.length ≤ l.length := by
  induction k generalizing rows m with
  | zero => cases h; exact ⟨rfl, fun r hr => by simp at hr, Nat.le_refl _⟩
  | succ k ih =>
    unfold rdRs at h
    rcases h1 : rdRs n k l with _ | ⟨cs1, m1⟩
    · rw [h1] at h; cases h
    · obtain ⟨i1, i2, i3⟩ := ih h1
      rw [h1] at h
      dsimp only at h
      rcases h2 : rdVs n m1 with _ | ⟨s, m2⟩
      · rw [h2] at h; cases h
      · have e2 := rdVs_ok h2 (by omega)
        rw [h2] at h
        cases h
        refine ⟨by rw [List.length_append, i1]; rfl, fun c hc => ?_, by omega⟩
        rcases List.mem_append.1 hc with q | q
        · exact i2 c q
        · simp only [List.mem_singleton] at q
          subst q
          exact ⟨by omega, e2.2.1⟩
end Go.Proofs.YtgpadejkmpfafaaDoor

/- Rows of values of the calls' own, in a slice of slices: how one more row comes to them. No program's function. -/
namespace Go.Proofs.YtgpadejkmpfafaaDoor
open Go.RowKit

/-- slices of the calls' own that lead to rows -/
def OwnR (t : TypeId) (base : Nat) (w : World) (B : Option Addr) (c : Nat) (rows : List (List VD)) : Prop :=
  ∃ sl, SlsAt w sl rows ∧ OwnK t 1 slE w B c sl ∧ ∀ s ∈ sl, ∀ b ∈ fpo s.A, b ∉ fpo B ∧ b < w.heap.size ∧ base ≤ b
theorem OwnR.nil (t : TypeId) (base : Nat) (w : World) : OwnR t base w none 0 [] := ⟨[], ⟨rfl, fun i h => absurd h (by simp)⟩, OwnK.nil _ _ _ _, by simp⟩
theorem OwnR.rowsAt {t base : Nat} {w : World} {B : Option Addr} {c : Nat} {rows : List (List VD)} (h : OwnR t base w B c rows) : RowsAt w B rows := by
  obtain ⟨sl, h1, h2, _⟩ := h
  exact ⟨sl, h1, h2.rd⟩
theorem OwnR.lt {t base : Nat} {w : World} {B : Option Addr} {c : Nat} {rows : List (List VD)} (h : OwnR t base w B c rows) : ∀ b ∈ fpo B, b < w.heap.size := by
  obtain ⟨sl, h1, h2, _⟩ := h
  exact h2.lt
theorem SlsAt.touch {w w' : World} {sl : List SL} {rows : List (List VD)} {fp : List Nat} (h : SlsAt w sl rows) (ht : Touch fp w w') (hn : ∀ s ∈ sl, ∀ b ∈ fpo s.A, b ∉ fp) : SlsAt w' sl rows :=
  ⟨h.1, fun i a b => ⟨(h.2 i a b).1, RdK.touch (h.2 i a b).2 ht (hn _ (List.getElem_mem a))⟩⟩
theorem OwnR.touch {t base : Nat} {w w' : World} {B : Option Addr} {c : Nat} {rows : List (List VD)} {fp : List Nat} (h : OwnR t base w B c rows) (ht : Touch fp w w') (hfp : ∀ b ∈ fp, b < base) (hB : ∀ b ∈ fpo B, base ≤ b) : OwnR t base w' B c rows := by
  obtain ⟨sl, h1, h2, h3⟩ := h
  exact ⟨sl, h1.touch ht (fun s hs b hb hm => by have := hfp b hm; have := (h3 s hs b hb).2.2; omega), h2.touch ht (fun b hb hm => by have := hfp b hm; have := hB b hb; omega), fun s hs b hb => ⟨(h3 s hs b hb).1, Nat.lt_of_lt_of_le (h3 s hs b hb).2.1 ht.size, (h3 s hs b hb).2.2⟩⟩
theorem OwnR.touch0 {t base : Nat} {w w' : World} {B : Option Addr} {c : Nat} {rows : List (List VD)} (h : OwnR t base w B c rows) (ht : Touch [] w w') : OwnR t base w' B c rows := by
  obtain ⟨sl, h1, h2, h3⟩ := h
  exact ⟨sl, h1.touch ht (fun _ _ _ _ => by simp), h2.touch0 ht, fun s hs b hb => ⟨(h3 s hs b hb).1, Nat.lt_of_lt_of_le (h3 s hs b hb).2.1 ht.size, (h3 s hs b hb).2.2⟩⟩

/-- append of one more row -/
theorem wpList_appR {w : World} {ops : Array Oper} {rest : List Oper} {o : Oper} {a : Act} {Q : Exit → Act → World → Prop} (hgd : o.guard = none) (s x : Operand) (t : TypeId)
    (ho : o.op = .call { callee := .builtin .append, args := #[s, x], argTypes := #[t, t] })
    (e : TypeId) (hinfo : (Tryd.prog.info? e).map (fun i => (i.zero, i.size, i.bytes)) = some (some (.slice none 0 0), 1, 24)) (ht : Tryd.prog.underlying t = some (.slice e))
    (base : Nat) (B : Option Addr) (m c : Nat) (rows : List (List VD)) (hm : rows.length = m) (hs : a.eval s = .slice B m c) (hown : OwnR e base w B c rows)
    (A : Option Addr) (ca : Nat) (r : List VD) (hr : ValsAt w A r) (hA : ∀ b ∈ fpo A, b ∉ fpo B ∧ b < w.heap.size ∧ base ≤ b)
    (g : Nat) (hx : a.eval x = .slice (some ⟨w.heap.size, 0, none⟩) 1 g) (h63 : m + 1 ≤ 1000000000) {cs : Array Value} (hcs : cs.toList = [.slice A r.length ca])
    (h : ∀ B' c' w', OwnR e base w' B' c' (rows ++ [r]) → Touch (fpo B) (w.alloc (.cells cs e)) w' → (∀ b ∈ fpo B', b ∈ fpo B ∨ b = w.heap.size + 1) → wpList Tryd.prog ops Q rest (a.put o.dst (.slice B' (m + 1) c')) w') :
    wpList Tryd.prog ops Q (o :: rest) a (w.alloc (.cells cs e)) := by
  obtain ⟨sl, h1, h2, h3⟩ := hown
  have ta := (Touch.refl [] w).alloc (.cells cs e)
  refine wpList_appK (enc := slE) hgd s x t ho e (.slice none 0 0) 1 24 hinfo ht rfl (by omega) slE_length slE_one B m c sl (by rw [h1.1, hm]) hs (h2.touch0 ta)
    (some ⟨w.heap.size, 0, none⟩) 1 g [⟨A, r.length, ca⟩] rfl hx (RdK.one (enc := slE) w e ⟨A, r.length, ca⟩ cs hcs) h63 (by omega) ?_
  intro B' c' w' hown' t' hf'
  rw [World.size_alloc] at hf'
  have hw := ta.size
  refine h B' c' w' ⟨sl ++ [⟨A, r.length, ca⟩], ⟨by rw [List.length_append, List.length_append, h1.1]; rfl, fun i a1 b1 => ?_⟩, hown', fun s' hs' b hb => ?_⟩ t' hf'
  · by_cases hi : i < sl.length
    · have hi2 : i < rows.length := by rw [← h1.1]; exact hi
      rw [List.getElem_append_left hi, List.getElem_append_left hi2]
      have := h1.2 i hi hi2
      exact ⟨this.1, RdK.touch (RdK.touch0 this.2 ta) t' (fun b hb => (h3 _ (List.getElem_mem hi) b hb).1)⟩
    · have hi' : i = sl.length := by rw [List.length_append] at a1; simp at a1; omega
      subst hi'
      have e1 : (sl ++ [(⟨A, r.length, ca⟩ : SL)])[sl.length] = ⟨A, r.length, ca⟩ := by rw [List.getElem_append_right (Nat.le_refl _)]; simp
      have e2 : (rows ++ [r])[sl.length] = r := by rw [List.getElem_append_right (by rw [h1.1]; exact Nat.le_refl _)]; simp [h1.1]
      rw [e1, e2]
      exact ⟨rfl, RdK.touch (RdK.touch0 hr ta) t' (fun b hb => (hA b hb).1)⟩
  · have key : b ∉ fpo B ∧ b < w.heap.size ∧ base ≤ b := by
      rcases List.mem_append.1 hs' with q | q
      · exact h3 s' q b hb
      · simp only [List.mem_singleton] at q
        subst q
        exact hA b hb
    refine ⟨fun hm' => ?_, Nat.lt_of_lt_of_le key.2.1 (Nat.le_trans hw t'.size), key.2.2⟩
    rcases hf' b hm' with q | q
    · exact key.1 q
    · have := key.2.1; omega
end Go.Proofs.YtgpadejkmpfafaaDoor

/- frame.In.Table: a table is read. For every In. (Under way.) -/
namespace Go.Proofs.YtgpadejkmpfafaaDoor
open Go.RowKit

theorem info_col' : (Tryd.prog.info? 83).map (fun i => (i.zero, i.size, i.bytes)) = some (some (.agg #[.string ⟨#[]⟩, .int .i64 0]), 2, 24) := by kernel_rfl
theorem blk2 {w : World} {R : Nat} {a b : Value} {t : TypeId} (h : w.heap[R]? = some (.cells #[a, b] t (0, 0))) : w.cell? ⟨R, 0, none⟩ = some a ∧ w.cell? ⟨R, 1, none⟩ = some b ∧ w.frozen? ⟨R, 0, none⟩ = false ∧ w.frozen? ⟨R, 1, none⟩ = false ∧ R < w.heap.size :=
  ⟨cell_blk h rfl, cell_blk h rfl, by simp [World.frozen?, h], by simp [World.frozen?, h], lt_of_block h⟩
/-- what stands where so many columns were to be read -/
def CX (k : Nat) (l : List UInt8) (bad0 : Bool) (cs : List CD) (l' : List UInt8) (bad : Bool) : Prop :=
  (bad = true ∧ (bad0 = true ∨ rdCs k l = none)) ∨ (bad0 = false ∧ bad = false ∧ rdCs k l = some (cs, l'))
theorem CX.step {k : Nat} {l : List UInt8} {bad0 bad bad1 bad2 : Bool} {cs : List CD} {l' m1 m2 s : List UInt8} {t : Int} (h : CX k l bad0 cs l' bad) (h1 : RX (rdT l') bad s m1 bad1) (h2 : RX (rdI m1) bad1 t m2 bad2) : CX (k + 1) l bad0 (cs ++ [⟨S s, t⟩]) m2 bad2 := by
  have hun : rdCs (k + 1) l = match rdCs k l with | none => none | some (cs, m) => match rdT m with | none => none | some (s, m1) => match rdI m1 with | none => none | some (t, m2) => some (cs ++ [⟨S s, t⟩], m2) := rfl
  rcases h with ⟨rfl, h⟩ | ⟨rfl, rfl, h⟩
  · rcases h1 with ⟨rfl, _⟩ | ⟨e, _⟩
    · rcases h2 with ⟨rfl, _⟩ | ⟨e, _⟩
      · refine .inl ⟨rfl, ?_⟩
        rcases h with h | h
        · exact .inl h
        · right; rw [hun, h]
      · cases e
    · cases e
  · rcases h1 with ⟨rfl, h1⟩ | ⟨_, rfl, h1⟩
    · rcases h2 with ⟨rfl, _⟩ | ⟨e, _⟩
      · refine .inl ⟨rfl, .inr ?_⟩
        rcases h1 with h1 | h1
        · cases h1
        · rw [hun, h]; simp only [h1]
      · cases e
    · rcases h2 with ⟨rfl, h2⟩ | ⟨_, rfl, h2⟩
      · refine .inl ⟨rfl, .inr ?_⟩
        rcases h2 with h2 | h2
        · cases h2
        · rw [hun, h]; simp only [h1, h2]
      · exact .inr ⟨rfl, rfl, by rw [hun, h]; simp only [h1, h2]⟩
theorem RX.len {α : Type} {r : Option (α × List UInt8)} {bad bad' : Bool} {x : α} {l' : List UInt8} (h : RX r bad x l' bad') : bad' = false → r = some (x, l') := fun e => by
  rcases h with ⟨h, _⟩ | ⟨_, _, h⟩
  · rw [h] at e; cases e
  · exact h

/-- values of a row; rows: what stands where so many were to be read -/
def VX (k : Nat) (l : List UInt8) (bad0 : Bool) (vs : List VD) (l' : List UInt8) (bad : Bool) : Prop :=
  (bad = true ∧ (bad0 = true ∨ rdVs k l = none)) ∨ (bad0 = false ∧ bad = false ∧ rdVs k l = some (vs, l'))
def RSX (n k : Nat) (l : List UInt8) (bad0 : Bool) (rows : List (List VD)) (l' : List UInt8) (bad : Bool) : Prop :=
  (bad = true ∧ (bad0 = true ∨ rdRs n k l = none)) ∨ (bad0 = false ∧ bad = false ∧ rdRs n k l = some (rows, l'))
theorem VX.step {k : Nat} {l : List UInt8} {bad0 bad bad1 : Bool} {vs : List VD} {l' m1 : List UInt8} {v : VD} (h : VX k l bad0 vs l' bad) (h1 : RX (rdV l') bad v m1 bad1) : VX (k + 1) l bad0 (vs ++ [v]) m1 bad1 := by
  have hun : rdVs (k + 1) l = match rdVs k l with | none => none | some (vs, m) => match rdV m with | none => none | some (v, m1) => some (vs ++ [v], m1) := rfl
  rcases h with ⟨rfl, h⟩ | ⟨rfl, rfl, h⟩
  · rcases h1 with ⟨rfl, _⟩ | ⟨e, _⟩
    · refine .inl ⟨rfl, ?_⟩
      rcases h with h | h
      · exact .inl h
      · right; rw [hun, h]
    · cases e
  · rcases h1 with ⟨rfl, h1⟩ | ⟨_, rfl, h1⟩
    · refine .inl ⟨rfl, .inr ?_⟩
      rcases h1 with h1 | h1
      · cases h1
      · rw [hun, h]; simp only [h1]
    · exact .inr ⟨rfl, rfl, by rw [hun, h]; simp only [h1]⟩
theorem RSX.step {n k : Nat} {l : List UInt8} {bad0 bad bad1 : Bool} {rows : List (List VD)} {l' m1 : List UInt8} {r : List VD} (h : RSX n k l bad0 rows l' bad) (h1 : VX n l' bad r m1 bad1) : RSX n (k + 1) l bad0 (rows ++ [r]) m1 bad1 := by
  have hun : rdRs n (k + 1) l = match rdRs n k l with | none => none | some (rows, m) => match rdVs n m with | none => none | some (r, m1) => some (rows ++ [r], m1) := rfl
  rcases h with ⟨rfl, h⟩ | ⟨rfl, rfl, h⟩
  · rcases h1 with ⟨rfl, _⟩ | ⟨e, _⟩
    · refine .inl ⟨rfl, ?_⟩
      rcases h with h | h
      · exact .inl h
      · right; rw [hun, h]
    · cases e
  · rcases h1 with ⟨rfl, h1⟩ | ⟨_, rfl, h1⟩
    · refine .inl ⟨rfl, .inr ?_⟩
      rcases h1 with h1 | h1
      · cases h1
      · rw [hun, h]; simp only [h1]
    · exact .inr ⟨rfl, rfl, by rw [hun, h]; simp only [h1]⟩
theorem rdRs_mono {n k k' : Nat} {l : List UInt8} (h : rdRs n k l = none) (hk : k ≤ k') : rdRs n k' l = none := by
  induction hk with
  | refl => exact h
  | step _ ih => unfold rdRs; rw [ih]
/-- the outcome of In.Table -/
def TablePost (g : Nat) (A : Option Addr) (l : List UInt8) (bad0 : Bool) (w : World) (e : Ending) (w' : World) : Prop :=
  (e = .returned (.agg #[.slice none 0 0, .slice none 0 0]) ∧ (∃ l', InPost g A l' true w w') ∧ (bad0 = true ∨ rdTab l = none)) ∨
  (bad0 = false ∧ ∃ cs rows l' SA c1 B c2, rdTab l = some ((cs, rows), l') ∧ e = .returned (.agg #[.slice SA cs.length c1, .slice B rows.length c2]) ∧ (∀ fp w2, Touch fp w' w2 → (∀ b ∈ fp, b < w.heap.size) → ColsAt w2 SA cs ∧ RowsAt w2 B rows) ∧ InPost g A l' false w w')
theorem tab_none {l l1 l2 l3 l4 : List UInt8} {bad0 bad1 bad2 bad3 bad4 : Bool} {N M k : Nat} {cs : List CD} {rows : List (List VD)} (h1 : RX (rdC 16 l) bad0 (N : Int) l1 bad1) (h2 : CX N l1 bad1 cs l2 bad2) (h3 : RX (rdC 4096 l2) bad2 (M : Int) l3 bad3) (h4 : RSX N k l3 bad3 rows l4 bad4)
    (hk : k ≤ M) (hb : bad4 = true) : bad0 = true ∨ rdTab l = none := by
  unfold rdTab
  rcases h1 with ⟨e1, h1⟩ | ⟨e0, e1, h1⟩
  · rcases h1 with h1 | h1
    · exact .inl h1
    · right; rw [h1]
  · right
    rw [h1]
    dsimp only
    rw [Int.toNat_natCast]
    rcases h2 with ⟨e2, h2⟩ | ⟨_, e2, h2⟩
    · rcases h2 with h2 | h2
      · rw [e1] at h2; cases h2
      · rw [h2]
    · rw [h2]
      dsimp only
      rcases h3 with ⟨e3, h3⟩ | ⟨_, e3, h3⟩
      · rcases h3 with h3 | h3
        · rw [e2] at h3; cases h3
        · rw [h3]
      · rw [h3]
        dsimp only
        rw [Int.toNat_natCast]
        rcases h4 with ⟨e4, h4⟩ | ⟨_, e4, h4⟩
        · rcases h4 with h4 | h4
          · rw [e3] at h4; cases h4
          · rw [rdRs_mono h4 hk]
        · rw [e4] at hb; cases hb
theorem tab_some {l l1 l2 l3 l4 : List UInt8} {bad0 bad1 bad2 bad3 : Bool} {N M : Nat} {cs : List CD} {rows : List (List VD)} (hl : l.length ≤ 140737000000000) (hN : N ≤ 16) (h1 : RX (rdC 16 l) bad0 (N : Int) l1 bad1) (h2 : CX N l1 bad1 cs l2 bad2) (h3 : RX (rdC 4096 l2) bad2 (M : Int) l3 bad3) (h4 : RSX N M l3 bad3 rows l4 false) :
    bad0 = false ∧ cs.length = N ∧ (∀ c ∈ cs, c.Ok) ∧ rows.length = M ∧ RowsOk rows ∧ rdTab l = if checkT cs rows = 0 then some ((cs, rows), l4) else none := by
  rcases h4 with ⟨e4, _⟩ | ⟨e3, _, h4⟩
  · cases e4
  rcases h3 with ⟨e, _⟩ | ⟨e2, _, h3⟩
  · rw [e3] at e; cases e
  rcases h2 with ⟨e, _⟩ | ⟨e1, _, h2⟩
  · rw [e2] at e; cases e
  rcases h1 with ⟨e, _⟩ | ⟨e0, _, h1⟩
  · rw [e1] at e; cases e
  have q1 := rdC_le h1
  have q2 := rdCs_ok h2 (by omega)
  have q3 := rdC_le h3
  have q4 := rdRs_ok h4 (by omega) (by omega)
  refine ⟨e0, q2.1, q2.2.1, q4.1, q4.2.1, ?_⟩
  unfold rdTab
  rw [h1]
  dsimp only
  rw [Int.toNat_natCast, h2]
  dsimp only
  rw [h3]
  dsimp only
  rw [Int.toNat_natCast, h4]
theorem tab_len {l l1 l2 l3 l4 : List UInt8} {bad0 bad1 bad2 bad3 : Bool} {N M k : Nat} {cs : List CD} {rows : List (List VD)} (hl : l.length ≤ 140737000000000) (hN : N ≤ 16) (h1 : RX (rdC 16 l) bad0 (N : Int) l1 bad1) (h2 : CX N l1 bad1 cs l2 bad2) (h3 : RX (rdC 4096 l2) bad2 (M : Int) l3 bad3) (h4 : RSX N k l3 bad3 rows l4 false) : l4.length ≤ 140737000000000 := by
  rcases h4 with ⟨e4, _⟩ | ⟨e3, _, h4⟩
  · cases e4
  rcases h3 with ⟨e, _⟩ | ⟨e2, _, h3⟩
  · rw [e3] at e; cases e
  rcases h2 with ⟨e, _⟩ | ⟨e1, _, h2⟩
  · rw [e2] at e; cases e
  rcases h1 with ⟨e, _⟩ | ⟨e0, _, h1⟩
  · rw [e1] at e; cases e
  have q1 := rdC_le h1
  have q2 := rdCs_ok h2 (by omega)
  have q3 := rdC_le h3
  have q4 := rdRs_ok h4 (by omega) (by omega)
  omega
theorem RXV_len {l l' : List UInt8} {bad bad' : Bool} {v : VD} (h : RX (rdV l) bad v l' bad') (hl : bad = false → l.length ≤ 140737000000000) : bad' = false → l'.length ≤ 140737000000000 := fun e => by
  rcases h with ⟨h, _⟩ | ⟨h1, _, h⟩
  · rw [h] at e; cases e
  · have := hl h1
    have := (rdV_ok h this).2
    omega
theorem out2 {X : World} {R : Nat} {a b : Value} (v0 v1 : Value) (h : X.heap[R]? = some (.cells #[a, b] 56 (0, 0))) :
    ((X.setCell ⟨R, 0, none⟩ v0).setCell ⟨R, 1, none⟩ v1).heap[R]? = some (.cells #[v0, v1] 56 (0, 0)) ∧ Touch [R] X ((X.setCell ⟨R, 0, none⟩ v0).setCell ⟨R, 1, none⟩ v1) :=
  ⟨set_blk (set_blk h 0 v0) 1 v1, ((Touch.refl [R] X).setCell (p := ⟨R, 0, none⟩) (.inl (by simp)) v0).setCell (p := ⟨R, 1, none⟩) (.inl (by simp)) v1⟩
theorem info_vval : (Tryd.prog.info? 59).map (fun i => (i.zero, i.size, i.bytes)) = some (some (.agg #[.int .i64 0, .int .i64 0, .string ⟨#[]⟩]), 3, 32) := by kernel_rfl
theorem info_rows : (Tryd.prog.info? 67).map (fun i => (i.zero, i.size, i.bytes)) = some (some (.slice none 0 0), 1, 24) := by kernel_rfl

set_option maxRecDepth 20000 in
set_option maxHeartbeats 6400000 in
theorem inTable_any (g : Nat) (A : Option Addr) (l : List UInt8) (bad0 : Bool) (w : World) (hi : InAt w g A l bad0) (hA : ∀ b ∈ fpo A, b < w.heap.size) (hsm : l.length ≤ 140737000000000) :
    Calls Tryd.prog 28 #[.pointer (some ⟨g, 0, none⟩)] w fun e w' => TablePost g A l bad0 w e w' := by
  have hgl : g < w.heap.size := by obtain ⟨c, hc, hg, hgl, _⟩ := hi.mk'; exact hgl
  have t0 := ((Touch.refl [] w).alloc (.cells #[.slice none 0 0, .slice none 0 0] 56)).alloc (.cells #[.slice none 0 0, .slice none 0 0] 56)
  have hbR := heap_alloc_new w (.cells #[.slice none 0 0, .slice none 0 0] 56)
  have hbT := heap_alloc_new (w.alloc (.cells #[.slice none 0 0, .slice none 0 0] 56)) (.cells #[.slice none 0 0, .slice none 0 0] 56)
  have hbR' := ((Touch.refl [] (w.alloc (.cells #[.slice none 0 0, .slice none 0 0] 56))).alloc (.cells #[.slice none 0 0, .slice none 0 0] 56)).blk hbR (by simp)
  rw [World.size_alloc] at hbT
  have hfpR : ∀ b ∈ [w.heap.size], w.heap.size ≤ b := fun b hb => by
    have : b = w.heap.size := by simpa using hb
    omega
  have hi0 := hi.touch t0 (by simp) (fun _ _ => by simp)
  have Hcnt := Lib.hid (inCount_x g A l bad0 16 (by omega) _ hi0)
  go_enter Tryd.func28, Tryd.ntmps28
  go_wp2_with fail
  refine Hcnt.out.mono ?_
  rintro e w1 ⟨n, l1, bad1, rfl, ⟨A1, hi1, ht1, hf1⟩, hx1, hn0, hn16⟩
  obtain ⟨N, rfl⟩ : ∃ N : Nat, n = (N : Int) := ⟨n.toNat, by omega⟩
  have hT1 := ht1.blk hbT (by simp; omega)
  have hR1 := ht1.blk hbR' (by simp; omega)
  have T1 : Touch [g] w w1 := (t0.mono (fp2 := [g]) (fun _ hb => by simp at hb)).up ht1
  have Hx1 := Lib.hid hx1
  clear hx1 hbR hbR' hbT hi0 Hcnt
  go_wp2
  go_loopw [8] (fun i wr => ∃ (k : Nat) (A' : Option Addr) (c' : Nat) (cs : List CD) (A2 : Option Addr) (l2 : List UInt8) (bad : Bool), k ≤ N ∧ i = .int .i64 k ∧ cs.length = k ∧
      wr.heap[w.heap.size + 1]? = some (.cells #[.slice A' k c', .slice none 0 0] 56 (0, 0)) ∧ wr.heap[w.heap.size]? = some (.cells #[.slice none 0 0, .slice none 0 0] 56 (0, 0)) ∧
      OwnK 83 2 cdE wr A' c' cs ∧ (∀ b ∈ fpo A', w.heap.size + 2 ≤ b) ∧ InAt wr g A2 l2 bad ∧ (∀ b ∈ fpo A2, b ∈ fpo A) ∧ Touch [g] w wr ∧ Hid (CX k l1 bad1 cs l2 bad)) (fun i _ => N - (intOf i).toNat)
  case atStart => exact ⟨0, none, 0, [], A1, l1, bad1, by omega, rfl, rfl, hT1, hR1, OwnK.nil _ _ _ _, by simp [fpo], hi1, hf1, T1, Lib.hid (by cases bad1; exact .inr ⟨rfl, rfl, rfl⟩; exact .inl ⟨rfl, .inl rfl⟩)⟩
  case round =>
    obtain ⟨k, A', c', cs, A2, l2, bad, hk, rfl, hlen, hT, hR, hown, hfresh, hin, hf2, ht, Hcx⟩ := hrel
    by_cases hlt : k < N
    · clear hT1 hR1 T1 hi1 hf1 ht1
      have hwsz := ht.size
      have Hlen := Lib.hid hlen
      clear hlen
      go_wp2_with fail
      refine (inText_x g A2 l2 bad wr hin).mono ?_
      rintro e w2 ⟨s, m1, bad2, rfl, ⟨A3, hi3, ht3, hf3⟩, hx3⟩
      have hT2 := ht3.blk hT (by simp; omega)
      have hR2 := ht3.blk hR (by simp; omega)
      have own2 := hown.touch ht3 (fun b hb => by have := hfresh b hb; simp; omega)
      have hl2 := lt_of_block hT2
      have tbx := (Touch.refl [] w2).alloc (.cells #[.string (S s), .int .i64 0] 83)
      have hbx := heap_alloc_new w2 (.cells #[.string (S s), .int .i64 0] 83)
      have hi3x := hi3.touch tbx (by simp) (fun _ _ => by simp)
      have T3 := (ht.up ht3).up0 tbx
      go_wp2_with fail
      refine (inInt_x g A3 m1 bad2 _ hi3x).mono ?_
      rintro e w4 ⟨nn, m2, bad4, rfl, ⟨A4, hi4, ht4, hf4⟩, hx4, hnn⟩
      have hT4 := ht4.blk (tbx.blk hT2 (by simp)) (by simp; omega)
      have hR4 := ht4.blk (tbx.blk hR2 (by simp)) (by simp; omega)
      have hbx4 := ht4.blk hbx (by simp; omega)
      have own4 := (own2.touch0 tbx).touch ht4 (fun b hb => by have := hfresh b hb; simp; omega)
      obtain ⟨d0, d1, fr0, fr1, hl4⟩ := blk2 hT4
      obtain ⟨x0, x1, y0, y1, hxl⟩ := blk2 hbx4
      have T4 := T3.up ht4
      have ne1 : (w2.heap.size = w.heap.size + 1) = False := eq_false (by omega)
      have ne2 : (w.heap.size + 1 = w2.heap.size) = False := eq_false (by omega)
      have hbne : ∀ b ∈ fpo A', b < w2.heap.size := own2.lt
      have t5 := ((Touch.refl [w2.heap.size] w4).setCell (p := ⟨w2.heap.size, 1, none⟩) (.inl (by simp)) (.int .i64 nn))
      have own5 := (own4.touch t5 (fun b hb => by have := hbne b hb; simp; omega))
      have t6 := (Touch.refl [] (w4.setCell ⟨w2.heap.size, 1, none⟩ (.int .i64 nn))).alloc (.cells #[.string (S s), .int .i64 nn] 83)
      have own6 := own5.touch0 t6
      go_wp2_with (at_builtin; refine stop ?_)
      refine go ?_
      have hA4 : ∀ b ∈ fpo A4, b ∈ fpo A := fun b hb => hf2 b (hf3 b (hf4 b hb))
      have e4 : (w4.setCell ⟨w2.heap.size, 1, none⟩ (.int .i64 nn)).heap.size = w4.heap.size := by simp [World.setCell]
      refine wpList_appK rfl (.tmp 17) (.tmp 19) 53 rfl 83 _ 2 24 info_col' Tryd.underlying53 rfl (by omega) cdE_length cdE_one A' k c' cs Hlen.out rfl own6
        (some ⟨w4.heap.size, 0, none⟩) 1 1 [⟨S s, nn⟩] rfl rfl (by have := RdK.one (enc := cdE) (w4.setCell ⟨w2.heap.size, 1, none⟩ (.int .i64 nn)) 83 ⟨S s, nn⟩ #[.string (S s), .int .i64 nn] rfl; rwa [e4] at this) (by omega) (by omega) ?_
      intro A5 c5 w5 hown5 ht5 hf5
      have hsz6 := t6.size
      rw [e4] at hsz6
      have hT5 := ht5.blk (t6.blk (t5.blk hT4 (by simp; omega)) (by simp)) (fun hm => by have := hfresh _ hm; omega)
      have hR5 := ht5.blk (t6.blk (t5.blk hR4 (by simp; omega)) (by simp)) (fun hm => by have := hfresh _ hm; omega)
      have hi5 := ((hi4.touch t5 (by simp; omega) (fun b hb => by have := hA b (hA4 b hb); simp; omega)).touch t6 (by simp) (fun _ _ => by simp)).touch ht5 (fun hm => by have := hfresh _ hm; omega) (fun b hb hm => by have := hA b (hA4 b hb); have := hfresh b hm; omega)
      have T5 := ((T4.trans t5 (fun b hb => .inr (by have : b = w2.heap.size := by simpa using hb
                                                     omega))).up0 t6).trans ht5 (fun b hb => .inr (by have := hfresh b hb; omega))
      have fresh5 : ∀ b ∈ fpo A5, w.heap.size + 2 ≤ b := fun b hb => by
        rcases hf5 b hb with e | e
        · exact hfresh b e
        · omega
      clear d0 d1 fr0 fr1 hl4
      obtain ⟨d0, d1, fr0, fr1, hl5⟩ := blk2 hT5
      have t7 := (Touch.refl [w.heap.size + 1] w5).setCell (p := ⟨w.heap.size + 1, 0, none⟩) (.inl (by simp)) (.slice A5 (k + 1) c5)
      go_wp2
      go_roundw
      case rel => exact ⟨k + 1, A5, c5, cs ++ [⟨S s, nn⟩], A4, m2, bad4, by omega, by go_num, by rw [List.length_append, Hlen.out]; rfl, set_blk hT5 0 _, t7.blk hR5 (by simp),
          hown5.touch t7 (fun b hb => by have := fresh5 b hb; simp; omega), fresh5, hi5.touch t7 (by simp; omega) (fun b hb => by have := hA b (hA4 b hb); simp; omega), hA4,
          T5.setCell (p := ⟨w.heap.size + 1, 0, none⟩) (.inr (by simp)) _, Lib.hid (Hcx.out.step hx3 hx4)⟩
      case measure => simp [intOf]; omega
    · obtain rfl : k = N := by omega
      clear hT1 hR1 T1 hi1 hf1 ht1
      have hwsz := ht.size
      have Hlen := Lib.hid hlen
      clear hlen
      go_wp2_with fail
      refine (inCount_x g A2 l2 bad 4096 (by omega) wr hin).mono ?_
      rintro e w2 ⟨mm, l3, bad3, rfl, ⟨A3, hi3, ht3, hf3⟩, hx3, hm0, hmx⟩
      obtain ⟨M, rfl⟩ : ∃ M : Nat, mm = (M : Int) := ⟨mm.toNat, by omega⟩
      have hT2 := ht3.blk hT (by simp; omega)
      have hR2 := ht3.blk hR (by simp; omega)
      have own2 := hown.touch ht3 (fun b hb => by have := hfresh b hb; simp; omega)
      have T2 := ht.up ht3
      have hA3 : ∀ b ∈ fpo A3, b ∈ fpo A := fun b hb => hf2 b (hf3 b hb)
      have Hx3 := Lib.hid hx3
      clear hx3 hin hT hR hown ht ht3 hf3
      go_wp2
      go_loopw [25] (fun i wr2 => ∃ (q : Nat) (B : Option Addr) (cB : Nat) (rows : List (List VD)) (A6 : Option Addr) (l6 : List UInt8) (bad6 : Bool), q ≤ M ∧ i = .int .i64 q ∧ rows.length = q ∧
          wr2.heap[w.heap.size + 1]? = some (.cells #[.slice A' k c', .slice B q cB] 56 (0, 0)) ∧ wr2.heap[w.heap.size]? = some (.cells #[.slice none 0 0, .slice none 0 0] 56 (0, 0)) ∧
          OwnK 83 2 cdE wr2 A' c' cs ∧ OwnR 67 (w.heap.size + 2) wr2 B cB rows ∧ (∀ b ∈ fpo B, w.heap.size + 2 ≤ b) ∧ (∀ b ∈ fpo B, b ∉ fpo A') ∧ InAt wr2 g A6 l6 bad6 ∧ (∀ b ∈ fpo A6, b ∈ fpo A) ∧ Touch [g] w wr2 ∧ Hid (RSX k q l3 bad3 rows l6 bad6)) (fun i _ => M - (intOf i).toNat)
      case atStart => exact ⟨0, none, 0, [], A3, l3, bad3, by omega, rfl, rfl, hT2, hR2, own2, OwnR.nil _ _ _, by simp [fpo], by simp [fpo], hi3, hA3, T2, Lib.hid (by cases bad3; exact .inr ⟨rfl, rfl, rfl⟩; exact .inl ⟨rfl, .inl rfl⟩)⟩
      case round =>
        obtain ⟨q, B, cB, rows, A6, l6, bad6, hq, rfl, hrl, hT, hR, hown, hownR, hBf, hBA, hin, hA6, ht, Hrs⟩ := hrel
        clear hT2 hR2 own2 T2 hi3 hA3
        have hwsz2 := ht.size
        by_cases hltq : q < M
        · obtain ⟨d0, d1, fr0, fr1, hlT⟩ := blk2 hT
          have hl6 := fun e : bad6 = false => tab_len hsm (by omega) Hx1.out Hcx.out Hx3.out (by have := Hrs.out; rwa [e] at this)
          have Hrl := Lib.hid hrl
          clear hrl
          go_wp2
          clear d0 d1 fr0 fr1
          go_loopw [5, 30] (fun v i w3 => ∃ (j : Nat) (C : Option Addr) (cC : Nat) (vs : List VD) (A7 : Option Addr) (l7 : List UInt8) (bad7 : Bool), j ≤ k ∧ i = .int .i64 j ∧ v = .slice C j cC ∧ vs.length = j ∧
              OwnK 59 3 vdE w3 C cC vs ∧ (∀ b ∈ fpo C, wr.heap.size ≤ b) ∧ InAt w3 g A7 l7 bad7 ∧ (∀ b ∈ fpo A7, b ∈ fpo A) ∧ Touch [g] wr w3 ∧ Hid (bad7 = false → l7.length ≤ 140737000000000) ∧ Hid (VX j l6 bad6 vs l7 bad7)) (fun _ i _ => k - (intOf i).toNat)
          case atStart => exact ⟨0, none, 0, [], A6, l6, bad6, by omega, rfl, rfl, rfl, OwnK.nil _ _ _ _, by simp [fpo], hin, hA6, Touch.refl _ _, Lib.hid hl6, Lib.hid (by cases bad6; exact .inr ⟨rfl, rfl, rfl⟩; exact .inl ⟨rfl, .inl rfl⟩)⟩
          case round =>
            obtain ⟨j, C, cC, vs, A7, l7, bad7, hj, rfl, rfl, hvl, hownC, hCf, hin7, hA7, ht7, Hl7, Hvx⟩ := hrel
            have hwsz3 := ht7.size
            have Hvl := Lib.hid hvl
            clear hvl
            by_cases hltj : j < k
            · go_wp2_with fail
              refine (inValue_x g A7 l7 bad7 _ hin7 (fun b hb => by have := hA b (hA7 b hb); omega) Hl7.out).mono ?_
              rintro e w8 ⟨v, m1, bad8, rfl, ⟨A8, hi8, ht8, hf8⟩, hx8⟩
              obtain ⟨k1, n1, s1⟩ := v
              dsimp only [VD.val]
              have Hx8 := Lib.hid hx8
              clear hx8
              have own8 := hownC.touch ht8 (fun b hb => by have := hCf b hb; simp; omega)
              have t9 := (Touch.refl [] w8).alloc (.cells #[.int .i64 k1, .int .i64 n1, .string s1] 59)
              have hsz8 := ht8.size
              have hsz9 := t9.size
              go_wp2_with (at_builtin; refine stop ?_)
              refine go ?_
              refine wpList_appK rfl (.tmp 32) (.tmp 35) 67 rfl 59 _ 3 32 info_vval Tryd.underlying67 rfl (by omega) vdE_length vdE_one C j cC vs Hvl.out rfl (own8.touch0 t9)
                (some ⟨w8.heap.size, 0, none⟩) 1 1 [⟨k1, n1, s1⟩] rfl rfl (RdK.one (enc := vdE) w8 59 ⟨k1, n1, s1⟩ #[.int .i64 k1, .int .i64 n1, .string s1] rfl) (by omega) (by omega) ?_
              intro C5 cC5 w9 hown9 ht9 hf9
              have hA8 : ∀ b ∈ fpo A8, b ∈ fpo A := fun b hb => hA7 b (hf8 b hb)
              have hi9 := (hi8.touch t9 (by simp) (fun _ _ => by simp)).touch ht9 (fun hm => by have := hCf _ hm; omega) (fun b hb hm => by have := hA b (hA8 b hb); have := hCf b hm; omega)
              have T9 := ((ht7.up ht8).up0 t9).trans ht9 (fun b hb => .inr (hCf b hb))
              go_wp2
              go_roundw
              case rel => exact ⟨j + 1, C5, cC5, vs ++ [⟨k1, n1, s1⟩], A8, m1, bad8, by omega, by go_num, rfl, by rw [List.length_append, Hvl.out]; rfl, hown9, fun b hb => by
                  rcases hf9 b hb with e | e
                  · exact hCf b e
                  · omega, hi9, hA8, T9, Lib.hid (RXV_len Hx8.out Hl7.out), Lib.hid (Hvx.out.step Hx8.out)⟩
              case measure => simp [intOf]; omega
            · obtain rfl : j = k := by omega
              have hT3 := ht7.blk hT (by simp; omega)
              have hR3 := ht7.blk hR (by simp; omega)
              have T3 := ht.up ht7
              have Hrs3 := Lib.hid (Hrs.out.step Hvx.out)
              have hne : (w.heap.size = g) = False := eq_false (by omega)
              have hne' : (g = w.heap.size) = False := eq_false (by omega)
              cases bad7
              · have hvals : ValsAt wr C vs := hownC.rd
                have own3 := hown.touch ht7 (fun b hb => by have := hfresh b hb; simp; omega)
                have ownR3 := hownR.touch ht7 (fun b hb => by
                  have : b = g := by simpa using hb
                  omega) hBf
                obtain ⟨c7, hc7, hg7, hgl7, hc07, hc17, hfr7, hfr17⟩ := hin7.mk'
                obtain ⟨d0, d1, fr0, fr1, hl3⟩ := blk2 hT3
                have ta := (Touch.refl [] wr).alloc (.cells #[.slice C j cC] 67)
                go_wp2_with (at_builtin; refine stop ?_)
                refine go ?_
                refine wpList_appR rfl (.tmp 43) (.tmp 45) 54 rfl 67 info_rows Tryd.underlying54 (w.heap.size + 2) B q cB rows Hrl.out rfl ownR3 C cC vs hvals
                  (fun b hb => ⟨fun hm => by have := hownR.lt b hm; have := hCf b hb; omega, hownC.lt b hb, by have := hCf b hb; omega⟩) 1 rfl (by omega) (by rw [Hvl.out]) ?_
                intro B5 cB5 w9 hown9 ht9 hf9
                have hT9 := ht9.blk (ta.blk hT3 (by simp)) (fun hm => by have := hBf _ hm; omega)
                have hR9 := ht9.blk (ta.blk hR3 (by simp)) (fun hm => by have := hBf _ hm; omega)
                have own9 := (own3.touch0 ta).touch ht9 (fun b hb hm => hBA b hm hb)
                have hi9 := (hin7.touch ta (by simp) (fun _ _ => by simp)).touch ht9 (fun hm => by have := hBf _ hm; omega) (fun b hb hm => by have := hA b (hA7 b hb); have := hBf b hm; omega)
                have T9 := (T3.up0 ta).trans ht9 (fun b hb => .inr (by have := hBf b hb; omega))
                have fresh9 : ∀ b ∈ fpo B5, w.heap.size + 2 ≤ b := fun b hb => by
                  rcases hf9 b hb with e | e
                  · exact hBf b e
                  · omega
                have notA9 : ∀ b ∈ fpo B5, b ∉ fpo A' := fun b hb hm => by
                  rcases hf9 b hb with e | e
                  · exact hBA b e hm
                  · have := hown.lt b hm; omega
                clear d0 d1 fr0 fr1 hl3
                obtain ⟨d0, d1, fr0, fr1, hl9⟩ := blk2 hT9
                have t10 := (Touch.refl [w.heap.size + 1] w9).setCell (p := ⟨w.heap.size + 1, 1, none⟩) (.inl (by simp)) (.slice B5 (q + 1) cB5)
                go_wp2
                go_roundw
                case rel => exact ⟨q + 1, B5, cB5, rows ++ [vs], A7, l7, false, by omega, by go_num, by rw [List.length_append, Hrl.out]; rfl, set_blk hT9 1 _, t10.blk hR9 (by simp),
                    own9.touch t10 (fun b hb => by have := hfresh b hb; simp; omega), hown9.touch t10 (fun b hb => by
                      have : b = w.heap.size + 1 := by simpa using hb
                      omega) fresh9, fresh9, notA9, hi9.touch t10 (by simp; omega) (fun b hb => by have := hA b (hA7 b hb); simp; omega), hA7,
                    T9.setCell (p := ⟨w.heap.size + 1, 1, none⟩) (.inr (by simp)) _, Hrs3⟩
                case measure => simp [intOf]; omega
              · skip
                obtain ⟨c6, hc6, hg6, hgl6, hc06, hc16, hfr6, hfr16⟩ := hin7.mk'
                obtain ⟨e0, e1, er0, er1, hlR⟩ := blk2 hR3
                have Hno := Lib.hid (tab_none Hx1.out Hcx.out Hx3.out Hrs3.out (by omega) rfl)
                go_wp2_with fail
                obtain ⟨q1, q2⟩ := out2 (.slice none 0 0) (.slice none 0 0) (((Touch.refl [g] wr).setCell (p := ⟨g, 1, none⟩) (.inl (by simp)) (.bool true)).blk hR3 (by simp; omega))
                (try simp only [Exit.inBlock, Exit.then])
                refine bodyPost_ret (results_cell_row rfl _ _ w.heap.size _ _ _ _ rfl q1 Tryd.underlying56 rfl rfl) rfl ?_
                exact .inl ⟨rfl, ⟨_, In_fin hgl hA hA7 (T3.setCell (p := ⟨g, 1, none⟩) (.inl (by simp)) (.bool true)) hin7.spoilt [w.heap.size] q2 hfpR⟩, Hno.out⟩
        · obtain rfl : q = M := by omega
          have hne : (w.heap.size = g) = False := eq_false (by omega)
          have hne' : (g = w.heap.size) = False := eq_false (by omega)
          cases bad6
          · obtain ⟨h0, hcl, hcok, hrl2, hrok, htab⟩ := tab_some hsm (by omega) Hx1.out Hcx.out Hx3.out Hrs.out
            have Hck := Lib.hid (checkT_any A' c' k cs Hlen.out hcok B cB q rows hrl hrok wr hown.rd hownR.rowsAt (by omega) (by omega))
            have Htab := Lib.hid htab
            have Hrl := Lib.hid hrl
            have H0 := Lib.hid h0
            obtain ⟨c7, hc7, hg7, hgl7, hc07, hc17, hfr7, hfr17⟩ := hin.mk'
            obtain ⟨d0, d1, fr0, fr1, hlT⟩ := blk2 hT
            clear h0 hcl hcok hrl2 hrok htab hrl
            by_cases hk0 : checkT cs rows = 0
            · rw [hk0] at Hck
              have Hsome := Lib.hid (show rdTab l = some ((cs, rows), l6) by rw [Htab.out, if_pos hk0])
              clear hk0
              go_wp2_with fail
              refine Hck.out.mono ?_
              rintro e w7 ⟨rfl, t7⟩
              have hT7 := t7.blk hT (by simp)
              have hR7 := t7.blk hR (by simp)
              have hi7 := hin.touch t7 (by simp) (fun _ _ => by simp)
              clear d0 d1 fr0 fr1 hc07 hc17 hfr7 hfr17
              obtain ⟨d0, d1, fr0, fr1, hlT7⟩ := blk2 hT7
              obtain ⟨e0, e1, er0, er1, hlR7⟩ := blk2 hR7
              go_wp2_with fail
              obtain ⟨q1, q2⟩ := out2 (.slice A' k c') (.slice B q cB) hR7
              (try simp only [Exit.inBlock, Exit.then])
              refine bodyPost_ret (results_cell_row rfl _ _ w.heap.size _ _ _ _ rfl q1 Tryd.underlying56 rfl rfl) rfl ?_
              have hcT := (hown.touch0 t7).touch q2 (fun b hb => by have := hfresh b hb; simp; omega)
              have hrT := (hownR.touch0 t7).touch q2 (fun b hb => by
                have : b = w.heap.size := by simpa using hb
                omega) hBf
              exact .inr ⟨H0.out, cs, rows, l6, A', c', B, cB, Hsome.out, by rw [Hlen.out, Hrl.out], fun fp w2 ht2 hfp => ⟨(hcT.touch ht2 (fun b hb hm => by have := hfresh b hb; have := hfp b hm; omega)).rd, (hrT.touch ht2 (fun b hb => by have := hfp b hb; omega) hBf).rowsAt⟩, In_fin hgl hA hA6 (ht.up0 t7) hi7 [w.heap.size] q2 hfpR⟩
            · have Hnone := Lib.hid (show rdTab l = none by rw [Htab.out, if_neg hk0])
              obtain ⟨kk, hkk⟩ : ∃ kk, kk = checkT cs rows := ⟨_, rfl⟩
              rw [← hkk] at Hck hk0
              have hq0 : (kk == 0) = false := by rw [beq_eq_false_iff_ne]; exact hk0
              have hq1 : (kk != 0) = true := by rw [bne, hq0]; rfl
              clear hkk
              go_wp2_with fail
              refine Hck.out.mono ?_
              rintro e w7 ⟨rfl, t7⟩
              have hR7 := t7.blk hR (by simp)
              have hi7 := hin.touch t7 (by simp) (fun _ _ => by simp)
              clear d0 d1 fr0 fr1 hc07 hc17 hfr7 hfr17
              obtain ⟨c8, hc8, hg8, hgl8, hc08, hc18, hfr8, hfr18⟩ := hi7.mk'
              obtain ⟨e0, e1, er0, er1, hlR7⟩ := blk2 hR7
              go_wp2_with fail
              obtain ⟨q1, q2⟩ := out2 (.slice none 0 0) (.slice none 0 0) (((Touch.refl [g] w7).setCell (p := ⟨g, 1, none⟩) (.inl (by simp)) (.bool true)).blk hR7 (by simp; omega))
              (try simp only [Exit.inBlock, Exit.then])
              refine bodyPost_ret (results_cell_row rfl _ _ w.heap.size _ _ _ _ rfl q1 Tryd.underlying56 rfl rfl) rfl ?_
              exact .inl ⟨rfl, ⟨_, In_fin hgl hA hA6 ((ht.up0 t7).setCell (p := ⟨g, 1, none⟩) (.inl (by simp)) (.bool true)) hi7.spoilt [w.heap.size] q2 hfpR⟩, .inr Hnone.out⟩
          · skip
            obtain ⟨c6, hc6, hg6, hgl6, hc06, hc16, hfr6, hfr16⟩ := hin.mk'
            obtain ⟨e0, e1, er0, er1, hlR⟩ := blk2 hR
            have Hno := Lib.hid (tab_none Hx1.out Hcx.out Hx3.out Hrs.out (Nat.le_refl _) rfl)
            go_wp2_with fail
            obtain ⟨q1, q2⟩ := out2 (.slice none 0 0) (.slice none 0 0) (((Touch.refl [g] wr).setCell (p := ⟨g, 1, none⟩) (.inl (by simp)) (.bool true)).blk hR (by simp; omega))
            (try simp only [Exit.inBlock, Exit.then])
            refine bodyPost_ret (results_cell_row rfl _ _ w.heap.size _ _ _ _ rfl q1 Tryd.underlying56 rfl rfl) rfl ?_
            exact .inl ⟨rfl, ⟨_, In_fin hgl hA hA6 (ht.setCell (p := ⟨g, 1, none⟩) (.inl (by simp)) (.bool true)) hin.spoilt [w.heap.size] q2 hfpR⟩, Hno.out⟩
end Go.Proofs.YtgpadejkmpfafaaDoor
