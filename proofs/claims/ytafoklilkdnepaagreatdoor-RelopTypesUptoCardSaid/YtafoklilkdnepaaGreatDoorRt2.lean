/- Part 2 of the texts of this proof, one behind the other; each begins with its own sentence. No condition beyond those that its theorems state. -/
import Derived.Test.YtafoklilkdnepaaGreatDoorRt1
import Derived.Shelf.Small.Bits
import Derived.Shelf.Small.Strs
import Derived.Shelf.Small.Wraps
import Derived.Shelf.Strconv.Itoa0
import Derived.Shelf.Strconv.Itoa1
import Derived.Shelf.LaysM
import Derived.Shelf.Strconv.Itoa2
import Derived.Shelf.Strconv.Itoa3
import Derived.Shelf.Strings.Search1
import Derived.Test.YtafoklilkdnepaaGreatDoorProg
import Derived.StillTailTactics
import Derived.Lib.IndexMore
import Derived.Lib.Join
/- Trees of expressions, and how they lie in memory. No program's function. -/
namespace Go.Proofs.YtafoklilkdnepaaGreatDoor
open Go.RowKit

/-- an expression's own things -/
structure ND where
  kind : Int
  name : ByteArray
  v : VD
  op : ByteArray
/-- numbers within bounds, texts short -/
structure ND.Ok (d : ND) (m : Nat) : Prop where
  k : -9223372036854775808 ≤ d.kind ∧ d.kind ≤ 9223372036854775807
  n : d.name.size ≤ m
  v : d.v.Ok m
  o : d.op.size ≤ m
/-- expressions of so many levels at most -/
def TX : Nat → Type
  | 0 => PEmpty
  | n + 1 => ND × List (TX n)
/-- what an expression's cells hold -/
structure XC where
  nd : ND
  A : Option Addr
  n : Nat
  c : Nat
/-- as the program lays it -/
def xcE (x : XC) : List Value := [.int .i64 x.nd.kind, .string x.nd.name, .int .i64 x.nd.v.kind, .int .i64 x.nd.v.num, .string x.nd.v.text, .string x.nd.op, .slice x.A x.n x.c]
/-- as the document's answer lays it -/
def xcR (x : XC) : List Value := [.int .i64 x.nd.kind, .string x.nd.name, .string x.nd.op, .int .i64 x.nd.v.kind, .int .i64 x.nd.v.num, .string x.nd.v.text, .slice x.A x.n x.c]
theorem xcE_length (x : XC) : (xcE x).length = 7 := rfl
theorem xcR_length (x : XC) : (xcR x).length = 7 := rfl
theorem xcE_one (x : XC) : ∀ u ∈ xcE x, u.oneCell' = true := by
  intro u hu
  simp only [xcE, List.mem_cons, List.not_mem_nil, or_false] at hu
  rcases hu with rfl | rfl | rfl | rfl | rfl | rfl | rfl <;> rfl
theorem xcR_one (x : XC) : ∀ u ∈ xcR x, u.oneCell' = true := by
  intro u hu
  simp only [xcR, List.mem_cons, List.not_mem_nil, or_false] at hu
  rcases hu with rfl | rfl | rfl | rfl | rfl | rfl | rfl <;> rfl

/-- these cells, and what they lead to, are this tree; its blocks are such -/
def ExP (enc : XC → List Value) (p : Nat → Prop) : (n : Nat) → World → XC → TX n → Prop
  | 0, _, _, _ => False
  | n + 1, w, x, e => x.nd = e.1 ∧ x.n = e.2.length ∧ (∀ b ∈ fpo x.A, p b) ∧ ∃ xs : List XC, xs.length = e.2.length ∧ RdK enc w x.A xs ∧ ∀ i (h1 : i < xs.length) (h2 : i < e.2.length), ExP enc p n w xs[i] e.2[i]
def anyB : Nat → Prop := fun _ => True
theorem ExP.mono {enc : XC → List Value} {p q : Nat → Prop} (hpq : ∀ b, p b → q b) : ∀ {n : Nat} {w : World} {x : XC} {e : TX n}, ExP enc p n w x e → ExP enc q n w x e
  | 0, _, _, _, h => h.elim
  | _ + 1, _, _, _, ⟨h1, h2, h3, xs, h4, h5, h6⟩ => ⟨h1, h2, fun b hb => hpq b (h3 b hb), xs, h4, h5, fun i a b => ExP.mono hpq (h6 i a b)⟩
theorem ExP.any {enc : XC → List Value} {p : Nat → Prop} {n : Nat} {w : World} {x : XC} {e : TX n} (h : ExP enc p n w x e) : ExP enc anyB n w x e := h.mono fun _ _ => trivial
theorem ExP.touch {enc : XC → List Value} {p : Nat → Prop} {fp : List Nat} : ∀ {n : Nat} {w w' : World} {x : XC} {e : TX n}, ExP enc p n w x e → Touch fp w w' → (∀ b ∈ fp, ¬ p b) → ExP enc p n w' x e
  | 0, _, _, _, _, h, _, _ => h.elim
  | _ + 1, _, _, _, _, ⟨h1, h2, h3, xs, h4, h5, h6⟩, ht, hp => ⟨h1, h2, h3, xs, h4, RdK.touch h5 ht (fun b hb hm => hp b hm (h3 b hb)), fun i a b => ExP.touch (h6 i a b) ht hp⟩
theorem ExP.touch0 {enc : XC → List Value} {p : Nat → Prop} {n : Nat} {w w' : World} {x : XC} {e : TX n} (h : ExP enc p n w x e) (ht : Touch [] w w') : ExP enc p n w' x e := h.touch ht (by simp)
/-- the Args of an expression lie so -/
def ArgsP (enc : XC → List Value) (p : Nat → Prop) (n : Nat) (w : World) (A : Option Addr) (args : List (TX n)) : Prop :=
  ∃ xs : List XC, xs.length = args.length ∧ RdK enc w A xs ∧ ∀ i (h1 : i < xs.length) (h2 : i < args.length), ExP enc p n w xs[i] args[i]
theorem ArgsP.touch0 {enc : XC → List Value} {p : Nat → Prop} {n : Nat} {w w' : World} {A : Option Addr} {args : List (TX n)} (h : ArgsP enc p n w A args) (ht : Touch [] w w') : ArgsP enc p n w' A args := by
  obtain ⟨xs, h1, h2, h3⟩ := h
  exact ⟨xs, h1, RdK.touch0 h2 ht, fun i a b => (h3 i a b).touch0 ht⟩
theorem ArgsP.nil (enc : XC → List Value) (p : Nat → Prop) (n : Nat) (w : World) (A : Option Addr) : ArgsP enc p n w A [] := ⟨[], rfl, RdK.nil _ _ _, fun i h => absurd h (by simp)⟩
/-- the cells of one of the Args -/
theorem ArgsP.at_ {enc : XC → List Value} (hE : ∀ x, (enc x).length = 7) {p : Nat → Prop} {n : Nat} {w : World} {A : Option Addr} {args : List (TX n)} (h : ArgsP enc p n w A args) (i : Nat) (hi : i < args.length) :
    ∃ ad b off x, A = some ad ∧ ad.add (i * 7) = ⟨b, off, none⟩ ∧ ExP enc p n w x args[i] ∧ ∀ j u, (enc x)[j]? = some u → w.cell? ⟨b, off + j, none⟩ = some u := by
  obtain ⟨xs, h1, h2, h3⟩ := h
  obtain ⟨ad, b, off, e1, e2, _, e3⟩ := RdK.at_ h2 7 hE (by omega) i (by omega)
  exact ⟨ad, b, off, xs[i], e1, e2, h3 i (by omega) hi, e3⟩
theorem ExP.args {enc : XC → List Value} {p : Nat → Prop} {n : Nat} {w : World} {x : XC} {e : TX (n + 1)} (h : ExP enc p (n + 1) w x e) : x.nd = e.1 ∧ x.n = e.2.length ∧ ArgsP enc p n w x.A e.2 := ⟨h.1, h.2.1, h.2.2.2⟩

/-- a thing of each expression holds throughout -/
def allX (q : ND → Prop) : (n : Nat) → TX n → Prop
  | 0, _ => True
  | n + 1, e => q e.1 ∧ ∀ a ∈ e.2, allX q n a
/-- how many expressions -/
def sizeX : (n : Nat) → TX n → Nat
  | 0, _ => 0
  | n + 1, e => 1 + (e.2.map (sizeX n)).sum
/-- .. in a row -/
def sumX (n : Nat) (l : List (TX n)) : Nat := (l.map (sizeX n)).sum
theorem sumX_snoc (n : Nat) (l : List (TX n)) (k : Nat) (h : k < l.length) : sumX n (l.take (k + 1)) = sumX n (l.take k) + sizeX n l[k] := by
  unfold sumX
  rw [List.take_succ_eq_append_getElem h, List.map_append, List.sum_append]; simp
theorem sizeX_succ (n : Nat) (e : TX (n + 1)) : sizeX (n + 1) e = 1 + sumX n e.2 := rfl
theorem sizeX_pos : ∀ (n : Nat) (e : TX n), 1 ≤ sizeX n e
  | 0, e => e.elim
  | n + 1, e => by unfold sizeX; omega
theorem len_le_sum (n : Nat) (l : List (TX n)) : l.length ≤ sumX n l := by
  unfold sumX
  induction l with
  | nil => simp
  | cons a l ih => have := sizeX_pos n a; simp; omega
theorem sum_take_le (n : Nat) (l : List (TX n)) (k : Nat) : sumX n (l.take k) ≤ sumX n l := by
  unfold sumX
  induction l generalizing k with
  | nil => simp
  | cons a l ih => cases k with
    | zero => simp
    | succ k => have := ih k; rw [List.take_succ_cons, List.map_cons, List.map_cons, List.sum_cons, List.sum_cons]; omega
theorem size_mem {n : Nat} {l : List (TX n)} {a : TX n} (h : a ∈ l) : sizeX n a ≤ sumX n l := by
  unfold sumX
  induction l with
  | nil => cases h
  | cons b l ih =>
    rcases List.mem_cons.1 h with rfl | h
    · simp
    · have := ih h; simp; omega
/-- what is handed over -/
def XC.val (x : XC) : Value := .agg #[.int .i64 x.nd.kind, .string x.nd.name, .int .i64 x.nd.v.kind, .int .i64 x.nd.v.num, .string x.nd.v.text, .string x.nd.op, .slice x.A x.n x.c]
def XC.valR (x : XC) : Value := .agg #[.int .i64 x.nd.kind, .string x.nd.name, .string x.nd.op, .int .i64 x.nd.v.kind, .int .i64 x.nd.v.num, .string x.nd.v.text, .slice x.A x.n x.c]
/-- are both one? -/
def eqN (a b : ND) : Bool := decide (a.kind = b.kind) && (decide (a.name = b.name) && ((decide (a.v.kind = b.v.kind) && (decide (a.v.num = b.v.num) && decide (a.v.text = b.v.text))) && decide (a.op = b.op)))
def eqL {α : Type} (f : α → α → Bool) : List α → List α → Bool
  | [], [] => true
  | a :: r, b :: s => f a b && eqL f r s
  | _, _ => false
def eqX : (n : Nat) → TX n → TX n → Bool
  | 0, _, _ => true
  | n + 1, a, b => eqN a.1 b.1 && eqL (eqX n) a.2 b.2
theorem eqN_iff (a b : ND) : eqN a b = true ↔ a = b := by
  obtain ⟨ak, an, ⟨x1, x2, x3⟩, ao⟩ := a
  obtain ⟨bk, bn, ⟨y1, y2, y3⟩, bo⟩ := b
  simp [eqN]
theorem eqL_iff {α : Type} {f : α → α → Bool} (hf : ∀ a b, f a b = true ↔ a = b) : ∀ l r : List α, eqL f l r = true ↔ l = r
  | [], [] => by simp [eqL]
  | [], _ :: _ => by simp [eqL]
  | _ :: _, [] => by simp [eqL]
  | a :: l, b :: r => by simp [eqL, hf, eqL_iff hf l r]
theorem eqX_iff : ∀ (n : Nat) (a b : TX n), eqX n a b = true ↔ a = b
  | 0, a, _ => a.elim
  | n + 1, a, b => by
    obtain ⟨d, l⟩ := a
    obtain ⟨f, r⟩ := b
    show (eqN d f && eqL (eqX n) l r) = true ↔ _
    rw [Bool.and_eq_true, eqN_iff, eqL_iff (eqX_iff n)]
    constructor
    · rintro ⟨rfl, rfl⟩; rfl
    · intro h; cases h; exact ⟨rfl, rfl⟩
end Go.Proofs.YtafoklilkdnepaaGreatDoor

/- Rows of numbers as they lie in memory. No program's function. -/
namespace Go.Proofs.YtafoklilkdnepaaGreatDoor
open Go.RowKit

/-- a number's cell -/
def inE (n : Int) : List Value := [.int .i64 n]
theorem inE_length (n : Int) : (inE n).length = 1 := rfl
theorem inE_one (n : Int) : ∀ u ∈ inE n, u.oneCell' = true := by
  intro u hu
  obtain rfl : u = .int .i64 n := by simpa [inE] using hu
  rfl
theorem RdKI.at_ {w : World} {A : Option Addr} {l : List Int} (h : RdK inE w A l) (i : Nat) (hi : i < l.length) : ∃ ad, A = some ad ∧ w.cell? (ad.add i) = some (.int .i64 l[i]) := by
  obtain ⟨ad, b, off, h1, h2, _, h3⟩ := RdK.at_ h 1 inE_length (by omega) i hi
  rw [Nat.mul_one] at h2
  exact ⟨ad, h1, by rw [h2]; exact h3 0 _ rfl⟩
end Go.Proofs.YtafoklilkdnepaaGreatDoor

/- The contracts of Go library functions at this translation, laid in plain words by the tool of the kit; no condition. -/
namespace Go.Proofs
open Go.Shelf
def Tryz.lays106_ren : Go.Shelf.Ren := ⟨fun | 106 => 157 | 213 => 190 | 265 => 206 | n => n, fun | 9 => 9 | 3 => 3 | n => n, fun | n => n⟩
theorem Tryz.lays106 : Go.Proofs.Lays.n106 Tryz.prog Tryz.lays106_ren := {
  mixed := by kernel_rfl
  f106 := Tryz.func157.trans (congrArg some (by kernel_rfl))
  f213 := Tryz.func190.trans (congrArg some (by kernel_rfl))
  f265 := Tryz.func206.trans (congrArg some (by kernel_rfl))
  t3 := Tryz.underlying3
  a3 := Tryz.isAgg3
  z3 := Tryz.sizeOf3
  v3 := Tryz.zeroValue3
  t9 := Tryz.underlying9
  a9 := Tryz.isAgg9
  z9 := Tryz.sizeOf9
  v9 := Tryz.zeroValue9 }
open Go.RowKit in
/-- strings.Compare: "Compare returns an integer comparing two strings lexicographically. The result will be 0 if a == b, -1 if a < b, and +1 if a > b.": IT RETURNS 'Lib.compareBytes a b'; the world is as it was. (LAID: no walk: one application.) -/
theorem Tryz.strings_Compare (a b : ByteArray) (w : World) :
    Calls Tryz.prog 157 #[.string a, .string b] w fun e w' => e = .returned (.int .i64 (Lib.compareBytes a.data.toList b.data.toList)) ∧ w' = w := Any.strings_Compare Tryz.lays106 a b w
def Tryz.lays122_ren : Go.Shelf.Ren := ⟨fun | 122 => 156 | 215 => 189 | n => n, fun | 3 => 3 | 4 => 4 | n => n, fun | n => n⟩
theorem Tryz.lays122 : Go.Proofs.Lays.n122 Tryz.prog Tryz.lays122_ren := {
  mixed := by kernel_rfl
  f122 := Tryz.func156.trans (congrArg some (by kernel_rfl))
  f215 := Tryz.func189.trans (congrArg some (by kernel_rfl))
  t3 := Tryz.underlying3
  a3 := Tryz.isAgg3
  z3 := Tryz.sizeOf3
  v3 := Tryz.zeroValue3
  t4 := Tryz.underlying4
  a4 := Tryz.isAgg4
  z4 := Tryz.sizeOf4
  v4 := Tryz.zeroValue4 }
open Go.RowKit in
/-- cmp.Compare at int: "Compare returns -1 if x is less than y, 0 if x equals y, +1 if x is greater than y.": IT RETURNS 'Lib.compareInt x y'; the world is as it was. (LAID: no walk: one application.) -/
theorem Tryz.cmp_Compare_int (x y : Int) (w : World) :
    Calls Tryz.prog 156 #[.int .i64 x, .int .i64 y] w fun e w' => e = .returned (.int .i64 (Lib.compareInt x y)) ∧ w' = w := Any.cmp_Compare_int Tryz.lays122 x y w
end Go.Proofs

/- The order of values and of rows: cmp.Or, value.Value.Cmp. For every values. -/
namespace Go.Proofs.YtafoklilkdnepaaGreatDoor
open Go.RowKit

/-- the first that is not 0 -/
def orV : List Int → Int
  | [] => 0
  | x :: r => if x = 0 then orV r else x
def cmpVV (a b : VD) : Int := orV [Lib.compareInt a.kind b.kind, Lib.compareInt a.num b.num, Lib.compareBytes a.text.data.toList b.text.data.toList]
def cmpRV : List VD → List VD → Int
  | [], [] => 0
  | [], _ :: _ => -1
  | _ :: _, [] => 1
  | a :: l, b :: r => if cmpVV a b = 0 then cmpRV l r else cmpVV a b

theorem compareInt_neg (x y : Int) : Lib.compareInt y x = -Lib.compareInt x y := by
  unfold Lib.compareInt
  split <;> split <;> (try split) <;> omega
theorem compareInt_b (x y : Int) : -1 ≤ Lib.compareInt x y ∧ Lib.compareInt x y ≤ 1 := by
  unfold Lib.compareInt
  split <;> (try split) <;> omega
theorem compareBytes_neg : ∀ (x y : List UInt8), Lib.compareBytes y x = -Lib.compareBytes x y
  | [], [] => rfl
  | [], _ :: _ => rfl
  | _ :: _, [] => rfl
  | a :: l, b :: r => by
    unfold Lib.compareBytes
    by_cases h1 : a < b
    · have h2 : ¬ b < a := by rw [UInt8.lt_iff_toNat_lt] at h1 ⊢; omega
      rw [if_neg h2, if_pos h1, if_pos h1]; rfl
    · by_cases h2 : b < a
      · rw [if_pos h2, if_neg h1, if_pos h2]
      · rw [if_neg h2, if_neg h1, if_neg h1, if_neg h2]; exact compareBytes_neg l r
theorem compareBytes_b : ∀ (x y : List UInt8), -1 ≤ Lib.compareBytes x y ∧ Lib.compareBytes x y ≤ 1
  | [], [] => ⟨by decide, by decide⟩
  | [], _ :: _ => ⟨Int.le_refl (-1), show (-1 : Int) ≤ 1 by decide⟩
  | _ :: _, [] => ⟨show (-1 : Int) ≤ 1 by decide, Int.le_refl 1⟩
  | a :: l, b :: r => by
    unfold Lib.compareBytes
    split
    · omega
    · split
      · omega
      · exact compareBytes_b l r
theorem cmpVV_neg (a b : VD) : cmpVV b a = -cmpVV a b := by
  unfold cmpVV
  rw [compareInt_neg a.kind, compareInt_neg a.num, compareBytes_neg a.text.data.toList]
  generalize Lib.compareInt a.kind b.kind = x
  generalize Lib.compareInt a.num b.num = y
  generalize Lib.compareBytes a.text.data.toList b.text.data.toList = z
  simp only [orV]
  by_cases h1 : x = 0 <;> by_cases h2 : y = 0 <;> by_cases h3 : z = 0 <;> simp [h1, h2, h3]
theorem cmpVV_b (a b : VD) : -1 ≤ cmpVV a b ∧ cmpVV a b ≤ 1 := by
  have h1 := compareInt_b a.kind b.kind
  have h2 := compareInt_b a.num b.num
  have h3 := compareBytes_b a.text.data.toList b.text.data.toList
  unfold cmpVV
  simp only [orV]
  split
  · split
    · split <;> omega
    · omega
  · omega
theorem cmpRV_neg : ∀ (l r : List VD), cmpRV r l = -cmpRV l r
  | [], [] => rfl
  | [], _ :: _ => rfl
  | _ :: _, [] => rfl
  | a :: l, b :: r => by
    unfold cmpRV
    rw [cmpVV_neg a b]
    by_cases h : cmpVV a b = 0
    · rw [if_pos (by omega), if_pos h]; exact cmpRV_neg l r
    · rw [if_neg (by omega), if_neg h]
theorem cmpRV_b : ∀ (l r : List VD), -1 ≤ cmpRV l r ∧ cmpRV l r ≤ 1
  | [], [] => ⟨by decide, by decide⟩
  | [], _ :: _ => ⟨Int.le_refl (-1), show (-1 : Int) ≤ 1 by decide⟩
  | _ :: _, [] => ⟨show (-1 : Int) ≤ 1 by decide, Int.le_refl 1⟩
  | a :: l, b :: r => by
    unfold cmpRV
    split
    · exact cmpRV_b l r
    · exact cmpVV_b a b

set_option maxHeartbeats 800000 in
theorem or_any (A : Option Addr) (cap n : Nat) (l : List Int) (hn : l.length = n) (w : World) (h : RdK inE w A l) (hl : n ≤ 140737000000000) :
    Calls Tryz.prog 155 #[.slice A n cap] w fun e w' => e = .returned (.int .i64 (orV l)) ∧ w' = w := by
  subst hn
  go_enter Tryz.func155, Tryz.ntmps155
  go_wp2
  go_loopw [8] (fun i wr => ∃ k : Nat, k ≤ l.length ∧ i = .int .i64 k ∧ Hid (orV l = orV (l.drop k)) ∧ wr = w) (fun i _ => l.length - (intOf i).toNat)
  case atStart => exact ⟨0, by omega, rfl, Lib.hid rfl, rfl⟩
  case round =>
    obtain ⟨k, hk, rfl, Ho, rfl⟩ := hrel
    by_cases hlt : k < l.length
    · obtain ⟨ad, rfl, c0⟩ := RdKI.at_ h k hlt
      have hst : orV (l.drop k) = if l[k] = 0 then orV (l.drop (k + 1)) else l[k] := by rw [List.drop_eq_getElem_cons hlt]; rfl
      obtain ⟨x, hx⟩ : ∃ x, x = l[k] := ⟨_, rfl⟩
      rw [← hx] at hst c0
      have Hst := Lib.hid hst
      clear hst hx
      by_cases h0 : x = 0
      · subst h0
        have Hq := Lib.hid (show orV l = orV (l.drop (k + 1)) by rw [Ho.out, Hst.out, if_pos rfl])
        go_wp2
        go_roundw
        case rel => exact ⟨k + 1, by omega, by go_num, Hq, trivial⟩
        case measure => simp [intOf]; omega
      · have Hq := Lib.hid (show orV l = x by rw [Ho.out, Hst.out, if_neg h0])
        have hq : (x == 0) = false := by rw [beq_eq_false_iff_ne]; exact h0
        have hq' : (x != 0) = true := by rw [bne, hq]; rfl
        go_wp2
        go_ret
        exact ⟨ret_int Hq.out.symm, rfl⟩
    · obtain rfl : k = l.length := by omega
      have Hq := Lib.hid (show orV l = 0 by rw [Ho.out, List.drop_length]; rfl)
      go_wp2
      go_ret
      exact ⟨ret_int Hq.out.symm, rfl⟩

theorem wp_still_tail' {P : Program} {id : Nat} {Q : Exit → Act → World → Prop} {a : Act} {w : World} {l : List Oper} (n : Nat) (hm : P.follows .mixedOrders = true) (hB : Region.lexTailB .any l.toArray n = true)
    (h : ∀ w2, w2 = w.drew → wpStill P l.toArray w2 (fun a' => wpList P l.toArray Q (l.drop n) a' w2) (l.take n) a) : (Code.region id l.toArray true).wp P Q a w :=
  wp_region_still_tail n hm hB (h _ rfl)

set_option maxRecDepth 20000 in
set_option maxHeartbeats 1600000 in
theorem cmpVal_any (a b : VD) (w : World) :
    Calls Tryz.prog 112 #[a.val, b.val] w fun e w' => e = .returned (.int .i64 (cmpVV a b)) ∧ Touch [] w w' := by
  obtain ⟨k1, n1, s1⟩ := a
  obtain ⟨k2, n2, s2⟩ := b
  have h1 := fun w' => Tryz.cmp_Compare_int k1 k2 w'
  have h2 := fun w' => Tryz.cmp_Compare_int n1 n2 w'
  have h3 := fun w' => Tryz.strings_Compare s1 s2 w'
  have hc : cmpVV ⟨k1, n1, s1⟩ ⟨k2, n2, s2⟩ = orV [Lib.compareInt k1 k2, Lib.compareInt n1 n2, Lib.compareBytes s1.data.toList s2.data.toList] := rfl
  rw [hc]
  obtain ⟨x, hx⟩ : ∃ x, x = Lib.compareInt k1 k2 := ⟨_, rfl⟩
  obtain ⟨y, hy⟩ : ∃ y, y = Lib.compareInt n1 n2 := ⟨_, rfl⟩
  obtain ⟨z, hz⟩ : ∃ z, z = Lib.compareBytes s1.data.toList s2.data.toList := ⟨_, rfl⟩
  rw [← hx, ← hy, ← hz]
  rw [← hx] at h1
  rw [← hy] at h2
  rw [← hz] at h3
  have H1 := Lib.hid h1; have H2 := Lib.hid h2; have H3 := Lib.hid h3
  have t0 := (((Touch.refl [] w).alloc (.cells #[.int .i64 k1, .int .i64 n1, .string s1] 31)).alloc (.cells #[.int .i64 k2, .int .i64 n2, .string s2] 31))
  clear h1 h2 h3 hx hy hz hc
  dsimp only [VD.val]
  go_enter Tryz.func112, Tryz.ntmps112
  go_wp2_with fail
  refine wp_still_tail' 15 (by kernel_rfl) (by kernel_rfl) ?_
  intro w2 hw2
  have ta := (((Touch.refl [] (w.alloc (.cells #[.int .i64 k1, .int .i64 n1, .string s1] 31))).alloc (.cells #[.int .i64 k2, .int .i64 n2, .string s2] 31))).drew
  have tb := ((Touch.refl [] ((w.alloc (.cells #[.int .i64 k1, .int .i64 n1, .string s1] 31)).alloc (.cells #[.int .i64 k2, .int .i64 n2, .string s2] 31)))).drew
  have t2 := t0.drew
  rw [← hw2] at ta tb t2
  have hb1 := heap_alloc_new w (.cells #[.int .i64 k1, .int .i64 n1, .string s1] 31)
  have hb2 := heap_alloc_new (w.alloc (.cells #[.int .i64 k1, .int .i64 n1, .string s1] 31)) (.cells #[.int .i64 k2, .int .i64 n2, .string s2] 31)
  rw [World.size_alloc] at hb2
  have e0 := ta.cell (cell_blk hb1 (i := 0) rfl) (by simp)
  have e1 := ta.cell (cell_blk hb1 (i := 1) rfl) (by simp)
  have e2 := ta.cell (cell_blk hb1 (i := 2) rfl) (by simp)
  have f0 := tb.cell (cell_blk hb2 (i := 0) rfl) (by simp)
  have f1 := tb.cell (cell_blk hb2 (i := 1) rfl) (by simp)
  have f2 := tb.cell (cell_blk hb2 (i := 2) rfl) (by simp)
  clear hb1 hb2 ta tb t0 hw2
  simp only [List.take_succ_cons, List.take_zero, List.drop_succ_cons, List.drop_zero]
  repeat still_step
  still_call (H1.out _)
  repeat still_step
  still_call (H2.out _)
  repeat still_step
  still_call (H3.out _)
  refine wpStill_nil ?_
  have r3 : RdK inE (w2.alloc (.cells #[.int .i64 x, .int .i64 y, .int .i64 z] 3)) (some ⟨w2.heap.size, 0, none⟩) [x, y, z] := RdK.row w2 3 [x, y, z] _ rfl
  go_wp2_with fail
  refine (or_any _ 3 3 [x, y, z] rfl _ r3 (by omega)).mono ?_
  rintro e w3 ⟨rfl, rfl⟩
  go_wp2
  go_ret
  exact ⟨rfl, t2.alloc _⟩
end Go.Proofs.YtafoklilkdnepaaGreatDoor

/- A schema in plain words: names, checks, texts, what is read back. No program. -/
namespace Go.Proofs.YtafoklilkdnepaaGreatDoor

/-- a column -/
structure CD where
  name : ByteArray
  typ : Int

def letB (c : UInt8) : Bool := decide (97 ≤ c.toNat) && decide (c.toNat ≤ 122)
def innB (c : UInt8) : Bool := letB c || (decide (c.toNat = 95) || (decide (48 ≤ c.toNat) && decide (c.toNat ≤ 57)))
/-- is it a right name? -/
def nameV (s : List UInt8) : Bool := match s with
  | [] => false
  | c :: _ => decide (s.length ≤ 16) && (letB c && s.all innB)
/-- the error of a column behind others -/
def errC (pre : List CD) (c : CD) : Int :=
  if nameV c.name.data.toList = false then 13 else if c.typ ≠ 1 ∧ c.typ ≠ 2 then 12 else if (pre.any fun d => decide (d.name = c.name)) = true then 14 else 0
def chkL (pre : List CD) : List CD → Int
  | [] => 0
  | c :: r => if errC pre c = 0 then chkL (pre ++ [c]) r else errC pre c
def checkV (cs : List CD) : Int := if cs.length < 1 ∨ 16 < cs.length then 31 else chkL [] cs

theorem chk_step {cs : List CD} {k : Nat} (h : k < cs.length) : chkL (cs.take k) (cs.drop k) = if errC (cs.take k) cs[k] = 0 then chkL (cs.take (k + 1)) (cs.drop (k + 1)) else errC (cs.take k) cs[k] := by
  rw [List.drop_eq_getElem_cons h]
  show (if _ then _ else _) = _
  rw [List.take_succ_eq_append_getElem h]
theorem chk_zero {cs : List CD} {k : Nat} (h : chkL (cs.take k) (cs.drop k) = 0) (j : Nat) (h1 : k ≤ j) (h2 : j < cs.length) : errC (cs.take j) cs[j] = 0 := by
  have hk : k < cs.length := by omega
  rw [chk_step hk] at h
  by_cases he : errC (cs.take k) cs[k] = 0
  · rw [if_pos he] at h
    by_cases hj : j = k
    · subst hj; exact he
    · exact chk_zero h j (by omega) h2
  · rw [if_neg he] at h; exact absurd h he
termination_by cs.length - k
theorem errC_zero {pre : List CD} {c : CD} (h : errC pre c = 0) : nameV c.name.data.toList = true ∧ (c.typ = 1 ∨ c.typ = 2) ∧ ∀ d ∈ pre, d.name ≠ c.name := by
  unfold errC at h
  split at h
  · cases h
  · rename_i h1
    split at h
    · cases h
    · rename_i h2
      split at h
      · cases h
      · rename_i h3
        refine ⟨by simpa using h1, by omega, fun d hd he => h3 ?_⟩
        rw [List.any_eq_true]
        exact ⟨d, hd, by simpa using he⟩
theorem check_zero {cs : List CD} (h : checkV cs = 0) : 1 ≤ cs.length ∧ cs.length ≤ 16 ∧ ∀ j (hj : j < cs.length), nameV cs[j].name.data.toList = true ∧ (cs[j].typ = 1 ∨ cs[j].typ = 2) := by
  unfold checkV at h
  split at h
  · cases h
  · refine ⟨by omega, by omega, fun j hj => ?_⟩
    have := errC_zero (chk_zero (cs := cs) (k := 0) (by simpa using h) j (by omega) hj)
    exact ⟨this.1, this.2.1⟩
theorem errC_cases (pre : List CD) (c : CD) : errC pre c = 0 ∨ errC pre c = 12 ∨ errC pre c = 13 ∨ errC pre c = 14 := by
  unfold errC
  split
  · exact .inr (.inr (.inl rfl))
  · split
    · exact .inr (.inl rfl)
    · split
      · exact .inr (.inr (.inr rfl))
      · exact .inl rfl
theorem chkL_cases (pre cs : List CD) : chkL pre cs = 0 ∨ chkL pre cs = 12 ∨ chkL pre cs = 13 ∨ chkL pre cs = 14 := by
  induction cs generalizing pre with
  | nil => exact .inl rfl
  | cons c r ih =>
    have e : chkL pre (c :: r) = if errC pre c = 0 then chkL (pre ++ [c]) r else errC pre c := rfl
    rw [e]
    split
    · exact ih _
    · rcases errC_cases pre c with h | h
      · contradiction
      · exact .inr h
theorem checkV_cases (cs : List CD) : checkV cs = 0 ∨ (12 ≤ checkV cs ∧ checkV cs ≤ 31) := by
  unfold checkV
  split
  · exact .inr (by omega)
  · rcases chkL_cases [] cs with h | h
    · exact .inl h
    · right; omega

/-- the word of a type -/
def wordV (t : Int) : List UInt8 := if t = 1 then [105, 110, 116] else [116, 101, 120, 116]
def partV (c : CD) : List UInt8 := c.name.data.toList ++ 32 :: wordV c.typ
/-- the text of a right schema -/
def textV (cs : List CD) : List UInt8 := 40 :: (Lib.join (cs.map partV) [44, 32] ++ [41])
def showV (cs : List CD) : List UInt8 := if checkV cs = 0 then textV cs else []

/-- the pieces between ", " -/
def splitF (sep : List UInt8) : Nat → List UInt8 → List (List UInt8)
  | 0, s => [s]
  | f + 1, s => if Lib.index s sep = -1 then [s] else s.take (Lib.index s sep).toNat :: splitF sep f (s.drop ((Lib.index s sep).toNat + sep.length))
def splitV (s : List UInt8) (sep : List UInt8) : List (List UInt8) := splitF sep s.length s
/-- the type of a word -/
def typV (w : List UInt8) : Int := if w = [105, 110, 116] then 1 else if w = [116, 101, 120, 116] then 2 else 0
def colV (p : List UInt8) : CD := let x := Lib.cut p [32]; ⟨⟨x.1.toArray⟩, typV x.2.1⟩
/-- between the brackets -/
def bodyV (t : List UInt8) : List UInt8 := Lib.trimSuffix (Lib.trimPrefix t [40]) [41]
def colsV (t : List UInt8) : List CD := (splitV (bodyV t) [44, 32]).map colV
/-- the schema of a text -/
def parseV (t : List UInt8) : Option (List CD) := if t = [] ∨ showV (colsV t) ≠ t then none else some (colsV t)
end Go.Proofs.YtafoklilkdnepaaGreatDoor

/- schema.letter, inner, Name; bywashref02.Name: is it a right name? For every text. -/
namespace Go.Proofs.YtafoklilkdnepaaGreatDoor
open Go.RowKit

theorem S_get (t : List UInt8) (k : Nat) (h : k < (S t).size) : (S t)[k] = t[k]'(by rwa [S_size] at h) := rfl

theorem letter_any (x : UInt8) (w : World) : Calls Tryz.prog 104 #[.int .u8 x.toNat] w fun e w' => e = .returned (.bool (letB x)) ∧ w = w' := by
  have hx := x.toNat_lt
  go_enter Tryz.func104, Tryz.ntmps104
  go_wp2
  all_goals
    go_ret
    exact ⟨ret_bool (by rw [Bool.eq_iff_iff]; simp [letB]; omega), rfl⟩

theorem inner_any (x : UInt8) (w : World) : Calls Tryz.prog 105 #[.int .u8 x.toNat] w fun e w' => e = .returned (.bool (innB x)) ∧ w = w' := by
  have hx := x.toNat_lt
  rcases hl : letB x with _ | _
  · have hc := letter_any x w
    rw [hl] at hc
    have Hc := Lib.hid hc; have Hl := Lib.hid hl; clear hc hl
    go_enter Tryz.func105, Tryz.ntmps105
    go_wp2_with (go_at_call 104; refine Hc.out.mono ?_; rintro e w' ⟨rfl, rfl⟩)
    all_goals
      go_ret
      exact ⟨ret_bool (by rw [Bool.eq_iff_iff]; simp [innB, Hl.out]; omega), rfl⟩
  · have hc := letter_any x w
    rw [hl] at hc
    have Hc := Lib.hid hc; have Hl := Lib.hid hl; clear hc hl
    go_enter Tryz.func105, Tryz.ntmps105
    go_wp2_with (go_at_call 104; refine Hc.out.mono ?_; rintro e w' ⟨rfl, rfl⟩)
    all_goals
      go_ret
      exact ⟨ret_bool (by rw [Bool.eq_iff_iff]; simp [innB, Hl.out]), rfl⟩

theorem nameV_cons (c : UInt8) (r : List UInt8) : nameV (c :: r) = (decide ((c :: r).length ≤ 16) && (letB c && (c :: r).all innB)) := rfl
theorem letB_int (x : UInt8) : letB x = (decide (97 ≤ (x.toNat : Int)) && decide ((x.toNat : Int) ≤ 122)) := by
  unfold letB
  congr 1 <;> exact decide_eq_decide.2 (by omega)
theorem innB_int (x : UInt8) : innB x = (letB x || (decide ((x.toNat : Int) = 95) || (decide (48 ≤ (x.toNat : Int)) && decide ((x.toNat : Int) ≤ 57)))) := by
  unfold innB
  congr 1; congr 1
  · exact decide_eq_decide.2 (by omega)
  · congr 1 <;> exact decide_eq_decide.2 (by omega)
/-- a byte that spoils a name -/
theorem nameV_bad {t : List UInt8} {k : Nat} (h : k < t.length) (hb : innB t[k] = false) : nameV t = false := by
  cases t with
  | nil => rfl
  | cons c r =>
    have : (c :: r).all innB = false := by
      rw [List.all_eq_false]
      exact ⟨_, List.getElem_mem h, by rw [hb]; simp⟩
    rw [nameV_cons, this, Bool.and_false, Bool.and_false]

set_option maxRecDepth 20000 in
set_option maxHeartbeats 1600000 in
theorem name_any (t : List UInt8) (hs : t.length ≤ 140737000000000) (w : World) :
    Calls Tryz.prog 71 #[.string (S t)] w fun e w' => e = .returned (.bool (nameV t)) ∧ Touch [] w w' := by
  have hsz := S_size t
  by_cases h0 : t = []
  · subst h0
    go_enter Tryz.func71, Tryz.ntmps71
    have h1 : (S []).toList = [] := by rw [S_list]
    go_wp2
    go_ret
    exact ⟨rfl, Touch.refl _ _⟩
  · have hl0 : 0 < t.length := List.length_pos_iff.2 h0
    have hq : (S t).toList.isEmpty = false := by rw [S_list]; cases t; exact absurd rfl h0; rfl
    have hq2 : ((S t).toList == []) = false := by rw [S_list]; cases t; exact absurd rfl h0; rfl
    have hq3 : ((S t).toList = []) = False := eq_false (by rw [S_list]; exact h0)
    by_cases h16 : 16 < t.length
    · have hn : nameV t = false := by
        cases t with
        | nil => rfl
        | cons c r => rw [nameV_cons, decide_eq_false (by omega)]; rfl
      have Hn := Lib.hid hn; clear hn h0
      go_enter Tryz.func71, Tryz.ntmps71
      go_wp2
      go_ret
      exact ⟨ret_bool Hn.out.symm, Touch.refl _ _⟩
    have hg0 := S_get t 0 (by rw [hsz]; exact hl0)
    obtain ⟨x, hx⟩ : ∃ x, x = t[0] := ⟨_, rfl⟩
    rw [← hx] at hg0
    have Hx := Lib.hid hx; clear hx
    have hc := letter_any x w
    rcases hl : letB x with _ | _
    · have hn : nameV t = false := by
        cases t with
        | nil => rfl
        | cons c r =>
          have : x = c := Hx.out
          rw [nameV_cons, ← this, hl, Bool.false_and, Bool.and_false]
      rw [hl] at hc
      have Hn := Lib.hid hn; have Hc := Lib.hid hc; clear hn h0 hl hc
      go_enter Tryz.func71, Tryz.ntmps71
      go_wp2_with (go_at_call 104; refine Hc.out.mono ?_; rintro e w' ⟨rfl, rfl⟩)
      go_ret
      exact ⟨ret_bool Hn.out.symm, Touch.refl _ _⟩
    · rw [hl] at hc
      have Hc := Lib.hid hc; have Hl := Lib.hid hl; clear hl hc h0
      go_enter Tryz.func71, Tryz.ntmps71
      have hconv := run_bytes_of t w
      have hr := rd_bytes w t
      have ht := touch_bytes w t
      obtain ⟨W, hW⟩ : ∃ W, W = Lib.bytesWorld w 5 (S t) := ⟨_, rfl⟩
      rw [← hW] at hconv hr ht
      clear hW
      go_wp2_with (go_at_call 104; refine Hc.out.mono ?_; rintro e w' ⟨rfl, rfl⟩)
      clear hconv Hc hg0 hq hq2 hq3
      go_loop [21] (fun i => ∃ k : Nat, k ≤ t.length ∧ i = .int .i64 k ∧ Hid ((t.take k).all innB = true)) (fun i => t.length - (intOf i).toNat)
      case atStart => exact ⟨0, by omega, rfl, Lib.hid rfl⟩
      case round =>
        obtain ⟨k, hk, rfl, hall⟩ := hrel
        by_cases hlt : k < t.length
        · obtain ⟨ad, e1, hcell⟩ := hr.at_ k hlt
          obtain rfl : ⟨w.heap.size, 0, none⟩ = ad := by injection e1
          obtain ⟨y, hy⟩ : ∃ y, y = t[k] := ⟨_, rfl⟩
          have hadd : (⟨w.heap.size, 0, none⟩ : Addr).add k = ⟨w.heap.size, k, none⟩ := by unfold Addr.add; split <;> simp_all
          rw [← hy, hadd] at hcell
          have Hy := Lib.hid hy; clear hy e1 hadd
          have hc := inner_any y W
          rcases hl : innB y with _ | _
          · rw [hl] at hc
            have Hc := Lib.hid hc; clear hc
            have Hn := Lib.hid (nameV_bad hlt (by rw [← Hy.out]; exact hl)); clear hl
            go_wp2_with (go_at_call 105; refine Hc.out.mono ?_; rintro e w' ⟨rfl, rfl⟩)
            go_ret
            exact ⟨ret_bool Hn.out.symm, ht⟩
          · rw [hl] at hc
            have Hc := Lib.hid hc; have Hl2 := Lib.hid hl; clear hc hl
            go_wp2_with (go_at_call 105; refine Hc.out.mono ?_; rintro e w' ⟨rfl, rfl⟩)
            go_round
            case rel => exact ⟨k + 1, by omega, by go_num, Lib.hid (by
              rw [List.take_succ_eq_append_getElem hlt, List.all_append, hall.out, ← Hy.out]
              simp [Hl2.out])⟩
            case measure => simp [intOf]; omega
        · obtain rfl : k = t.length := by omega
          go_wp2
          go_ret
          refine ⟨ret_bool (Eq.symm ?_), ht⟩
          have h := hall.out
          rw [List.take_length] at h
          cases t with
          | nil => simp at hl0
          | cons c r =>
            have e : x = c := Hx.out
            subst e
            rw [nameV_cons, h, Hl.out, decide_eq_true (by omega)]; rfl

end Go.Proofs.YtafoklilkdnepaaGreatDoor
