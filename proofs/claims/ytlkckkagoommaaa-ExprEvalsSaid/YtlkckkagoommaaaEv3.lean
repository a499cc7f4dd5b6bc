/- Part 3 of the texts of this proof, one behind the other; each begins with its own sentence. No condition beyond those that its theorems state. -/
import Derived.Test.YtlkckkagoommaaaEv2
import Derived.Laws.StructEq
import Derived.Deep.DeepCutAuto
import Derived.Shelf.Small.Bits
import Derived.Shelf.Small.Strs
import Derived.Shelf.Small.Wraps
import Derived.Shelf.Strconv.Itoa0
import Derived.Shelf.Strings.Search1
import Derived.Shelf.Sort.Plain
import Derived.Shelf.Slices.Turned
import Derived.Shelf.Slices.CompactS
import Derived.Ground.Names2Prog
import Derived.Shelf.Slices.SearchI
import Derived.Shelf.Slices.Cells
import Derived.Shelf.Slices.In.SortNone
import Derived.Test.YtlkckkagoommaaaProg
import Derived.StillTailTactics
/- expr.Expr.Equal, slices.EqualFunc at it: are two expressions one? For all expressions. -/
namespace Go.Proofs.Ytlkckkagoommaaa
open Go.RowKit

def eqV3 (a b : VD) : Bool := decide (a.kind = b.kind) && (decide (a.num = b.num) && decide (a.text = b.text))
theorem eqV3_iff (a b : VD) : eqV3 a b = true ↔ a = b := by
  obtain ⟨ak, an, at_⟩ := a
  obtain ⟨bk, bn, bt⟩ := b
  simp [eqV3]
theorem eqIn_val (a b : VD) (w : World) : (Op.equalIn 10000 30 (.agg #[.int .i64 a.kind, .int .i64 a.num, .string a.text]) (.agg #[.int .i64 b.kind, .int .i64 b.num, .string b.text])).run Try.prog w = .ok (eqV3 a b) w := by
  have hS : Try.prog.underlying 30 = some (.struct (Try.prog.fieldsOf 30)) := by kernel_rfl
  have hp : Try.prog.stoodInHeld 30 = false := by kernel_rfl
  rw [show (10000 : Nat) = 9999 + 1 from rfl, run_equalIn_agg w 9999 30 _ _ hS hp]
  simp only [Program.fieldsOf, Try.underlying30]
  have hs := bs_beq a.text b.text
  go_simp
  by_cases h1 : a.kind = b.kind <;> by_cases h2 : a.num = b.num <;> by_cases h3 : a.text = b.text <;> simp [eqV3, h1, h2, h3]
theorem guard_val (op : BinOp) (x y : Operand) (a b : Array Value) (w : World) : (eqGuard op 30 x y (.agg a) (.agg b)).run Try.prog w = .ok () w := run_eqGuard_agg w op _ x y _ _ (by kernel_rfl)
theorem eqL_drop {α : Type} (f : α → α → Bool) (l r : List α) (k : Nat) (h : k < l.length) (h2 : k < r.length) : eqL f (l.drop k) (r.drop k) = (f l[k] r[k] && eqL f (l.drop (k + 1)) (r.drop (k + 1))) := by
  rw [List.drop_eq_getElem_cons h, List.drop_eq_getElem_cons h2]; rfl
theorem eqL_len {α : Type} (f : α → α → Bool) : ∀ l r : List α, l.length ≠ r.length → eqL f l r = false
  | [], [] => fun h => absurd rfl h
  | [], _ :: _ => fun _ => rfl
  | _ :: _, [] => fun _ => rfl
  | a :: l, b :: r => fun h => by
    show (f a b && eqL f l r) = false
    rw [eqL_len f l r (by simpa using h), Bool.and_false]

/-- what Equal promises -/
def EqSaid (n : Nat) : Prop := ∀ (a b : TX n) (x y : XC) (w : World), ExP xcE anyB n w x a → ExP xcE anyB n w y b → sizeX n a ≤ 1000000 → sizeX n b ≤ 1000000 →
    Calls Try.prog 29 #[x.val, y.val] w fun r w' => r = .returned (.bool (eqX n a b)) ∧ Touch [] w w'

set_option maxRecDepth 20000 in
set_option maxHeartbeats 1600000 in
theorem equalFuncX (n : Nat) (ih : EqSaid n) (A B : Option Addr) (c1 c2 m1 m2 : Nat) (l r : List (TX n)) (hm1 : l.length = m1) (hm2 : r.length = m2) (w : World) (h : ArgsP xcE anyB n w A l) (h2 : ArgsP xcE anyB n w B r) (hl : sumX n l ≤ 1000000) (hl2 : sumX n r ≤ 1000000) :
    Calls Try.prog 46 #[.slice A m1 c1, .slice B m2 c2, .func (.func 29) #[] #[]] w fun e w' => e = .returned (.bool (eqL (eqX n) l r)) ∧ Touch [] w w' := by
  subst hm1 hm2
  have hs1 := len_le_sum n l
  by_cases hlen : l.length = r.length
  · have Hlen := Lib.hid hlen
    have hq' : ((l.length : Int) != (r.length : Int)) = false := by rw [hlen]; simp
    clear hlen
    go_enter Try.func46, Try.ntmps46
    go_wp2
    clear hq'
    go_loopw [17] (fun i wr => ∃ k : Nat, k ≤ l.length ∧ i = .int .i64 k ∧ Hid (eqL (eqX n) l r = eqL (eqX n) (l.drop k) (r.drop k)) ∧ Touch [] w wr) (fun i _ => l.length - (intOf i).toNat)
    case atStart => exact ⟨0, by omega, rfl, Lib.hid rfl, Touch.refl _ _⟩
    case round =>
      obtain ⟨k, hk, rfl, He, ht⟩ := hrel
      by_cases hlt : k < l.length
      · have hlt2 : k < r.length := by have := Hlen.out; omega
        obtain ⟨ad, b, off, y, rfl, hadd, hy, hcell⟩ := (h.touch0 ht).at_ xcE_length k hlt
        obtain ⟨bd, b2, off2, z, rfl, hadd2, hz, hcell2⟩ := (h2.touch0 ht).at_ xcE_length k hlt2
        have hst := eqL_drop (eqX n) l r k hlt hlt2
        rw [← He.out] at hst
        have hms := size_mem (List.getElem_mem hlt)
        have hms2 := size_mem (List.getElem_mem hlt2)
        obtain ⟨x1, hx1⟩ : ∃ x1, x1 = l[k] := ⟨_, rfl⟩
        obtain ⟨x2, hx2⟩ : ∃ x2, x2 = r[k] := ⟨_, rfl⟩
        rw [← hx1] at hst hy hms
        rw [← hx2] at hst hz hms2
        have Hst := Lib.hid hst
        have Hf := Lib.hid fun w' (t : Touch [] wr w') => ih x1 x2 y z w' (hy.touch0 t) (hz.touch0 t) (by omega) (by omega)
        have ta := ((Touch.refl [] wr).alloc (.cells #[.int .i64 y.nd.kind, .string y.nd.name, .int .i64 y.nd.v.kind, .int .i64 y.nd.v.num, .string y.nd.v.text, .string y.nd.op, .slice y.A y.n y.c] 33)).alloc (.cells #[.int .i64 z.nd.kind, .string z.nd.name, .int .i64 z.nd.v.kind, .int .i64 z.nd.v.num, .string z.nd.v.text, .string z.nd.op, .slice z.A z.n z.c] 33)
        have c0 := hcell 0 _ rfl; have c1 := hcell 1 _ rfl; have c2 := hcell 2 _ rfl; have c3 := hcell 3 _ rfl; have c4 := hcell 4 _ rfl; have c5 := hcell 5 _ rfl; have c6 := hcell 6 _ rfl
        have d0 := hcell2 0 _ rfl; have d1 := hcell2 1 _ rfl; have d2 := hcell2 2 _ rfl; have d3 := hcell2 3 _ rfl; have d4 := hcell2 4 _ rfl; have d5 := hcell2 5 _ rfl; have d6 := hcell2 6 _ rfl
        rw [Nat.add_zero] at c0 d0
        clear hst hx1 hx2 hcell hcell2 He
        obtain ⟨⟨k1, nm1, ⟨vk1, vn1, vt1⟩, op1⟩, A1, m1, c1'⟩ := y
        obtain ⟨⟨k2, nm2, ⟨vk2, vn2, vt2⟩, op2⟩, A2, m2, c2'⟩ := z
        simp only [XC.val] at Hf
        simp only at c0 c1 c2 c3 c4 c5 c6 d0 d1 d2 d3 d4 d5 d6 ta
        have tA := (Touch.refl [] wr).alloc (.cells #[.int .i64 k1, .string nm1, .int .i64 vk1, .int .i64 vn1, .string vt1, .string op1, .slice A1 m1 c1'] 33)
        replace d0 := tA.cell d0 (by simp); replace d1 := tA.cell d1 (by simp); replace d2 := tA.cell d2 (by simp); replace d3 := tA.cell d3 (by simp); replace d4 := tA.cell d4 (by simp); replace d5 := tA.cell d5 (by simp); replace d6 := tA.cell d6 (by simp)
        have hkI : (k : Int) < (l.length : Int) := by omega
        have hkI2 : (k : Int) < (r.length : Int) := by omega
        obtain ⟨bo, hbo⟩ : ∃ bo, bo = eqX n x1 x2 := ⟨_, rfl⟩
        rw [← hbo] at Hst Hf
        clear hbo
        cases bo
        · go_wp2_with fail
          refine (Hf.out _ ta).mono ?_
          rintro e w1 ⟨rfl, t1⟩
          go_wp2_with fail
          go_ret
          exact ⟨ret_bool (by rw [Hst.out]; rfl), (ht.trans0 ta).trans0 t1⟩
        · go_wp2_with fail
          refine (Hf.out _ ta).mono ?_
          rintro e w1 ⟨rfl, t1⟩
          go_wp2_with fail
          go_roundw
          case rel => exact ⟨k + 1, by omega, by go_num, Lib.hid (by rw [Hst.out]; rfl), (ht.trans0 ta).trans0 t1⟩
          case measure => simp [intOf]; omega
      · obtain rfl : k = l.length := by omega
        have Hf := Lib.hid (show eqL (eqX n) l r = true by rw [He.out, List.drop_length, List.drop_of_length_le (by have := Hlen.out; omega)]; rfl)
        go_wp2_with fail
        go_ret
        exact ⟨ret_bool (by rw [Hf.out]), ht⟩
  · have Hf := Lib.hid (eqL_len (eqX n) l r hlen)
    have hq' : ((l.length : Int) != (r.length : Int)) = true := by rw [bne_iff_ne]; omega
    clear hlen
    go_enter Try.func46, Try.ntmps46
    go_wp2
    go_ret
    exact ⟨ret_bool (by rw [Hf.out]), Touch.refl _ _⟩

set_option maxRecDepth 20000 in
set_option maxHeartbeats 3200000 in
theorem equalX_any (n : Nat) : EqSaid n := by
  induction n with
  | zero => intro a; exact a.elim
  | succ n ih =>
    intro a b x y w hx hy hs hs2
    obtain ⟨d, l⟩ := a
    obtain ⟨f, r⟩ := b
    obtain ⟨h1, h2, h3⟩ := hx.args
    obtain ⟨g1, g2, g3⟩ := hy.args
    have hsum : sumX n l ≤ 1000000 := by have hs' : 1 + sumX n l ≤ 1000000 := hs; omega
    have hsum2 : sumX n r ≤ 1000000 := by have hs' : 1 + sumX n r ≤ 1000000 := hs2; omega
    have hfin : eqX (n + 1) (d, l) (f, r) = (eqN d f && eqL (eqX n) l r) := rfl
    dsimp only at h1 g1 h2 g2 h3 g3
    subst h1 g1
    have Hef := Lib.hid fun w' (t : Touch [] w w') => equalFuncX n ih x.A y.A x.c y.c x.n y.n l r h2.symm g2.symm w' (h3.touch0 t) (g3.touch0 t) hsum hsum2
    obtain ⟨⟨k1, nm1, ⟨vk1, vn1, vt1⟩, op1⟩, A1, m1, c1⟩ := x
    obtain ⟨⟨k2, nm2, ⟨vk2, vn2, vt2⟩, op2⟩, A2, m2, c2⟩ := y
    dsimp only [XC.val]
    simp only at Hef hfin
    have t0 := ((Touch.refl [] w).alloc (.cells #[.int .i64 k1, .string nm1, .int .i64 vk1, .int .i64 vn1, .string vt1, .string op1, .slice A1 m1 c1] 33)).alloc (.cells #[.int .i64 k2, .string nm2, .int .i64 vk2, .int .i64 vn2, .string vt2, .string op2, .slice A2 m2 c2] 33)
    have hgd := guard_val
    have heq := eqIn_val ⟨vk1, vn1, vt1⟩ ⟨vk2, vn2, vt2⟩
    have q1 := bs_beq nm1 nm2
    have q2 := bs_beq op1 op2
    rw [hfin]
    clear hx hy hs hs2 hfin h2 h3 g2 g3 ih
    by_cases e1 : k1 = k2
    rotate_left
    · have e1' : (k1 == k2) = false := by simpa using e1
      have Hf := Lib.hid (show (eqN ⟨k1, nm1, ⟨vk1, vn1, vt1⟩, op1⟩ ⟨k2, nm2, ⟨vk2, vn2, vt2⟩, op2⟩ && eqL (eqX n) l r) = false by simp [eqN, e1])
      clear e1
      go_enter Try.func29, Try.ntmps29
      go_wp2_with fail
      go_ret
      exact ⟨by rw [Hf.out]; rfl, t0⟩
    subst e1
    by_cases e2 : nm1 = nm2
    rotate_left
    · rw [decide_eq_false e2] at q1
      have Hf := Lib.hid (show (eqN ⟨k1, nm1, ⟨vk1, vn1, vt1⟩, op1⟩ ⟨k1, nm2, ⟨vk2, vn2, vt2⟩, op2⟩ && eqL (eqX n) l r) = false by simp [eqN, e2])
      clear e2
      go_enter Try.func29, Try.ntmps29
      go_wp2_with fail
      go_ret
      exact ⟨by rw [Hf.out]; rfl, t0⟩
    rw [decide_eq_true e2] at q1
    by_cases e3 : eqV3 ⟨vk1, vn1, vt1⟩ ⟨vk2, vn2, vt2⟩ = true
    rotate_left
    · have e3' : eqV3 ⟨vk1, vn1, vt1⟩ ⟨vk2, vn2, vt2⟩ = false := by simpa using e3
      rw [e3'] at heq
      have Hf := Lib.hid (show (eqN ⟨k1, nm1, ⟨vk1, vn1, vt1⟩, op1⟩ ⟨k1, nm2, ⟨vk2, vn2, vt2⟩, op2⟩ && eqL (eqX n) l r) = false by
        show ((decide (k1 = k1) && (decide (nm1 = nm2) && (eqV3 ⟨vk1, vn1, vt1⟩ ⟨vk2, vn2, vt2⟩ && decide (op1 = op2)))) && eqL (eqX n) l r) = false
        rw [e3']; simp)
      clear e3 e3' e2
      go_enter Try.func29, Try.ntmps29
      go_wp2_with fail
      go_ret
      exact ⟨by rw [Hf.out]; rfl, t0⟩
    rw [e3] at heq
    by_cases e4 : op1 = op2
    rotate_left
    · rw [decide_eq_false e4] at q2
      have Hf := Lib.hid (show (eqN ⟨k1, nm1, ⟨vk1, vn1, vt1⟩, op1⟩ ⟨k1, nm2, ⟨vk2, vn2, vt2⟩, op2⟩ && eqL (eqX n) l r) = false by simp [eqN, e4])
      clear e4 e3 e2
      go_enter Try.func29, Try.ntmps29
      go_wp2_with fail
      go_ret
      exact ⟨by rw [Hf.out]; rfl, t0⟩
    rw [decide_eq_true e4] at q2
    have Hf := Lib.hid (show (eqN ⟨k1, nm1, ⟨vk1, vn1, vt1⟩, op1⟩ ⟨k1, nm2, ⟨vk2, vn2, vt2⟩, op2⟩ && eqL (eqX n) l r) = eqL (eqX n) l r by
        show ((decide (k1 = k1) && (decide (nm1 = nm2) && (eqV3 ⟨vk1, vn1, vt1⟩ ⟨vk2, vn2, vt2⟩ && decide (op1 = op2)))) && eqL (eqX n) l r) = _
        rw [e3]; simp [e2, e4])
    clear e4 e3 e2
    go_enter Try.func29, Try.ntmps29
    go_wp2_with fail
    refine (Hef.out _ t0).mono ?_
    rintro e w1 ⟨rfl, t1⟩
    go_wp2_with fail
    go_ret
    exact ⟨by rw [Hf.out]; rfl, t0.trans0 t1⟩
end Go.Proofs.Ytlkckkagoommaaa

/- expr.Expr.form: is an expression's form right? For every expression. -/
namespace Go.Proofs.Ytlkckkagoommaaa
open Go.RowKit

theorem isEmpty_S (s : ByteArray) : s.toList.isEmpty = decide (s = S []) := by
  rw [Bool.eq_iff_iff, toList_B, List.isEmpty_iff, decide_eq_true_eq]
  exact ⟨fun h => bs_eq (by rw [h]; rfl), fun h => by rw [h]; rfl⟩
theorem isNull_eq (v : VD) : isNull v = eqV3 v zeroV := rfl
theorem nat0 (m : Nat) : ((m : Int) == 0) = decide (m = 0) := by rw [Bool.eq_iff_iff]; simp

set_option maxRecDepth 100000 in
set_option maxHeartbeats 6400000 in
theorem form_any (x : XC) (hv : x.nd.v.text.size ≤ 140737000000000) (w : World) :
    Calls Try.prog 65 #[x.val] w fun e w' => e = .returned (.bool (formV x.nd x.n)) ∧ Touch [] w w' := by
  have hrule := fun w' => rule_any x w'
  obtain ⟨⟨k, nm, ⟨vk, vn, vt⟩, op⟩, A, m, c⟩ := x
  dsimp only at hv
  dsimp only [XC.val] at hrule ⊢
  have Hrule := Lib.hid hrule
  have Hnull := Lib.hid fun w' => null_any w'
  have Hright := Lib.hid fun w' => right_any ⟨vk, vn, vt⟩ hv w'
  simp only [VD.val, zeroV] at Hnull Hright
  have heq := eqIn_val ⟨vk, vn, vt⟩ zeroV
  have hnu := isNull_eq ⟨vk, vn, vt⟩
  rw [← hnu] at heq
  simp only [zeroV] at heq
  have hgd := guard_val
  have hop := isEmpty_S op
  have hnm := isEmpty_S nm
  have hm0 := nat0 m
  obtain ⟨W, hW⟩ : ∃ W, W = w.alloc (.cells #[.int .i64 k, .string nm, .int .i64 vk, .int .i64 vn, .string vt, .string op, .slice A m c] 33) := ⟨_, rfl⟩
  have tb := (Touch.refl [] w).alloc (.cells #[.int .i64 k, .string nm, .int .i64 vk, .int .i64 vn, .string vt, .string op, .slice A m c] 33)
  have hb := heap_alloc_new w (.cells #[.int .i64 k, .string nm, .int .i64 vk, .int .i64 vn, .string vt, .string op, .slice A m c] 33)
  have hsz := World.size_alloc w (.cells #[.int .i64 k, .string nm, .int .i64 vk, .int .i64 vn, .string vt, .string op, .slice A m c] 33)
  rw [← hW] at tb hb hsz
  have HW := Lib.hid hW
  obtain ⟨c0, c1, c2, c3, c4, c5, c6, _⟩ := blk7 hb
  have Hb := Lib.hid hb
  have Hsz := Lib.hid hsz
  clear hrule hW hb hnu hsz
  by_cases h1 : k = 1
  · have Hf := Lib.hid (show formV ⟨k, nm, ⟨vk, vn, vt⟩, op⟩ m = (decide (op = S []) && (decide (m = 0) && isNull ⟨vk, vn, vt⟩)) by unfold formV; rw [if_pos h1])
    subst h1
    have g0 := TW.cell c0; have g1 := TW.cell c1; have g2 := TW.cell c2; have g3 := TW.cell c3; have g4 := TW.cell c4; have g5 := TW.cell c5; have g6 := TW.cell c6
    clear c0 c1 c2 c3 c4 c5 c6
    rcases ho : decide (op = S []) with _ | _
    · rw [ho] at hop
      have Ho := Lib.hid ho
      clear ho
      go_enter Try.func65, Try.ntmps65
      go_wp2
      rw [← HW.out]
      refine wp_region_tw W (Touch.refl _ _) (by kernel_rfl) (by kernel_rfl) ?_
      repeat (go_big_quiet_step (((go_at_call 19; exact Calls.tw _ (Hnull.out _)))))
      refine wpQuiet_nil ?_
      rintro _ ⟨y, rfl⟩
      go_wp2
      go_ret
      exact ⟨ret_bool (by rw [Hf.out, Ho.out, Bool.false_and]), tb.trans0 y.t⟩
    rw [ho] at hop
    have Ho := Lib.hid ho
    clear ho
    rcases hz : decide (m = 0) with _ | _
    · rw [hz] at hm0
      have Hz := Lib.hid hz
      clear hz
      go_enter Try.func65, Try.ntmps65
      go_wp2
      rw [← HW.out]
      refine wp_region_tw W (Touch.refl _ _) (by kernel_rfl) (by kernel_rfl) ?_
      repeat (go_big_quiet_step (((go_at_call 19; exact Calls.tw _ (Hnull.out _)))))
      refine wpQuiet_nil ?_
      rintro _ ⟨y, rfl⟩
      go_wp2
      go_ret
      exact ⟨ret_bool (by rw [Hf.out, Ho.out, Hz.out, Bool.false_and, Bool.and_false]), tb.trans0 y.t⟩
    · rw [hz] at hm0
      have Hz := Lib.hid hz
      clear hz
      go_enter Try.func65, Try.ntmps65
      go_wp2
      rw [← HW.out]
      refine wp_region_tw W (Touch.refl _ _) (by kernel_rfl) (by kernel_rfl) ?_
      repeat (go_big_quiet_step (((go_at_call 19; exact Calls.tw _ (Hnull.out _)))))
      refine wpQuiet_nil ?_
      rintro _ ⟨y, rfl⟩
      go_wp2
      go_ret
      exact ⟨ret_bool (by rw [Hf.out, Ho.out, Hz.out, Bool.true_and, Bool.true_and]), tb.trans0 y.t⟩
  by_cases h2 : k = 2
  · have Hf := Lib.hid (show formV ⟨k, nm, ⟨vk, vn, vt⟩, op⟩ m = (decide (nm = S []) && (decide (op = S []) && (decide (m = 0) && VD.right ⟨vk, vn, vt⟩))) by unfold formV; rw [if_neg h1, if_pos h2])
    subst h2
    clear h1
    rcases ho : decide (nm = S []) with _ | _
    · rw [ho] at hnm
      have Ho := Lib.hid ho
      clear ho
      go_enter Try.func65, Try.ntmps65
      go_wp2_with fail
      rw [← HW.out]
      go_ret
      exact ⟨ret_bool (by rw [Hf.out, Ho.out, Bool.false_and]), tb⟩
    rw [ho] at hnm
    have Ho := Lib.hid ho
    clear ho
    rcases hp : decide (op = S []) with _ | _
    · rw [hp] at hop
      have Hp := Lib.hid hp
      clear hp
      go_enter Try.func65, Try.ntmps65
      go_wp2_with fail
      rw [← HW.out]
      go_ret
      exact ⟨ret_bool (by rw [Hf.out, Ho.out, Hp.out, Bool.false_and, Bool.and_false]), tb⟩
    rw [hp] at hop
    have Hp := Lib.hid hp
    clear hp
    rcases hz : decide (m = 0) with _ | _
    · rw [hz] at hm0
      have Hz := Lib.hid hz
      clear hz
      go_enter Try.func65, Try.ntmps65
      go_wp2_with fail
      rw [← HW.out]
      go_ret
      exact ⟨ret_bool (by rw [Hf.out, Ho.out, Hp.out, Hz.out, Bool.false_and, Bool.and_false, Bool.and_false]), tb⟩
    · rw [hz] at hm0
      have Hz := Lib.hid hz
      clear hz
      go_enter Try.func65, Try.ntmps65
      go_wp2_with fail
      rw [← HW.out]
      refine (Hright.out _).mono ?_
      rintro e w1 ⟨rfl, t1⟩
      go_wp2_with fail
      go_ret
      exact ⟨ret_bool (by rw [Hf.out, Ho.out, Hp.out, Hz.out, Bool.true_and, Bool.true_and, Bool.true_and]), tb.trans0 t1⟩
  have hf : formV ⟨k, nm, ⟨vk, vn, vt⟩, op⟩ m = ((match ruleV ⟨k, nm, ⟨vk, vn, vt⟩, op⟩ with | some r => decide (m = r.args.length) | none => false) && (isNull ⟨vk, vn, vt⟩ && (if k = 5 then decide (op = S []) else decide (nm = S [])))) := by
    unfold formV; rw [if_neg h1, if_neg h2]; rfl
  have q1 : (k == 1) = false := by simpa using h1
  have q2 : (k == 2) = false := by simpa using h2
  clear h1 h2 Hright
  have hpost : ∀ e w1, RulePost ⟨k, nm, ⟨vk, vn, vt⟩, op⟩ m e w1 → ∃ s0 B0 n0 d0 z0 bo, e = .returned (.tuple #[.agg #[.string s0, .slice B0 n0 d0, .int .i64 z0], .bool bo]) ∧ bo = (match ruleV ⟨k, nm, ⟨vk, vn, vt⟩, op⟩ with | some r => decide (m = r.args.length) | none => false) := fun e w1 hp => by
    unfold RulePost at hp
    split at hp
    · rename_i hv0; exact ⟨_, _, _, _, _, _, hp, by rw [hv0]⟩
    · rename_i r hv0; obtain ⟨B, c', he, _⟩ := hp; exact ⟨_, _, _, _, _, _, he, by rw [hv0]⟩
  have Hpost := Lib.hid hpost
  have Hf := Lib.hid hf
  clear hpost hf
  rcases hu : isNull ⟨vk, vn, vt⟩ with _ | _
  · rw [hu] at heq Hf
    clear hu
    go_enter Try.func65, Try.ntmps65
    go_wp2_with fail
    rw [← HW.out]
    refine (Hrule.out _).mono ?_
    rintro e w1 ⟨hp, t1⟩
    obtain ⟨s0, B0, n0, d0, z0, bo, rfl, hbo⟩ := Hpost.out e w1 hp
    have Hbo := Lib.hid hbo
    clear hp hbo
    have g0 := TW.cell ((t1.alloc (.cells #[.string s0, .slice B0 n0 d0, .int .i64 z0] 114)).cell c0 (by simp))
    have g1 := TW.cell ((t1.alloc (.cells #[.string s0, .slice B0 n0 d0, .int .i64 z0] 114)).cell c1 (by simp))
    have g2 := TW.cell ((t1.alloc (.cells #[.string s0, .slice B0 n0 d0, .int .i64 z0] 114)).cell c2 (by simp))
    have g3 := TW.cell ((t1.alloc (.cells #[.string s0, .slice B0 n0 d0, .int .i64 z0] 114)).cell c3 (by simp))
    have g4 := TW.cell ((t1.alloc (.cells #[.string s0, .slice B0 n0 d0, .int .i64 z0] 114)).cell c4 (by simp))
    have g5 := TW.cell ((t1.alloc (.cells #[.string s0, .slice B0 n0 d0, .int .i64 z0] 114)).cell c5 (by simp))
    have g6 := TW.cell ((t1.alloc (.cells #[.string s0, .slice B0 n0 d0, .int .i64 z0] 114)).cell c6 (by simp))
    have T1 := tb.trans0 (t1.alloc (.cells #[.string s0, .slice B0 n0 d0, .int .i64 z0] 114))
    clear c0 c1 c2 c3 c4 c5 c6
    cases bo
    · go_wp2
      refine wp_region_tw (w1.alloc (.cells #[.string s0, .slice B0 n0 d0, .int .i64 z0] 114)) (Touch.refl _ _) (by kernel_rfl) (by kernel_rfl) ?_
      repeat (go_big_quiet_step (((go_at_call 19; exact Calls.tw _ (Hnull.out _)))))
      refine wpQuiet_nil ?_
      rintro _ ⟨y, rfl⟩
      go_wp2
      go_ret
      exact ⟨ret_bool (by rw [Hf.out, ← Hbo.out, Bool.false_and]), T1.trans0 y.t⟩
    · go_wp2
      refine wp_region_tw (w1.alloc (.cells #[.string s0, .slice B0 n0 d0, .int .i64 z0] 114)) (Touch.refl _ _) (by kernel_rfl) (by kernel_rfl) ?_
      repeat (go_big_quiet_step (((go_at_call 19; exact Calls.tw _ (Hnull.out _)))))
      refine wpQuiet_nil ?_
      rintro _ ⟨y, rfl⟩
      go_wp2
      go_ret
      exact ⟨ret_bool (by rw [Hf.out, ← Hbo.out, Bool.true_and, Bool.false_and]), T1.trans0 y.t⟩
  rw [hu] at heq Hf
  clear hu
  by_cases h5 : k = 5
  · have q5 : (k == 5) = true := by simpa using h5
    have q5' : (k != 5) = false := by simpa using h5
    rw [if_pos h5] at Hf
    clear h5
    rcases ho : decide (op = S []) with _ | _
    · rw [ho] at hop Hf
      clear ho
      go_enter Try.func65, Try.ntmps65
      go_wp2_with fail
      rw [← HW.out]
      refine (Hrule.out _).mono ?_
      rintro e w1 ⟨hp, t1⟩
      obtain ⟨s0, B0, n0, d0, z0, bo, rfl, hbo⟩ := Hpost.out e w1 hp
      have Hbo := Lib.hid hbo
      clear hp hbo
      have g0 := TW.cell ((t1.alloc (.cells #[.string s0, .slice B0 n0 d0, .int .i64 z0] 114)).cell c0 (by simp))
      have g1 := TW.cell ((t1.alloc (.cells #[.string s0, .slice B0 n0 d0, .int .i64 z0] 114)).cell c1 (by simp))
      have g2 := TW.cell ((t1.alloc (.cells #[.string s0, .slice B0 n0 d0, .int .i64 z0] 114)).cell c2 (by simp))
      have g3 := TW.cell ((t1.alloc (.cells #[.string s0, .slice B0 n0 d0, .int .i64 z0] 114)).cell c3 (by simp))
      have g4 := TW.cell ((t1.alloc (.cells #[.string s0, .slice B0 n0 d0, .int .i64 z0] 114)).cell c4 (by simp))
      have g5 := TW.cell ((t1.alloc (.cells #[.string s0, .slice B0 n0 d0, .int .i64 z0] 114)).cell c5 (by simp))
      have g6 := TW.cell ((t1.alloc (.cells #[.string s0, .slice B0 n0 d0, .int .i64 z0] 114)).cell c6 (by simp))
      have T1 := tb.trans0 (t1.alloc (.cells #[.string s0, .slice B0 n0 d0, .int .i64 z0] 114))
      clear c0 c1 c2 c3 c4 c5 c6
      cases bo
      · go_wp2
        refine wp_region_tw (w1.alloc (.cells #[.string s0, .slice B0 n0 d0, .int .i64 z0] 114)) (Touch.refl _ _) (by kernel_rfl) (by kernel_rfl) ?_
        repeat (go_big_quiet_step (((go_at_call 19; exact Calls.tw _ (Hnull.out _)))))
        refine wpQuiet_nil ?_
        rintro _ ⟨y, rfl⟩
        go_wp2
        go_ret
        exact ⟨ret_bool (by rw [Hf.out, ← Hbo.out, Bool.false_and]), T1.trans0 y.t⟩
      · go_wp2
        refine wp_region_tw (w1.alloc (.cells #[.string s0, .slice B0 n0 d0, .int .i64 z0] 114)) (Touch.refl _ _) (by kernel_rfl) (by kernel_rfl) ?_
        repeat (go_big_quiet_step (((go_at_call 19; exact Calls.tw _ (Hnull.out _)))))
        refine wpQuiet_nil ?_
        rintro _ ⟨y, rfl⟩
        go_wp2
        go_ret
        exact ⟨ret_bool (by rw [Hf.out, ← Hbo.out, Bool.true_and, Bool.true_and]), T1.trans0 y.t⟩
    · rw [ho] at hop Hf
      clear ho
      go_enter Try.func65, Try.ntmps65
      go_wp2_with fail
      rw [← HW.out]
      refine (Hrule.out _).mono ?_
      rintro e w1 ⟨hp, t1⟩
      obtain ⟨s0, B0, n0, d0, z0, bo, rfl, hbo⟩ := Hpost.out e w1 hp
      have Hbo := Lib.hid hbo
      clear hp hbo
      have g0 := TW.cell ((t1.alloc (.cells #[.string s0, .slice B0 n0 d0, .int .i64 z0] 114)).cell c0 (by simp))
      have g1 := TW.cell ((t1.alloc (.cells #[.string s0, .slice B0 n0 d0, .int .i64 z0] 114)).cell c1 (by simp))
      have g2 := TW.cell ((t1.alloc (.cells #[.string s0, .slice B0 n0 d0, .int .i64 z0] 114)).cell c2 (by simp))
      have g3 := TW.cell ((t1.alloc (.cells #[.string s0, .slice B0 n0 d0, .int .i64 z0] 114)).cell c3 (by simp))
      have g4 := TW.cell ((t1.alloc (.cells #[.string s0, .slice B0 n0 d0, .int .i64 z0] 114)).cell c4 (by simp))
      have g5 := TW.cell ((t1.alloc (.cells #[.string s0, .slice B0 n0 d0, .int .i64 z0] 114)).cell c5 (by simp))
      have g6 := TW.cell ((t1.alloc (.cells #[.string s0, .slice B0 n0 d0, .int .i64 z0] 114)).cell c6 (by simp))
      have T1 := tb.trans0 (t1.alloc (.cells #[.string s0, .slice B0 n0 d0, .int .i64 z0] 114))
      clear c0 c1 c2 c3 c4 c5 c6
      cases bo
      · go_wp2
        refine wp_region_tw (w1.alloc (.cells #[.string s0, .slice B0 n0 d0, .int .i64 z0] 114)) (Touch.refl _ _) (by kernel_rfl) (by kernel_rfl) ?_
        repeat (go_big_quiet_step (((go_at_call 19; exact Calls.tw _ (Hnull.out _)))))
        refine wpQuiet_nil ?_
        rintro _ ⟨y, rfl⟩
        go_wp2
        go_ret
        exact ⟨ret_bool (by rw [Hf.out, ← Hbo.out, Bool.false_and]), T1.trans0 y.t⟩
      · go_wp2
        refine wp_region_tw (w1.alloc (.cells #[.string s0, .slice B0 n0 d0, .int .i64 z0] 114)) (Touch.refl _ _) (by kernel_rfl) (by kernel_rfl) ?_
        repeat (go_big_quiet_step (((go_at_call 19; exact Calls.tw _ (Hnull.out _)))))
        refine wpQuiet_nil ?_
        rintro _ ⟨y, rfl⟩
        go_wp2
        go_ret
        exact ⟨ret_bool (by rw [Hf.out, ← Hbo.out, Bool.true_and, Bool.true_and]), T1.trans0 y.t⟩
  · have q5 : (k == 5) = false := by simpa using h5
    have q5' : (k != 5) = true := by simpa using h5
    rw [if_neg h5] at Hf
    clear h5
    rcases ho : decide (nm = S []) with _ | _
    · rw [ho] at hnm Hf
      clear ho
      go_enter Try.func65, Try.ntmps65
      go_wp2_with fail
      rw [← HW.out]
      refine (Hrule.out _).mono ?_
      rintro e w1 ⟨hp, t1⟩
      obtain ⟨s0, B0, n0, d0, z0, bo, rfl, hbo⟩ := Hpost.out e w1 hp
      have Hbo := Lib.hid hbo
      clear hp hbo
      have g0 := TW.cell ((t1.alloc (.cells #[.string s0, .slice B0 n0 d0, .int .i64 z0] 114)).cell c0 (by simp))
      have g1 := TW.cell ((t1.alloc (.cells #[.string s0, .slice B0 n0 d0, .int .i64 z0] 114)).cell c1 (by simp))
      have g2 := TW.cell ((t1.alloc (.cells #[.string s0, .slice B0 n0 d0, .int .i64 z0] 114)).cell c2 (by simp))
      have g3 := TW.cell ((t1.alloc (.cells #[.string s0, .slice B0 n0 d0, .int .i64 z0] 114)).cell c3 (by simp))
      have g4 := TW.cell ((t1.alloc (.cells #[.string s0, .slice B0 n0 d0, .int .i64 z0] 114)).cell c4 (by simp))
      have g5 := TW.cell ((t1.alloc (.cells #[.string s0, .slice B0 n0 d0, .int .i64 z0] 114)).cell c5 (by simp))
      have g6 := TW.cell ((t1.alloc (.cells #[.string s0, .slice B0 n0 d0, .int .i64 z0] 114)).cell c6 (by simp))
      have T1 := tb.trans0 (t1.alloc (.cells #[.string s0, .slice B0 n0 d0, .int .i64 z0] 114))
      clear c0 c1 c2 c3 c4 c5 c6
      cases bo
      · go_wp2
        refine wp_region_tw (w1.alloc (.cells #[.string s0, .slice B0 n0 d0, .int .i64 z0] 114)) (Touch.refl _ _) (by kernel_rfl) (by kernel_rfl) ?_
        repeat (go_big_quiet_step (((go_at_call 19; exact Calls.tw _ (Hnull.out _)))))
        refine wpQuiet_nil ?_
        rintro _ ⟨y, rfl⟩
        go_wp2
        go_ret
        exact ⟨ret_bool (by rw [Hf.out, ← Hbo.out, Bool.false_and]), T1.trans0 y.t⟩
      · go_wp2
        refine wp_region_tw (w1.alloc (.cells #[.string s0, .slice B0 n0 d0, .int .i64 z0] 114)) (Touch.refl _ _) (by kernel_rfl) (by kernel_rfl) ?_
        repeat (go_big_quiet_step (((go_at_call 19; exact Calls.tw _ (Hnull.out _)))))
        refine wpQuiet_nil ?_
        rintro _ ⟨y, rfl⟩
        go_wp2
        go_ret
        exact ⟨ret_bool (by rw [Hf.out, ← Hbo.out, Bool.true_and, Bool.true_and]), T1.trans0 y.t⟩
    · rw [ho] at hnm Hf
      clear ho
      go_enter Try.func65, Try.ntmps65
      go_wp2_with fail
      rw [← HW.out]
      refine (Hrule.out _).mono ?_
      rintro e w1 ⟨hp, t1⟩
      obtain ⟨s0, B0, n0, d0, z0, bo, rfl, hbo⟩ := Hpost.out e w1 hp
      have Hbo := Lib.hid hbo
      clear hp hbo
      have g0 := TW.cell ((t1.alloc (.cells #[.string s0, .slice B0 n0 d0, .int .i64 z0] 114)).cell c0 (by simp))
      have g1 := TW.cell ((t1.alloc (.cells #[.string s0, .slice B0 n0 d0, .int .i64 z0] 114)).cell c1 (by simp))
      have g2 := TW.cell ((t1.alloc (.cells #[.string s0, .slice B0 n0 d0, .int .i64 z0] 114)).cell c2 (by simp))
      have g3 := TW.cell ((t1.alloc (.cells #[.string s0, .slice B0 n0 d0, .int .i64 z0] 114)).cell c3 (by simp))
      have g4 := TW.cell ((t1.alloc (.cells #[.string s0, .slice B0 n0 d0, .int .i64 z0] 114)).cell c4 (by simp))
      have g5 := TW.cell ((t1.alloc (.cells #[.string s0, .slice B0 n0 d0, .int .i64 z0] 114)).cell c5 (by simp))
      have g6 := TW.cell ((t1.alloc (.cells #[.string s0, .slice B0 n0 d0, .int .i64 z0] 114)).cell c6 (by simp))
      have T1 := tb.trans0 (t1.alloc (.cells #[.string s0, .slice B0 n0 d0, .int .i64 z0] 114))
      clear c0 c1 c2 c3 c4 c5 c6
      cases bo
      · go_wp2
        refine wp_region_tw (w1.alloc (.cells #[.string s0, .slice B0 n0 d0, .int .i64 z0] 114)) (Touch.refl _ _) (by kernel_rfl) (by kernel_rfl) ?_
        repeat (go_big_quiet_step (((go_at_call 19; exact Calls.tw _ (Hnull.out _)))))
        refine wpQuiet_nil ?_
        rintro _ ⟨y, rfl⟩
        go_wp2
        go_ret
        exact ⟨ret_bool (by rw [Hf.out, ← Hbo.out, Bool.false_and]), T1.trans0 y.t⟩
      · go_wp2
        refine wp_region_tw (w1.alloc (.cells #[.string s0, .slice B0 n0 d0, .int .i64 z0] 114)) (Touch.refl _ _) (by kernel_rfl) (by kernel_rfl) ?_
        repeat (go_big_quiet_step (((go_at_call 19; exact Calls.tw _ (Hnull.out _)))))
        refine wpQuiet_nil ?_
        rintro _ ⟨y, rfl⟩
        go_wp2
        go_ret
        exact ⟨ret_bool (by rw [Hf.out, ← Hbo.out, Bool.true_and, Bool.true_and]), T1.trans0 y.t⟩
end Go.Proofs.Ytlkckkagoommaaa

/- bywashref04.Form: is an expression's form right, as the document's answer has it? For every expression. -/
namespace Go.Proofs.Ytlkckkagoommaaa
open Go.RowKit

theorem beq_S2 (x : ByteArray) (l : List UInt8) : (x.toList == l) = decide (x = S l) := by
  have h := bs_beq x (S l)
  rwa [S_list] at h
theorem natq (m j : Nat) : ((m : Int) == (j : Int)) = decide (m = j) := by rw [Bool.eq_iff_iff]; simp; omega
def nNEG : List ByteArray := [S [45], S [110, 111, 116]]
def nBIN : List ByteArray := [S [43], S [45], S [42], S [47], S [37], S [61], S [33, 61], S [60], S [60, 61], S [62], S [62, 61], S [97, 110, 100], S [111, 114]]
def nC1 : List ByteArray := [S [108, 101, 110], S [97, 98, 115], S [105, 115, 110, 117, 108, 108]]
def nC2 : List ByteArray := [S [99, 97, 116], S [101, 105, 116, 104, 101, 114]]
/-- is the form right, with so many Args, as the document's answer has it? -/
def formR (d : ND) (n : Nat) : Bool :=
  if d.kind = 1 then isNull d.v && (decide (d.op = S []) && decide (n = 0))
  else if d.kind = 2 then decide (d.name = S []) && (decide (d.op = S []) && (decide (n = 0) && d.v.right))
  else if isNull d.v = false then false
  else if d.kind = 3 then decide (d.name = S []) && (decide (n = 1) && inL d.op nNEG)
  else if d.kind = 4 then decide (d.name = S []) && (decide (n = 2) && inL d.op nBIN)
  else if d.kind = 5 then decide (d.op = S []) && ((decide (n = 1) && inL d.name nC1) || ((decide (n = 2) && inL d.name nC2) || (decide (n = 3) && decide (d.name = S [105, 102]))))
  else false

set_option maxRecDepth 100000 in
set_option maxHeartbeats 6400000 in
theorem refForm_any (x : XC) (hv : x.nd.v.text.size ≤ 140737000000000) (w : World) :
    Calls Try.prog 58 #[x.valR] w fun e w' => e = .returned (.bool (formR x.nd x.n)) ∧ Touch [] w w' := by
  obtain ⟨⟨k, nm, ⟨vk, vn, vt⟩, op⟩, A, m, c⟩ := x
  dsimp only at hv
  dsimp only [XC.valR]
  have Hright := Lib.hid fun w' => refRight_any ⟨vk, vn, vt⟩ hv w'
  simp only [VD.val] at Hright
  have hop := isEmpty_S op
  have hnm := isEmpty_S nm
  have hvt := isEmpty_S vt
  have hif := beq_S2 nm [105, 102]
  have hm0 : ((m : Int) == 0) = decide (m = 0) := natq m 0
  have hm1 : ((m : Int) == 1) = decide (m = 1) := natq m 1
  have hm2 : ((m : Int) == 2) = decide (m = 2) := natq m 2
  have hm3 : ((m : Int) == 3) = decide (m = 3) := natq m 3
  obtain ⟨W, hW⟩ : ∃ W, W = w.alloc (.cells #[.int .i64 k, .string nm, .string op, .int .i64 vk, .int .i64 vn, .string vt, .slice A m c] 61) := ⟨_, rfl⟩
  have tb := (Touch.refl [] w).alloc (.cells #[.int .i64 k, .string nm, .string op, .int .i64 vk, .int .i64 vn, .string vt, .slice A m c] 61)
  have hb := heap_alloc_new w (.cells #[.int .i64 k, .string nm, .string op, .int .i64 vk, .int .i64 vn, .string vt, .slice A m c] 61)
  rw [← hW] at tb hb
  obtain ⟨c0, c1, c2, c3, c4, c5, c6, _⟩ := blk7 hb
  have HW := Lib.hid hW
  obtain ⟨nl, hnl⟩ : ∃ nl, nl = isNull ⟨vk, vn, vt⟩ := ⟨_, rfl⟩
  have Hnl := Lib.hid hnl
  have Hf := Lib.hid (show ∀ b, formR ⟨k, nm, ⟨vk, vn, vt⟩, op⟩ m = b → Ending.returned (.bool b) = Ending.returned (.bool (formR ⟨k, nm, ⟨vk, vn, vt⟩, op⟩ m)) from fun b h => by rw [h])
  clear hnl hb hW
  go_enter Try.func58, Try.ntmps58
  go_upto_region 1 with (fail)
  go_cut [3] (fun z wx => z = .bool nl ∧ wx = W)
  case first =>
    by_cases e1 : vk = 0
    · have q1 : (vk == 0) = true := by simpa using e1
      have E1 := Lib.hid e1
      clear e1
      by_cases e2 : vn = 0
      · have q2 : (vn == 0) = true := by simpa using e2
        have E2 := Lib.hid e2
        clear e2
        rcases e3 : decide (vt = S []) with _ | _
        · rw [e3] at hvt
          go_wp2
          go_meet
          exact ⟨by rw [Hnl.out]; simp only [isNull, e3, Bool.and_false], HW.out.symm⟩
        · rw [e3] at hvt
          go_wp2
          go_meet
          exact ⟨by rw [Hnl.out]; simp only [isNull, e3, E1.out, E2.out, decide_true, Bool.and_true], HW.out.symm⟩
      · have q2 : (vn == 0) = false := by simpa using e2
        go_wp2
        go_meet
        exact ⟨by rw [Hnl.out]; simp only [isNull, decide_eq_false e2, Bool.false_and, Bool.and_false], HW.out.symm⟩
    · have q1 : (vk == 0) = false := by simpa using e1
      go_wp2
      go_meet
      exact ⟨by rw [Hnl.out]; simp only [isNull, decide_eq_false e1, Bool.false_and], HW.out.symm⟩
  case rest =>
    obtain ⟨rfl, rfl⟩ := hcut
    clear hvt HW
    by_cases h1 : k = 1
    · have q1 : (k == 1) = true := by simpa using h1
      rcases nl with _ | _
      · go_wp2
        go_ret
        exact ⟨Hf.out false (by unfold formR; rw [if_pos h1, ← Hnl.out, Bool.false_and]), tb⟩
      · rcases ho : decide (op = S []) with _ | _
        · rw [ho] at hop
          go_wp2
          go_ret
          exact ⟨Hf.out false (by unfold formR; rw [if_pos h1, ho, Bool.false_and, Bool.and_false]), tb⟩
        · rw [ho] at hop
          rcases hz : decide (m = 0) with _ | _
          · rw [hz] at hm0
            go_wp2
            go_ret
            exact ⟨Hf.out false (by unfold formR; rw [if_pos h1, ho, hz, ← Hnl.out]; rfl), tb⟩
          · rw [hz] at hm0
            go_wp2
            go_ret
            exact ⟨Hf.out true (by unfold formR; rw [if_pos h1, ho, hz, ← Hnl.out]; rfl), tb⟩
    have q1 : (k == 1) = false := by simpa using h1
    by_cases h2 : k = 2
    · have q2 : (k == 2) = true := by simpa using h2
      rcases hn : decide (nm = S []) with _ | _
      · rw [hn] at hnm
        go_wp2
        go_ret
        exact ⟨Hf.out false (by unfold formR; rw [if_neg h1, if_pos h2, hn, Bool.false_and]), tb⟩
      · rw [hn] at hnm
        rcases ho : decide (op = S []) with _ | _
        · rw [ho] at hop
          go_wp2
          go_ret
          exact ⟨Hf.out false (by unfold formR; rw [if_neg h1, if_pos h2, ho, Bool.false_and, Bool.and_false]), tb⟩
        · rw [ho] at hop
          rcases hz : decide (m = 0) with _ | _
          · rw [hz] at hm0
            go_wp2
            go_ret
            exact ⟨Hf.out false (by unfold formR; rw [if_neg h1, if_pos h2, hz, Bool.false_and, Bool.and_false, Bool.and_false]), tb⟩
          · rw [hz] at hm0
            go_wp2_with fail
            refine (Hright.out _).mono ?_
            rintro e w1 ⟨rfl, t1⟩
            go_wp2_with fail
            go_ret
            exact ⟨Hf.out _ (by unfold formR; rw [if_neg h1, if_pos h2, hn, ho, hz]; rfl), tb.trans0 t1⟩
    have q2 : (k == 2) = false := by simpa using h2
    rcases nl with _ | _
    · go_wp2
      go_ret
      exact ⟨Hf.out false (by unfold formR; rw [if_neg h1, if_neg h2, if_pos Hnl.out.symm]), tb⟩
    have hN : ¬ isNull ⟨vk, vn, vt⟩ = false := by rw [← Hnl.out]; simp
    clear Hright Hnl
    by_cases h3 : k = 3
    · have q3 : (k == 3) = true := by simpa using h3
      rcases hn : decide (nm = S []) with _ | _
      · rw [hn] at hnm
        go_wp2
        go_ret
        exact ⟨Hf.out false (by unfold formR; rw [if_neg h1, if_neg h2, if_neg hN, if_pos h3, hn, Bool.false_and]), tb⟩
      · rw [hn] at hnm
        rcases hz : decide (m = 1) with _ | _
        · rw [hz] at hm1
          go_wp2
          go_ret
          exact ⟨Hf.out false (by unfold formR; rw [if_neg h1, if_neg h2, if_neg hN, if_pos h3, hz, Bool.false_and, Bool.and_false]), tb⟩
        · rw [hz] at hm1
          go_wp2_with fail
          refine (in4_any op _ _ _ nNEG rfl _ (RdK.row (enc := tsE) _ _ nNEG _ rfl) (by decide)).mono ?_
          rintro e w1 ⟨rfl, rfl⟩
          go_wp2_with fail
          go_ret
          exact ⟨Hf.out _ (by unfold formR; rw [if_neg h1, if_neg h2, if_neg hN, if_pos h3, hn, hz]; rfl), tb.alloc _⟩
    have q3 : (k == 3) = false := by simpa using h3
    by_cases h4 : k = 4
    · have q4 : (k == 4) = true := by simpa using h4
      rcases hn : decide (nm = S []) with _ | _
      · rw [hn] at hnm
        go_wp2
        go_ret
        exact ⟨Hf.out false (by unfold formR; rw [if_neg h1, if_neg h2, if_neg hN, if_neg h3, if_pos h4, hn, Bool.false_and]), tb⟩
      · rw [hn] at hnm
        rcases hz : decide (m = 2) with _ | _
        · rw [hz] at hm2
          go_wp2
          go_ret
          exact ⟨Hf.out false (by unfold formR; rw [if_neg h1, if_neg h2, if_neg hN, if_neg h3, if_pos h4, hz, Bool.false_and, Bool.and_false]), tb⟩
        · rw [hz] at hm2
          go_wp2_with fail
          refine (in4_any op _ _ _ nBIN rfl _ (RdK.row (enc := tsE) _ _ nBIN _ rfl) (by decide)).mono ?_
          rintro e w1 ⟨rfl, rfl⟩
          go_wp2_with fail
          go_ret
          exact ⟨Hf.out _ (by unfold formR; rw [if_neg h1, if_neg h2, if_neg hN, if_neg h3, if_pos h4, hn, hz]; rfl), tb.alloc _⟩
    have q4 : (k == 4) = false := by simpa using h4
    by_cases h5 : k = 5
    · have q5 : (k == 5) = true := by simpa using h5
      rcases ho : decide (op = S []) with _ | _
      · rw [ho] at hop
        go_wp2
        go_ret
        exact ⟨Hf.out false (by unfold formR; rw [if_neg h1, if_neg h2, if_neg hN, if_neg h3, if_neg h4, if_pos h5, ho, Bool.false_and]), tb⟩
      · rw [ho] at hop
        by_cases hz : m = 1
        · subst hz
          clear hm0 hm1 hm2 hm3
          go_wp2_with fail
          refine (in4_any nm _ _ _ nC1 rfl _ (RdK.row (enc := tsE) _ _ nC1 _ rfl) (by decide)).mono ?_
          rintro e w1 ⟨rfl, rfl⟩
          rcases hi : inL nm nC1 with _ | _
          · go_wp2_with fail
            go_ret
            exact ⟨Hf.out _ (by unfold formR; simp only; rw [if_neg h1, if_neg h2, if_neg hN, if_neg h3, if_neg h4, if_pos h5, ho, hi]; rfl), tb.alloc _⟩
          · go_wp2_with fail
            go_ret
            exact ⟨Hf.out _ (by unfold formR; simp only; rw [if_neg h1, if_neg h2, if_neg hN, if_neg h3, if_neg h4, if_pos h5, ho, hi]; rfl), tb.alloc _⟩
        rw [decide_eq_false hz] at hm1
        by_cases hz2 : m = 2
        · subst hz2
          clear hm0 hm1 hm2 hm3 hz
          go_wp2_with fail
          refine (in4_any nm _ _ _ nC2 rfl _ (RdK.row (enc := tsE) _ _ nC2 _ rfl) (by decide)).mono ?_
          rintro e w1 ⟨rfl, rfl⟩
          rcases hi : inL nm nC2 with _ | _
          · go_wp2_with fail
            go_ret
            exact ⟨Hf.out _ (by unfold formR; simp only; rw [if_neg h1, if_neg h2, if_neg hN, if_neg h3, if_neg h4, if_pos h5, ho, hi]; rfl), tb.alloc _⟩
          · go_wp2_with fail
            go_ret
            exact ⟨Hf.out _ (by unfold formR; simp only; rw [if_neg h1, if_neg h2, if_neg hN, if_neg h3, if_neg h4, if_pos h5, ho, hi]; rfl), tb.alloc _⟩
        rw [decide_eq_false hz2] at hm2
        by_cases hz3 : m = 3
        · subst hz3
          clear hm0 hm1 hm2 hm3 hz hz2
          rcases hi : decide (nm = S [105, 102]) with _ | _
          · rw [hi] at hif
            go_wp2
            go_ret
            exact ⟨Hf.out false (by unfold formR; simp only; rw [if_neg h1, if_neg h2, if_neg hN, if_neg h3, if_neg h4, if_pos h5, ho, hi]; rfl), tb⟩
          · rw [hi] at hif
            go_wp2
            go_ret
            exact ⟨Hf.out true (by unfold formR; simp only; rw [if_neg h1, if_neg h2, if_neg hN, if_neg h3, if_neg h4, if_pos h5, ho, hi]; rfl), tb⟩
        rw [decide_eq_false hz3] at hm3
        go_wp2
        go_ret
        exact ⟨Hf.out false (by unfold formR; rw [if_neg h1, if_neg h2, if_neg hN, if_neg h3, if_neg h4, if_pos h5, decide_eq_false hz, decide_eq_false hz2, decide_eq_false hz3, Bool.false_and, Bool.false_and, Bool.false_and, Bool.or_false, Bool.or_false, Bool.and_false]), tb⟩
    have q5 : (k == 5) = false := by simpa using h5
    go_wp2
    go_ret
    exact ⟨Hf.out false (by unfold formR; rw [if_neg h1, if_neg h2, if_neg hN, if_neg h3, if_neg h4, if_neg h5]), tb⟩
end Go.Proofs.Ytlkckkagoommaaa

/- The contracts of Go library functions at this translation, laid in plain words by the tool of the kit; no condition. -/
namespace Go.Proofs
open Go.Shelf
def Try.lays106_ren : Go.Shelf.Ren := ⟨fun | 106 => 95 | 213 => 105 | 265 => 108 | n => n, fun | 9 => 9 | 3 => 3 | n => n, fun | n => n⟩
theorem Try.lays106 : Go.Proofs.Lays.n106 Try.prog Try.lays106_ren := {
  mixed := by kernel_rfl
  f106 := Try.func95.trans (congrArg some (by kernel_rfl))
  f213 := Try.func105.trans (congrArg some (by kernel_rfl))
  f265 := Try.func108.trans (congrArg some (by kernel_rfl))
  t3 := Try.underlying3
  a3 := Try.isAgg3
  z3 := Try.sizeOf3
  v3 := Try.zeroValue3
  t9 := Try.underlying9
  a9 := Try.isAgg9
  z9 := Try.sizeOf9
  v9 := Try.zeroValue9 }
open Go.RowKit in
/-- strings.Compare: "Compare returns an integer comparing two strings lexicographically. The result will be 0 if a == b, -1 if a < b, and +1 if a > b.": IT RETURNS 'Lib.compareBytes a b'; the world is as it was. (LAID: no walk: one application.) -/
theorem Try.strings_Compare (a b : ByteArray) (w : World) :
    Calls Try.prog 95 #[.string a, .string b] w fun e w' => e = .returned (.int .i64 (Lib.compareBytes a.data.toList b.data.toList)) ∧ w' = w := Any.strings_Compare Try.lays106 a b w
def Try.lays137_ren : Go.Shelf.Ren := ⟨fun | 137 => 74 | 217 => 96 | 266 => 106 | n => n, fun | 9 => 9 | 5 => 5 | 3 => 3 | n => n, fun | n => n⟩
theorem Try.lays137 : Go.Proofs.Lays.n137 Try.prog Try.lays137_ren := {
  mixed := by kernel_rfl
  f137 := Try.func74.trans (congrArg some (by kernel_rfl))
  f217 := Try.func96.trans (congrArg some (by kernel_rfl))
  f266 := Try.func106.trans (congrArg some (by kernel_rfl))
  t3 := Try.underlying3
  a3 := Try.isAgg3
  z3 := Try.sizeOf3
  v3 := Try.zeroValue3
  t5 := Try.underlying5
  a5 := Try.isAgg5
  z5 := Try.sizeOf5
  v5 := Try.zeroValue5
  t9 := Try.underlying9
  a9 := Try.isAgg9
  z9 := Try.sizeOf9
  v9 := Try.zeroValue9 }
open Go.RowKit in
/-- strings.IndexByte: "IndexByte returns the index of the first instance of c in s, or -1 if c is not present in s.": IT RETURNS 'Lib.indexByte s c'; the world is as it was. (LAID: no walk: one application.) -/
theorem Try.strings_IndexByte (s : ByteArray) (c : Int) (w : World) :
    Calls Try.prog 74 #[.string s, .int .u8 c] w fun e w' => e = .returned (.int .i64 (Lib.indexByte s.data.toList c.toNat.toUInt8)) ∧ w' = w := Any.strings_IndexByte Try.lays137 s c w
def Try.lays122_ren : Go.Shelf.Ren := ⟨fun | 122 => 94 | 215 => 104 | n => n, fun | 3 => 3 | 4 => 4 | n => n, fun | n => n⟩
theorem Try.lays122 : Go.Proofs.Lays.n122 Try.prog Try.lays122_ren := {
  mixed := by kernel_rfl
  f122 := Try.func94.trans (congrArg some (by kernel_rfl))
  f215 := Try.func104.trans (congrArg some (by kernel_rfl))
  t3 := Try.underlying3
  a3 := Try.isAgg3
  z3 := Try.sizeOf3
  v3 := Try.zeroValue3
  t4 := Try.underlying4
  a4 := Try.isAgg4
  z4 := Try.sizeOf4
  v4 := Try.zeroValue4 }
open Go.RowKit in
/-- cmp.Compare at int: "Compare returns -1 if x is less than y, 0 if x equals y, +1 if x is greater than y.": IT RETURNS 'Lib.compareInt x y'; the world is as it was. (LAID: no walk: one application.) -/
theorem Try.cmp_Compare_int (x y : Int) (w : World) :
    Calls Try.prog 94 #[.int .i64 x, .int .i64 y] w fun e w' => e = .returned (.int .i64 (Lib.compareInt x y)) ∧ w' = w := Any.cmp_Compare_int Try.lays122 x y w
def Try.lays190_ren : Go.Shelf.Ren := ⟨fun | 190 => 49 | 125 => 69 | 258 => 68 | 128 => 91 | 129 => 92 | 302 => 82 | 303 => 83 | 304 => 84 | 305 => 85 | 306 => 86 | 307 => 87 | 308 => 88 | 309 => 89 | 310 => 90 | 333 => 98 | 329 => 99 | 330 => 100 | 334 => 101 | 335 => 102 | 336 => 103 | 344 => 107 | n => n, fun | 31 => 73 | 9 => 9 | 3 => 3 | 46 => 120 | 0 => 0 | 51 => 141 | 53 => 143 | 4 => 4 | 183 => 134 | 182 => 133 | 131 => 84 | 5 => 5 | 218 => 147 | 222 => 151 | 228 => 154 | 229 => 39 | n => n, fun | n => n⟩
theorem Try.lays190 : Go.Proofs.Lays.n190 Try.prog Try.lays190_ren := {
  mixed := by kernel_rfl
  f125 := Try.func69.trans (congrArg some (by kernel_rfl))
  f128 := Try.func91.trans (congrArg some (by kernel_rfl))
  f129 := Try.func92.trans (congrArg some (by kernel_rfl))
  f190 := Try.func49.trans (congrArg some (by kernel_rfl))
  f258 := Try.func68.trans (congrArg some (by kernel_rfl))
  f302 := Try.func82.trans (congrArg some (by kernel_rfl))
  f303 := Try.func83.trans (congrArg some (by kernel_rfl))
  f304 := Try.func84.trans (congrArg some (by kernel_rfl))
  f305 := Try.func85.trans (congrArg some (by kernel_rfl))
  f306 := Try.func86.trans (congrArg some (by kernel_rfl))
  f307 := Try.func87.trans (congrArg some (by kernel_rfl))
  f308 := Try.func88.trans (congrArg some (by kernel_rfl))
  f309 := Try.func89.trans (congrArg some (by kernel_rfl))
  f310 := Try.func90.trans (congrArg some (by kernel_rfl))
  f329 := Try.func99.trans (congrArg some (by kernel_rfl))
  f330 := Try.func100.trans (congrArg some (by kernel_rfl))
  f333 := Try.func98.trans (congrArg some (by kernel_rfl))
  f334 := Try.func101.trans (congrArg some (by kernel_rfl))
  f335 := Try.func102.trans (congrArg some (by kernel_rfl))
  f336 := Try.func103.trans (congrArg some (by kernel_rfl))
  f344 := Try.func107.trans (congrArg some (by kernel_rfl))
  t0 := Try.underlying0
  a0 := Try.isAgg0
  z0 := Try.sizeOf0
  v0 := Try.zeroValue0
  t3 := Try.underlying3
  a3 := Try.isAgg3
  z3 := Try.sizeOf3
  v3 := Try.zeroValue3
  t4 := Try.underlying4
  a4 := Try.isAgg4
  z4 := Try.sizeOf4
  v4 := Try.zeroValue4
  t5 := Try.underlying5
  a5 := Try.isAgg5
  z5 := Try.sizeOf5
  v5 := Try.zeroValue5
  t9 := Try.underlying9
  a9 := Try.isAgg9
  z9 := Try.sizeOf9
  v9 := Try.zeroValue9
  t31 := Try.underlying73
  a31 := Try.isAgg73
  z31 := Try.sizeOf73
  v31 := Try.zeroValue73
  t46 := Try.underlying120
  a46 := Try.isAgg120
  z46 := Try.sizeOf120
  v46 := Try.zeroValue120
  t51 := Try.underlying141
  a51 := Try.isAgg141
  z51 := Try.sizeOf141
  v51 := Try.zeroValue141
  t53 := Try.underlying143
  a53 := Try.isAgg143
  z53 := Try.sizeOf143
  v53 := Try.zeroValue143
  t131 := Try.underlying84
  a131 := Try.isAgg84
  z131 := Try.sizeOf84
  v131 := Try.zeroValue84
  t182 := Try.underlying133
  a182 := Try.isAgg133
  z182 := Try.sizeOf133
  v182 := Try.zeroValue133
  t183 := Try.underlying134
  a183 := Try.isAgg134
  z183 := Try.sizeOf134
  v183 := Try.zeroValue134
  t218 := Try.underlying147
  a218 := Try.isAgg147
  z218 := Try.sizeOf147
  v218 := Try.zeroValue147
  t222 := Try.underlying151
  a222 := Try.isAgg151
  z222 := Try.sizeOf151
  v222 := Try.zeroValue151
  t228 := Try.underlying154
  a228 := Try.isAgg154
  z228 := Try.sizeOf154
  v228 := Try.zeroValue154
  t229 := Try.underlying39
  a229 := Try.isAgg39
  z229 := Try.sizeOf39
  v229 := Try.zeroValue39 }
open Go.Sort Go.RowKit in
theorem Try.slices_Sort_string (blk off cap : Nat) (ss : List (List UInt8)) (w : World) (hH : Holds encStr w blk off ss.toArray) (hblk : blk < w.heap.size) (hsz : ss.length < 4611686018427387904) :
    Calls Try.prog 49 #[.slice (some ⟨blk, off, none⟩) ss.length cap] w fun e w' =>
      e = .returned (.tuple #[]) ∧ ∃ n os, w' = grow (putRow encStr (Sort.ahead w n) blk off (ss.mergeSort fun x y => decide (x ≤ y)).toArray) os := Any.slices_Sort_string Try.lays190 blk off cap ss w hH hblk hsz
def Try.lays109_ren : Go.Shelf.Ren := ⟨fun | 109 => 71 | n => n, fun | 31 => 73 | 9 => 9 | 3 => 3 | 0 => 0 | 4 => 4 | n => n, fun | n => n⟩
theorem Try.lays109 : Go.Proofs.Lays.n109 Try.prog Try.lays109_ren := {
  mixed := by kernel_rfl
  f109 := Try.func71.trans (congrArg some (by kernel_rfl))
  t0 := Try.underlying0
  a0 := Try.isAgg0
  z0 := Try.sizeOf0
  v0 := Try.zeroValue0
  t3 := Try.underlying3
  a3 := Try.isAgg3
  z3 := Try.sizeOf3
  v3 := Try.zeroValue3
  t4 := Try.underlying4
  a4 := Try.isAgg4
  z4 := Try.sizeOf4
  v4 := Try.zeroValue4
  t9 := Try.underlying9
  a9 := Try.isAgg9
  z9 := Try.sizeOf9
  v9 := Try.zeroValue9
  t31 := Try.underlying73
  a31 := Try.isAgg73
  z31 := Try.sizeOf73
  v31 := Try.zeroValue73 }
open Go.Lib in
/-- slices.Index at []string: "Index returns the index of the first occurrence of v in s, or -1 if not present.": IT RETURNS 'Lib.idxOfS (the elements) v'; the world is as it was. 'zs': what the cells behind the slice's address hold (its spare capacity too, if you have it); 'zs.take n': its elements. (LAID: no walk: one application.) -/
theorem Try.slices_Index_string (b off n c : Nat) (zs : List ByteArray) (x : ByteArray) (w : World) (hz : n ≤ zs.length) (hbig : n ≤ 9223372036854775807) (hc : ∀ j, j < zs.length → w.cell? ⟨b, off + j, none⟩ = some (.string (zs.getD j ByteArray.empty))) :
    Calls Try.prog 71 #[.slice (some ⟨b, off, none⟩) n c, .string x] w fun e w' => e = .returned (.int .i64 (Lib.idxOfS (zs.take n) x)) ∧ w' = w := Any.slices_Index_string Try.lays109 b off n c zs x w hz hbig hc
open Go.Lib in
/-- The same at a slice of length 0, a nil one too: no cell is known, none is asked for. (LAID: no walk: one application.) -/
theorem Try.slices_Index_string_empty (a : Option Addr) (c : Nat) (x : ByteArray) (w : World) :
    Calls Try.prog 71 #[.slice a 0 c, .string x] w fun e w' => e = .returned (.int .i64 (Lib.idxOfS [] x)) ∧ w' = w := Any.slices_Index_string_empty Try.lays109 a c x w
def Try.lays194_ren : Go.Shelf.Ren := ⟨fun | 194 => 50 | n => n, fun | 31 => 73 | 9 => 9 | 3 => 3 | 4 => 4 | 0 => 0 | n => n, fun | n => n⟩
theorem Try.lays194 : Go.Proofs.Lays.n194 Try.prog Try.lays194_ren := {
  mixed := by kernel_rfl
  f194 := Try.func50.trans (congrArg some (by kernel_rfl))
  t0 := Try.underlying0
  a0 := Try.isAgg0
  z0 := Try.sizeOf0
  v0 := Try.zeroValue0
  t3 := Try.underlying3
  a3 := Try.isAgg3
  z3 := Try.sizeOf3
  v3 := Try.zeroValue3
  t4 := Try.underlying4
  a4 := Try.isAgg4
  z4 := Try.sizeOf4
  v4 := Try.zeroValue4
  t9 := Try.underlying9
  a9 := Try.isAgg9
  z9 := Try.sizeOf9
  v9 := Try.zeroValue9
  t31 := Try.underlying73
  a31 := Try.isAgg73
  z31 := Try.sizeOf73
  v31 := Try.zeroValue73 }
open Go.RowKit Go.Lib Go.Sort in
/-- slices.Compact at []string: "Compact replaces consecutive runs of equal elements with a single copy. This is like the uniq command found on Unix. Compact modifies the contents of the slice s and returns the modified slice, which may have a smaller length. Compact zeroes the elements between the new length and the original length. The result preserves the nilness of s.": IT RETURNS THE SLICE CUT TO 'Lib.compact zs'; ITS CELLS HOLD 'Lib.compact zs', THEN ZERO VALUES up to the old length; all else is as it was, but for the count of draws. IN THE WORDS OF slices.Sort's CONTRACT ('Holds', 'putRow'): so the everyday 'slices.Sort(xs); xs = slices.Compact(xs)' goes from the one contract to the other. It asks 'zs.length ≤ cap' (every slice's: the reslicing 's[:k]' looks at it). Length 0, nil: '.._empty'. (LAID: no walk: one application.) -/
theorem Try.slices_Compact_string (blk off cap : Nat) (zs : List (List UInt8)) (w : World) (hH : Holds encStr w blk off zs.toArray) (hsz : zs.length ≤ 9223372036854775807) (hcap : zs.length ≤ cap) :
    Calls Try.prog 50 #[.slice (some ⟨blk, off, none⟩) zs.length cap] w fun e w' => e = .returned (.slice (some ⟨blk, off, none⟩) (Lib.compact zs).length cap) ∧ ∃ q, w' = putRow encStr (Sort.ahead w q) blk off (Lib.compact zs ++ List.replicate (zs.length - (Lib.compact zs).length) []).toArray := Any.slices_Compact_string Try.lays194 blk off cap zs w hH hsz hcap
end Go.Proofs

/- The order of values and of rows: cmp.Or, value.Value.Cmp. For every values. -/
namespace Go.Proofs.Ytlkckkagoommaaa
open Go.RowKit

/-- the first that is not 0 -/
def orV : List Int → Int
  | [] => 0
  | x :: r => if x = 0 then orV r else x
def cmpVV (a b : VD) : Int := orV [Lib.compareInt a.kind b.kind, Lib.compareInt a.num b.num, Lib.compareBytes a.text.data.toList b.text.data.toList]
def cmpRV : List VD → List VD → Int
  | [], [] => 0
  | [], _ :: _ => -1
  | _ :: _, [] => 1
  | a :: l, b :: r => if cmpVV a b = 0 then cmpRV l r else cmpVV a b

theorem compareInt_neg (x y : Int) : Lib.compareInt y x = -Lib.compareInt x y := by
  unfold Lib.compareInt
  split <;> split <;> (try split) <;> omega
theorem compareInt_b (x y : Int) : -1 ≤ Lib.compareInt x y ∧ Lib.compareInt x y ≤ 1 := by
  unfold Lib.compareInt
  split <;> (try split) <;> omega
theorem compareBytes_neg : ∀ (x y : List UInt8), Lib.compareBytes y x = -Lib.compareBytes x y
  | [], [] => rfl
  | [], _ :: _ => rfl
  | _ :: _, [] => rfl
  | a :: l, b :: r => by
    unfold Lib.compareBytes
    by_cases h1 : a < b
    · have h2 : ¬ b < a := by rw [UInt8.lt_iff_toNat_lt] at h1 ⊢; omega
      rw [if_neg h2, if_pos h1, if_pos h1]; rfl
    · by_cases h2 : b < a
      · rw [if_pos h2, if_neg h1, if_pos h2]
      · rw [if_neg h2, if_neg h1, if_neg h1, if_neg h2]; exact compareBytes_neg l r
theorem compareBytes_b : ∀ (x y : List UInt8), -1 ≤ Lib.compareBytes x y ∧ Lib.compareBytes x y ≤ 1
  | [], [] => ⟨by decide, by decide⟩
  | [], _ :: _ => ⟨Int.le_refl (-1), show (-1 : Int) ≤ 1 by decide⟩
  | _ :: _, [] => ⟨show (-1 : Int) ≤ 1 by decide, Int.le_refl 1⟩
  | a :: l, b :: r => by
    unfold Lib.compareBytes
    split
    · omega
    · split
      · omega
      · exact compareBytes_b l r
theorem cmpVV_neg (a b : VD) : cmpVV b a = -cmpVV a b := by
  unfold cmpVV
  rw [compareInt_neg a.kind, compareInt_neg a.num, compareBytes_neg a.text.data.toList]
  generalize Lib.compareInt a.kind b.kind = x
  generalize Lib.compareInt a.num b.num = y
  generalize Lib.compareBytes a.text.data.toList b.text.data.toList = z
  simp only [orV]
  by_cases h1 : x = 0 <;> by_cases h2 : y = 0 <;> by_cases h3 : z = 0 <;> simp [h1, h2, h3]
theorem cmpVV_b (a b : VD) : -1 ≤ cmpVV a b ∧ cmpVV a b ≤ 1 := by
  have h1 := compareInt_b a.kind b.kind
  have h2 := compareInt_b a.num b.num
  have h3 := compareBytes_b a.text.data.toList b.text.data.toList
  unfold cmpVV
  simp only [orV]
  split
  · split
    · split <;> omega
    · omega
  · omega
theorem cmpRV_neg : ∀ (l r : List VD), cmpRV r l = -cmpRV l r
  | [], [] => rfl
  | [], _ :: _ => rfl
  | _ :: _, [] => rfl
  | a :: l, b :: r => by
    unfold cmpRV
    rw [cmpVV_neg a b]
    by_cases h : cmpVV a b = 0
    · rw [if_pos (by omega), if_pos h]; exact cmpRV_neg l r
    · rw [if_neg (by omega), if_neg h]
theorem cmpRV_b : ∀ (l r : List VD), -1 ≤ cmpRV l r ∧ cmpRV l r ≤ 1
  | [], [] => ⟨by decide, by decide⟩
  | [], _ :: _ => ⟨Int.le_refl (-1), show (-1 : Int) ≤ 1 by decide⟩
  | _ :: _, [] => ⟨show (-1 : Int) ≤ 1 by decide, Int.le_refl 1⟩
  | a :: l, b :: r => by
    unfold cmpRV
    split
    · exact cmpRV_b l r
    · exact cmpVV_b a b

set_option maxHeartbeats 800000 in
theorem or_any (A : Option Addr) (cap n : Nat) (l : List Int) (hn : l.length = n) (w : World) (h : RdK inE w A l) (hl : n ≤ 140737000000000) :
    Calls Try.prog 93 #[.slice A n cap] w fun e w' => e = .returned (.int .i64 (orV l)) ∧ w' = w := by
  subst hn
  go_enter Try.func93, Try.ntmps93
  go_wp2
  go_loopw [8] (fun i wr => ∃ k : Nat, k ≤ l.length ∧ i = .int .i64 k ∧ Hid (orV l = orV (l.drop k)) ∧ wr = w) (fun i _ => l.length - (intOf i).toNat)
  case atStart => exact ⟨0, by omega, rfl, Lib.hid rfl, rfl⟩
  case round =>
    obtain ⟨k, hk, rfl, Ho, rfl⟩ := hrel
    by_cases hlt : k < l.length
    · obtain ⟨ad, rfl, c0⟩ := RdKI.at_ h k hlt
      have hst : orV (l.drop k) = if l[k] = 0 then orV (l.drop (k + 1)) else l[k] := by rw [List.drop_eq_getElem_cons hlt]; rfl
      obtain ⟨x, hx⟩ : ∃ x, x = l[k] := ⟨_, rfl⟩
      rw [← hx] at hst c0
      have Hst := Lib.hid hst
      clear hst hx
      by_cases h0 : x = 0
      · subst h0
        have Hq := Lib.hid (show orV l = orV (l.drop (k + 1)) by rw [Ho.out, Hst.out, if_pos rfl])
        go_wp2
        go_roundw
        case rel => exact ⟨k + 1, by omega, by go_num, Hq, trivial⟩
        case measure => simp [intOf]; omega
      · have Hq := Lib.hid (show orV l = x by rw [Ho.out, Hst.out, if_neg h0])
        have hq : (x == 0) = false := by rw [beq_eq_false_iff_ne]; exact h0
        have hq' : (x != 0) = true := by rw [bne, hq]; rfl
        go_wp2
        go_ret
        exact ⟨ret_int Hq.out.symm, rfl⟩
    · obtain rfl : k = l.length := by omega
      have Hq := Lib.hid (show orV l = 0 by rw [Ho.out, List.drop_length]; rfl)
      go_wp2
      go_ret
      exact ⟨ret_int Hq.out.symm, rfl⟩

theorem wp_still_tail' {P : Program} {id : Nat} {Q : Exit → Act → World → Prop} {a : Act} {w : World} {l : List Oper} (n : Nat) (hm : P.follows .mixedOrders = true) (hB : Region.lexTailB .any l.toArray n = true)
    (h : ∀ w2, w2 = w.drew → wpStill P l.toArray w2 (fun a' => wpList P l.toArray Q (l.drop n) a' w2) (l.take n) a) : (Code.region id l.toArray true).wp P Q a w :=
  wp_region_still_tail n hm hB (h _ rfl)

set_option maxRecDepth 20000 in
set_option maxHeartbeats 1600000 in
theorem cmpVal_any (a b : VD) (w : World) :
    Calls Try.prog 73 #[a.val, b.val] w fun e w' => e = .returned (.int .i64 (cmpVV a b)) ∧ Touch [] w w' := by
  obtain ⟨k1, n1, s1⟩ := a
  obtain ⟨k2, n2, s2⟩ := b
  have h1 := fun w' => Try.cmp_Compare_int k1 k2 w'
  have h2 := fun w' => Try.cmp_Compare_int n1 n2 w'
  have h3 := fun w' => Try.strings_Compare s1 s2 w'
  have hc : cmpVV ⟨k1, n1, s1⟩ ⟨k2, n2, s2⟩ = orV [Lib.compareInt k1 k2, Lib.compareInt n1 n2, Lib.compareBytes s1.data.toList s2.data.toList] := rfl
  rw [hc]
  obtain ⟨x, hx⟩ : ∃ x, x = Lib.compareInt k1 k2 := ⟨_, rfl⟩
  obtain ⟨y, hy⟩ : ∃ y, y = Lib.compareInt n1 n2 := ⟨_, rfl⟩
  obtain ⟨z, hz⟩ : ∃ z, z = Lib.compareBytes s1.data.toList s2.data.toList := ⟨_, rfl⟩
  rw [← hx, ← hy, ← hz]
  rw [← hx] at h1
  rw [← hy] at h2
  rw [← hz] at h3
  have H1 := Lib.hid h1; have H2 := Lib.hid h2; have H3 := Lib.hid h3
  have t0 := (((Touch.refl [] w).alloc (.cells #[.int .i64 k1, .int .i64 n1, .string s1] 30)).alloc (.cells #[.int .i64 k2, .int .i64 n2, .string s2] 30))
  clear h1 h2 h3 hx hy hz hc
  dsimp only [VD.val]
  go_enter Try.func73, Try.ntmps73
  go_wp2_with fail
  refine wp_still_tail' 15 (by kernel_rfl) (by kernel_rfl) ?_
  intro w2 hw2
  have ta := (((Touch.refl [] (w.alloc (.cells #[.int .i64 k1, .int .i64 n1, .string s1] 30))).alloc (.cells #[.int .i64 k2, .int .i64 n2, .string s2] 30))).drew
  have tb := ((Touch.refl [] ((w.alloc (.cells #[.int .i64 k1, .int .i64 n1, .string s1] 30)).alloc (.cells #[.int .i64 k2, .int .i64 n2, .string s2] 30)))).drew
  have t2 := t0.drew
  rw [← hw2] at ta tb t2
  have hb1 := heap_alloc_new w (.cells #[.int .i64 k1, .int .i64 n1, .string s1] 30)
  have hb2 := heap_alloc_new (w.alloc (.cells #[.int .i64 k1, .int .i64 n1, .string s1] 30)) (.cells #[.int .i64 k2, .int .i64 n2, .string s2] 30)
  rw [World.size_alloc] at hb2
  have e0 := ta.cell (cell_blk hb1 (i := 0) rfl) (by simp)
  have e1 := ta.cell (cell_blk hb1 (i := 1) rfl) (by simp)
  have e2 := ta.cell (cell_blk hb1 (i := 2) rfl) (by simp)
  have f0 := tb.cell (cell_blk hb2 (i := 0) rfl) (by simp)
  have f1 := tb.cell (cell_blk hb2 (i := 1) rfl) (by simp)
  have f2 := tb.cell (cell_blk hb2 (i := 2) rfl) (by simp)
  clear hb1 hb2 ta tb t0 hw2
  simp only [List.take_succ_cons, List.take_zero, List.drop_succ_cons, List.drop_zero]
  repeat still_step
  still_call (H1.out _)
  repeat still_step
  still_call (H2.out _)
  repeat still_step
  still_call (H3.out _)
  refine wpStill_nil ?_
  have r3 : RdK inE (w2.alloc (.cells #[.int .i64 x, .int .i64 y, .int .i64 z] 3)) (some ⟨w2.heap.size, 0, none⟩) [x, y, z] := RdK.row w2 3 [x, y, z] _ rfl
  go_wp2_with fail
  refine (or_any _ 3 3 [x, y, z] rfl _ r3 (by omega)).mono ?_
  rintro e w3 ⟨rfl, rfl⟩
  go_wp2
  go_ret
  exact ⟨rfl, t2.alloc _⟩
end Go.Proofs.Ytlkckkagoommaaa

/- value.Arith and what it calls: two values reckoned. For all. -/
namespace Go.Proofs.Ytlkckkagoommaaa
open Go.RowKit

def productV (a b : Int) : Int × Bool :=
  if a = 0 ∨ b = 0 then (0, true)
  else if a = -1 ∧ b = -9223372036854775808 ∨ b = -1 ∧ a = -9223372036854775808 then (0, false)
  else (wrap64 (a * b), wrap64 ((wrap64 (a * b)).tdiv b) == a)
def reckonV (o a b : Int) : Int × Bool :=
  if o = 43 then (wrap64 (a + b), (decide (a < wrap64 (a + b)) == decide (0 < b)) || b == 0)
  else if o = 45 then (wrap64 (a - b), (decide (wrap64 (a - b) < a) == decide (0 < b)) || b == 0)
  else if o = 42 then productV a b
  else if o = 47 then (wrap64 (a.tdiv b), a != -9223372036854775808 || b != -1)
  else if b = -1 then (0, true) else (a.tmod b, true)
def arithV (o : Int) (a b : VD) : VD × Int :=
  if o ≠ 43 ∧ o ≠ 45 ∧ o ≠ 42 ∧ o ≠ 47 ∧ o ≠ 37 then (zeroV, 20)
  else if a.kind = 2 ∨ b.kind = 2 then (zeroV, 12)
  else if a.kind = 0 ∨ b.kind = 0 then (zeroV, 0)
  else if b.num = 0 ∧ (o = 47 ∨ o = 37) then (zeroV, 11)
  else if (reckonV o a.num b.num).2 = true then (ofV (reckonV o a.num b.num).1, 0) else (zeroV, 10)

set_option maxRecDepth 20000 in
set_option maxHeartbeats 800000 in
theorem product_any (a b : Int) (w : World) :
    Calls Try.prog 97 #[.int .i64 a, .int .i64 b] w fun e w' => e = .returned (.tuple #[.int .i64 (productV a b).1, .bool (productV a b).2]) ∧ Touch [] w w' := by
  by_cases h0 : a = 0 ∨ b = 0
  · have hp : productV a b = (0, true) := by unfold productV; rw [if_pos h0]
    have Hp := Lib.hid hp
    clear hp
    by_cases ha : a = 0
    · subst ha
      go_enter Try.func97, Try.ntmps97
      go_wp2_with fail
      go_ret2
      exact ⟨by rw [Hp.out]; rfl, Touch.refl _ _⟩
    · have hb : b = 0 := h0.resolve_left ha
      have qa : (a == 0) = false := by simpa using ha
      subst hb
      clear h0 ha
      go_enter Try.func97, Try.ntmps97
      go_wp2_with fail
      go_ret2
      exact ⟨by rw [Hp.out]; rfl, Touch.refl _ _⟩
  have ha0 : a ≠ 0 := fun h => h0 (.inl h)
  have hb0 : b ≠ 0 := fun h => h0 (.inr h)
  have qa : (a == 0) = false := by simpa using ha0
  have qb : (b == 0) = false := by simpa using hb0
  by_cases h1 : a = -1 ∧ b = -9223372036854775808 ∨ b = -1 ∧ a = -9223372036854775808
  · have Hp := Lib.hid (show productV a b = (0, false) by unfold productV; rw [if_neg h0, if_pos h1])
    clear ha0 hb0 qa qb h0
    rcases h1 with ⟨rfl, rfl⟩ | ⟨rfl, rfl⟩
    · go_enter Try.func97, Try.ntmps97
      go_wp2_with fail
      go_ret2
      exact ⟨by rw [Hp.out]; rfl, Touch.refl _ _⟩
    · go_enter Try.func97, Try.ntmps97
      go_wp2_with fail
      go_ret2
      exact ⟨by rw [Hp.out]; rfl, Touch.refl _ _⟩
  · have Hp := Lib.hid (show productV a b = (wrap64 (a * b), wrap64 ((wrap64 (a * b)).tdiv b) == a) by unfold productV; rw [if_neg h0, if_neg h1])
    have hnot : ((a == -1 && b == -9223372036854775808) || (b == -1 && a == -9223372036854775808)) = false := by
      rw [Bool.eq_false_iff]
      intro h
      simp only [Bool.or_eq_true, Bool.and_eq_true, beq_iff_eq] at h
      exact h1 h
    have key : ∀ (W : World), Touch [] w W → True := fun _ _ => trivial
    clear h0 h1 ha0 key
    rcases e1 : (a == -1) with _ | _ <;> rcases e2 : (b == -9223372036854775808) with _ | _ <;> rcases e3 : (b == -1) with _ | _ <;> rcases e4 : (a == -9223372036854775808) with _ | _ <;> (try (exfalso; simp [e1, e2, e3, e4] at hnot; done))
    all_goals
      clear hnot
      go_enter Try.func97, Try.ntmps97
      go_wp2_with fail
      refine wp_region_tw w (Touch.refl _ _) (by kernel_rfl) (by kernel_rfl) ?_
      repeat (go_big_quiet_step (fail))
      refine wpQuiet_nil ?_
      rintro _ ⟨y, rfl⟩
      go_wp2
      go_ret2
      exact ⟨by rw [Hp.out]; rfl, y.t⟩

set_option maxRecDepth 20000 in
set_option maxHeartbeats 800000 in
theorem reckon_any (o a b : Int) (hb : o = 47 ∨ o = 37 → b ≠ 0) (ho : o = 43 ∨ o = 45 ∨ o = 42 ∨ o = 47 ∨ o = 37) (w : World) :
    Calls Try.prog 75 #[.int .u8 o, .int .i64 a, .int .i64 b] w fun e w' => e = .returned (.tuple #[.int .i64 (reckonV o a b).1, .bool (reckonV o a b).2]) ∧ Touch [] w w' := by
  rcases ho with rfl | rfl | rfl | rfl | rfl
  · clear hb
    go_enter Try.func75, Try.ntmps75
    go_wp2_with fail
    all_goals
      go_ret2
      refine ⟨?_, Touch.refl _ _⟩
      simp [reckonV, *]
  · clear hb
    go_enter Try.func75, Try.ntmps75
    go_wp2_with fail
    all_goals
      go_ret2
      refine ⟨?_, Touch.refl _ _⟩
      simp [reckonV, *]
  · have Hp := Lib.hid fun w' => product_any a b w'
    have hr : reckonV 42 a b = productV a b := by simp [reckonV]
    have Hr := Lib.hid hr
    clear hb hr
    go_enter Try.func75, Try.ntmps75
    go_wp2_with fail
    refine (Hp.out _).mono ?_
    rintro e w1 ⟨rfl, t1⟩
    go_wp2_with fail
    go_ret2
    exact ⟨by rw [Hr.out]; rfl, t1⟩
  · have hb0 := hb (.inl rfl)
    have qb : (b == 0) = false := by simpa using hb0
    clear hb
    go_enter Try.func75, Try.ntmps75
    go_wp2_with fail
    all_goals
      go_ret2
      refine ⟨?_, Touch.refl _ _⟩
      simp [reckonV, *]
  · have hb0 := hb (.inr rfl)
    have qb : (b == 0) = false := by simpa using hb0
    clear hb
    by_cases h1 : b = -1
    · subst h1
      go_enter Try.func75, Try.ntmps75
      go_wp2_with fail
      all_goals
        go_ret2
        refine ⟨?_, Touch.refl _ _⟩
        simp [reckonV]
    · have q1 : (b == -1) = false := by simpa using h1
      go_enter Try.func75, Try.ntmps75
      go_wp2_with fail
      all_goals
        go_ret2
        refine ⟨?_, Touch.refl _ _⟩
        simp [reckonV, h1]

theorem idx_ops {o : Int} (ho : o = 43 ∨ o = 45 ∨ o = 42 ∨ o = 47 ∨ o = 37) : ∃ n : Nat, Lib.indexByte (S [43, 45, 42, 47, 37]).data.toList o.toNat.toUInt8 = (n : Int) := by
  rcases ho with rfl | rfl | rfl | rfl | rfl
  · exact ⟨0, by decide +kernel⟩
  · exact ⟨1, by decide +kernel⟩
  · exact ⟨2, by decide +kernel⟩
  · exact ⟨3, by decide +kernel⟩
  · exact ⟨4, by decide +kernel⟩

set_option maxRecDepth 20000 in
set_option maxHeartbeats 3200000 in
theorem arith_any (o : Int) (ho : o = 43 ∨ o = 45 ∨ o = 42 ∨ o = 47 ∨ o = 37) (a b : VD) (w : World) :
    Calls Try.prog 56 #[.int .u8 o, a.val, b.val] w fun e w' => e = .returned (.tuple #[(arithV o a b).1.val, .int .i64 (arithV o a b).2]) ∧ Touch [] w w' := by
  obtain ⟨k1, n1, s1⟩ := a
  obtain ⟨k2, n2, s2⟩ := b
  dsimp only [VD.val]
  have t0 := (((Touch.refl [] w).alloc (.cells #[.int .i64 k1, .int .i64 n1, .string s1] 30)).alloc (.cells #[.int .i64 k2, .int .i64 n2, .string s2] 30)).alloc (.cells #[.int .i64 0, .int .i64 0, .string ⟨#[]⟩] 30)
  have hb1 := (((Touch.refl [] (w.alloc (.cells #[.int .i64 k1, .int .i64 n1, .string s1] 30))).alloc (.cells #[.int .i64 k2, .int .i64 n2, .string s2] 30)).alloc (.cells #[.int .i64 0, .int .i64 0, .string ⟨#[]⟩] 30)).blk (heap_alloc_new w (.cells #[.int .i64 k1, .int .i64 n1, .string s1] 30)) (by simp)
  have hb2 := ((Touch.refl [] ((w.alloc (.cells #[.int .i64 k1, .int .i64 n1, .string s1] 30)).alloc (.cells #[.int .i64 k2, .int .i64 n2, .string s2] 30))).alloc (.cells #[.int .i64 0, .int .i64 0, .string ⟨#[]⟩] 30)).blk (heap_alloc_new (w.alloc (.cells #[.int .i64 k1, .int .i64 n1, .string s1] 30)) (.cells #[.int .i64 k2, .int .i64 n2, .string s2] 30)) (by simp)
  have hbr := heap_alloc_new ((w.alloc (.cells #[.int .i64 k1, .int .i64 n1, .string s1] 30)).alloc (.cells #[.int .i64 k2, .int .i64 n2, .string s2] 30)) (.cells #[.int .i64 0, .int .i64 0, .string ⟨#[]⟩] 30)
  simp only [World.size_alloc] at hb2 hbr
  obtain ⟨W, hW⟩ : ∃ W, W = ((w.alloc (.cells #[.int .i64 k1, .int .i64 n1, .string s1] 30)).alloc (.cells #[.int .i64 k2, .int .i64 n2, .string s2] 30)).alloc (.cells #[.int .i64 0, .int .i64 0, .string ⟨#[]⟩] 30) := ⟨_, rfl⟩
  rw [← hW] at hb1 hb2 hbr t0
  have HW := Lib.hid hW; have Hb1 := Lib.hid hb1; have Hb2 := Lib.hid hb2; have Hbr := Lib.hid hbr; have T0 := Lib.hid t0
  have Hnull := Lib.hid fun w' => null_any w'
  have Hof := Lib.hid fun n w' => of_any n w'
  simp only [VD.val, zeroV, ofV, S] at Hnull Hof
  clear hW hb1 hb2 hbr t0
  have hib := fun w' => Try.strings_IndexByte (S [43, 45, 42, 47, 37]) o w'
  obtain ⟨ix, hix⟩ := idx_ops ho
  rw [hix] at hib
  have Hib := Lib.hid hib
  have hno : ¬ (o ≠ 43 ∧ o ≠ 45 ∧ o ≠ 42 ∧ o ≠ 47 ∧ o ≠ 37) := by omega
  clear hix hib
  by_cases h1 : k1 = 2
  · have Hf := Lib.hid (show arithV o ⟨k1, n1, s1⟩ ⟨k2, n2, s2⟩ = (zeroV, 12) by unfold arithV; rw [if_neg hno, if_pos (.inl h1)])
    subst h1
    go_enter Try.func56, Try.ntmps56
    go_wp2_with fail
    rw [← HW.out]
    refine (Hib.out _).mono ?_
    rintro e w' ⟨rfl, rfl⟩
    obtain ⟨a0, a1, a2, _⟩ := blk3 Hb1.out
    obtain ⟨b0, b1, b2, _⟩ := blk3 Hb2.out
    have hbr0 := Hbr.out
    obtain ⟨r0, r1, r2, f0, f1, f2⟩ := blk3 Hbr.out
    go_wp2_with fail
    obtain ⟨q1, q2⟩ := out3 Hbr.out (.int .i64 0) (.int .i64 0) (.string ⟨#[]⟩)
    obtain ⟨d0, d1, d2, _⟩ := blk3 q1
    refine bodyPost_ret (v := .tuple #[.agg #[.int .i64 0, .int .i64 0, .string ⟨#[]⟩], .int .i64 (12)]) (by simp [results, Try.results56, go_sem, d0, d1, d2]) rfl ⟨?_, T0.out.trans q2 (fun b hb => .inr (by simp at hb; omega))⟩
    rw [Hf.out]; rfl
  have q1 : (k1 == 2) = false := by simpa using h1
  by_cases h2 : k2 = 2
  · have Hf := Lib.hid (show arithV o ⟨k1, n1, s1⟩ ⟨k2, n2, s2⟩ = (zeroV, 12) by unfold arithV; rw [if_neg hno, if_pos (.inr h2)])
    subst h2
    go_enter Try.func56, Try.ntmps56
    go_wp2_with fail
    rw [← HW.out]
    refine (Hib.out _).mono ?_
    rintro e w' ⟨rfl, rfl⟩
    obtain ⟨a0, a1, a2, _⟩ := blk3 Hb1.out
    obtain ⟨b0, b1, b2, _⟩ := blk3 Hb2.out
    have hbr0 := Hbr.out
    obtain ⟨r0, r1, r2, f0, f1, f2⟩ := blk3 Hbr.out
    go_wp2_with fail
    obtain ⟨q1, q2⟩ := out3 Hbr.out (.int .i64 0) (.int .i64 0) (.string ⟨#[]⟩)
    obtain ⟨d0, d1, d2, _⟩ := blk3 q1
    refine bodyPost_ret (v := .tuple #[.agg #[.int .i64 0, .int .i64 0, .string ⟨#[]⟩], .int .i64 (12)]) (by simp [results, Try.results56, go_sem, d0, d1, d2]) rfl ⟨?_, T0.out.trans q2 (fun b hb => .inr (by simp at hb; omega))⟩
    rw [Hf.out]; rfl
  have q2' : (k2 == 2) = false := by simpa using h2
  by_cases h3 : k1 = 0
  · have Hf := Lib.hid (show arithV o ⟨k1, n1, s1⟩ ⟨k2, n2, s2⟩ = (zeroV, 0) by unfold arithV; rw [if_neg hno, if_neg (by rintro (h | h); exact h1 h; exact h2 h), if_pos (.inl h3)])
    subst h3
    clear h1 h2
    go_enter Try.func56, Try.ntmps56
    go_wp2_with fail
    rw [← HW.out]
    refine (Hib.out _).mono ?_
    rintro e w' ⟨rfl, rfl⟩
    obtain ⟨a0, a1, a2, _⟩ := blk3 Hb1.out
    obtain ⟨b0, b1, b2, _⟩ := blk3 Hb2.out
    have hbr0 := Hbr.out
    obtain ⟨r0, r1, r2, f0, f1, f2⟩ := blk3 Hbr.out
    go_wp2_with fail
    clear a0 a1 a2 b0 b1 b2 r0 r1 r2 f0 f1 f2
    refine (Hnull.out _).mono ?_
    rintro e w1 ⟨rfl, u1⟩
    obtain ⟨a0, a1, a2, _⟩ := blk3 (u1.blk Hb1.out (by simp))
    obtain ⟨b0, b1, b2, _⟩ := blk3 (u1.blk Hb2.out (by simp))
    have hbr1 := (u1.blk Hbr.out (by simp))
    obtain ⟨r0, r1, r2, f0, f1, f2⟩ := blk3 (u1.blk Hbr.out (by simp))
    go_wp2_with fail
    obtain ⟨q1, q2⟩ := out3 (u1.blk Hbr.out (by simp)) (.int .i64 0) (.int .i64 0) (.string ⟨#[]⟩)
    obtain ⟨d0, d1, d2, _⟩ := blk3 q1
    refine bodyPost_ret (v := .tuple #[.agg #[.int .i64 0, .int .i64 0, .string ⟨#[]⟩], .int .i64 (0)]) (by simp [results, Try.results56, go_sem, d0, d1, d2]) rfl ⟨?_, (T0.out.trans0 u1).trans q2 (fun b hb => .inr (by simp at hb; omega))⟩
    rw [Hf.out]; rfl
  have q3 : (k1 == 0) = false := by simpa using h3
  by_cases h4 : k2 = 0
  · have Hf := Lib.hid (show arithV o ⟨k1, n1, s1⟩ ⟨k2, n2, s2⟩ = (zeroV, 0) by unfold arithV; rw [if_neg hno, if_neg (by rintro (h | h); exact h1 h; exact h2 h), if_pos (.inr h4)])
    subst h4
    clear h1 h2 h3
    go_enter Try.func56, Try.ntmps56
    go_wp2_with fail
    rw [← HW.out]
    refine (Hib.out _).mono ?_
    rintro e w' ⟨rfl, rfl⟩
    obtain ⟨a0, a1, a2, _⟩ := blk3 Hb1.out
    obtain ⟨b0, b1, b2, _⟩ := blk3 Hb2.out
    have hbr0 := Hbr.out
    obtain ⟨r0, r1, r2, f0, f1, f2⟩ := blk3 Hbr.out
    go_wp2_with fail
    clear a0 a1 a2 b0 b1 b2 r0 r1 r2 f0 f1 f2
    refine (Hnull.out _).mono ?_
    rintro e w1 ⟨rfl, u1⟩
    obtain ⟨a0, a1, a2, _⟩ := blk3 (u1.blk Hb1.out (by simp))
    obtain ⟨b0, b1, b2, _⟩ := blk3 (u1.blk Hb2.out (by simp))
    have hbr1 := (u1.blk Hbr.out (by simp))
    obtain ⟨r0, r1, r2, f0, f1, f2⟩ := blk3 (u1.blk Hbr.out (by simp))
    go_wp2_with fail
    obtain ⟨q1, q2⟩ := out3 (u1.blk Hbr.out (by simp)) (.int .i64 0) (.int .i64 0) (.string ⟨#[]⟩)
    obtain ⟨d0, d1, d2, _⟩ := blk3 q1
    refine bodyPost_ret (v := .tuple #[.agg #[.int .i64 0, .int .i64 0, .string ⟨#[]⟩], .int .i64 (0)]) (by simp [results, Try.results56, go_sem, d0, d1, d2]) rfl ⟨?_, (T0.out.trans0 u1).trans q2 (fun b hb => .inr (by simp at hb; omega))⟩
    rw [Hf.out]; rfl
  have q4 : (k2 == 0) = false := by simpa using h4
  have harith : arithV o ⟨k1, n1, s1⟩ ⟨k2, n2, s2⟩ = if n2 = 0 ∧ (o = 47 ∨ o = 37) then (zeroV, 11) else if (reckonV o n1 n2).2 = true then (ofV (reckonV o n1 n2).1, 0) else (zeroV, 10) := by
    unfold arithV; rw [if_neg hno, if_neg (by rintro (h | h); exact h1 h; exact h2 h), if_neg (by rintro (h | h); exact h3 h; exact h4 h)]
  clear h1 h2 h3 h4 hno
  by_cases h5 : n2 = 0 ∧ (o = 47 ∨ o = 37)
  · have Hf := Lib.hid (show arithV o ⟨k1, n1, s1⟩ ⟨k2, n2, s2⟩ = (zeroV, 11) by rw [harith, if_pos h5])
    obtain ⟨rfl, h6⟩ := h5
    clear harith
    rcases h6 with rfl | rfl
    · clear ho
      go_enter Try.func56, Try.ntmps56
      go_wp2_with fail
      rw [← HW.out]
      refine (Hib.out _).mono ?_
      rintro e w' ⟨rfl, rfl⟩
      obtain ⟨a0, a1, a2, _⟩ := blk3 Hb1.out
      obtain ⟨b0, b1, b2, _⟩ := blk3 Hb2.out
      have hbr0 := Hbr.out
      obtain ⟨r0, r1, r2, f0, f1, f2⟩ := blk3 Hbr.out
      go_wp2_with fail
      obtain ⟨q1, q2⟩ := out3 Hbr.out (.int .i64 0) (.int .i64 0) (.string ⟨#[]⟩)
      obtain ⟨d0, d1, d2, _⟩ := blk3 q1
      refine bodyPost_ret (v := .tuple #[.agg #[.int .i64 0, .int .i64 0, .string ⟨#[]⟩], .int .i64 (11)]) (by simp [results, Try.results56, go_sem, d0, d1, d2]) rfl ⟨?_, T0.out.trans q2 (fun b hb => .inr (by simp at hb; omega))⟩
      rw [Hf.out]; rfl
    · clear ho
      go_enter Try.func56, Try.ntmps56
      go_wp2_with fail
      rw [← HW.out]
      refine (Hib.out _).mono ?_
      rintro e w' ⟨rfl, rfl⟩
      obtain ⟨a0, a1, a2, _⟩ := blk3 Hb1.out
      obtain ⟨b0, b1, b2, _⟩ := blk3 Hb2.out
      have hbr0 := Hbr.out
      obtain ⟨r0, r1, r2, f0, f1, f2⟩ := blk3 Hbr.out
      go_wp2_with fail
      obtain ⟨q1, q2⟩ := out3 Hbr.out (.int .i64 0) (.int .i64 0) (.string ⟨#[]⟩)
      obtain ⟨d0, d1, d2, _⟩ := blk3 q1
      refine bodyPost_ret (v := .tuple #[.agg #[.int .i64 0, .int .i64 0, .string ⟨#[]⟩], .int .i64 (11)]) (by simp [results, Try.results56, go_sem, d0, d1, d2]) rfl ⟨?_, T0.out.trans q2 (fun b hb => .inr (by simp at hb; omega))⟩
      rw [Hf.out]; rfl
  rw [if_neg h5] at harith
  have hrk := fun w' => reckon_any o n1 n2 (fun h hn => h5 ⟨hn, h⟩) ho w'
  have hd : (n2 == 0) = true → (o == 47) = false ∧ (o == 37) = false := fun h => by
    have hn : n2 = 0 := by simpa using h
    exact ⟨by simpa using fun h' => h5 ⟨hn, .inl h'⟩, by simpa using fun h' => h5 ⟨hn, .inr h'⟩⟩
  obtain ⟨rv, hrv⟩ : ∃ rv, rv = reckonV o n1 n2 := ⟨_, rfl⟩
  rw [← hrv] at hrk harith
  obtain ⟨rn, rb⟩ := rv
  simp only at hrk harith
  have Hrk := Lib.hid hrk
  have Hha := Lib.hid harith
  clear hrk hrv h5 ho harith
  rcases hz : (n2 == 0) with _ | _
  · clear hd
    cases rb
    · have Hf := Lib.hid (show arithV o ⟨k1, n1, s1⟩ ⟨k2, n2, s2⟩ = (zeroV, 10) by rw [Hha.out, if_neg (by simp)])
      go_enter Try.func56, Try.ntmps56
      go_wp2_with fail
      rw [← HW.out]
      refine (Hib.out _).mono ?_
      rintro e w' ⟨rfl, rfl⟩
      obtain ⟨a0, a1, a2, _⟩ := blk3 Hb1.out
      obtain ⟨b0, b1, b2, _⟩ := blk3 Hb2.out
      have hbr0 := Hbr.out
      obtain ⟨r0, r1, r2, f0, f1, f2⟩ := blk3 Hbr.out
      go_wp2_with fail
      clear a0 a1 a2 b0 b1 b2 r0 r1 r2 f0 f1 f2
      refine (Hrk.out _).mono ?_
      rintro e w1 ⟨rfl, u1⟩
      obtain ⟨a0, a1, a2, _⟩ := blk3 (u1.blk Hb1.out (by simp))
      obtain ⟨b0, b1, b2, _⟩ := blk3 (u1.blk Hb2.out (by simp))
      have hbr1 := (u1.blk Hbr.out (by simp))
      obtain ⟨r0, r1, r2, f0, f1, f2⟩ := blk3 (u1.blk Hbr.out (by simp))
      go_wp2_with fail
      obtain ⟨q1, q2⟩ := out3 (u1.blk Hbr.out (by simp)) (.int .i64 0) (.int .i64 0) (.string ⟨#[]⟩)
      obtain ⟨d0, d1, d2, _⟩ := blk3 q1
      refine bodyPost_ret (v := .tuple #[.agg #[.int .i64 0, .int .i64 0, .string ⟨#[]⟩], .int .i64 (10)]) (by simp [results, Try.results56, go_sem, d0, d1, d2]) rfl ⟨?_, (T0.out.trans0 u1).trans q2 (fun b hb => .inr (by simp at hb; omega))⟩
      rw [Hf.out]; rfl
    · have Hf := Lib.hid (show arithV o ⟨k1, n1, s1⟩ ⟨k2, n2, s2⟩ = (ofV rn, 0) by rw [Hha.out, if_pos rfl])
      go_enter Try.func56, Try.ntmps56
      go_wp2_with fail
      rw [← HW.out]
      refine (Hib.out _).mono ?_
      rintro e w' ⟨rfl, rfl⟩
      obtain ⟨a0, a1, a2, _⟩ := blk3 Hb1.out
      obtain ⟨b0, b1, b2, _⟩ := blk3 Hb2.out
      have hbr0 := Hbr.out
      obtain ⟨r0, r1, r2, f0, f1, f2⟩ := blk3 Hbr.out
      go_wp2_with fail
      clear a0 a1 a2 b0 b1 b2 r0 r1 r2 f0 f1 f2
      refine (Hrk.out _).mono ?_
      rintro e w1 ⟨rfl, u1⟩
      obtain ⟨a0, a1, a2, _⟩ := blk3 (u1.blk Hb1.out (by simp))
      obtain ⟨b0, b1, b2, _⟩ := blk3 (u1.blk Hb2.out (by simp))
      have hbr1 := (u1.blk Hbr.out (by simp))
      obtain ⟨r0, r1, r2, f0, f1, f2⟩ := blk3 (u1.blk Hbr.out (by simp))
      go_wp2_with fail
      clear a0 a1 a2 b0 b1 b2 r0 r1 r2 f0 f1 f2
      refine (Hof.out _ _).mono ?_
      rintro e w2 ⟨rfl, u2⟩
      obtain ⟨a0, a1, a2, _⟩ := blk3 (u2.blk (u1.blk Hb1.out (by simp)) (by simp))
      obtain ⟨b0, b1, b2, _⟩ := blk3 (u2.blk (u1.blk Hb2.out (by simp)) (by simp))
      have hbr2 := (u2.blk (u1.blk Hbr.out (by simp)) (by simp))
      obtain ⟨r0, r1, r2, f0, f1, f2⟩ := blk3 (u2.blk (u1.blk Hbr.out (by simp)) (by simp))
      go_wp2_with fail
      obtain ⟨q1, q2⟩ := out3 (u2.blk (u1.blk Hbr.out (by simp)) (by simp)) (.int .i64 1) (.int .i64 rn) (.string ⟨#[]⟩)
      obtain ⟨d0, d1, d2, _⟩ := blk3 q1
      refine bodyPost_ret (v := .tuple #[.agg #[.int .i64 1, .int .i64 rn, .string ⟨#[]⟩], .int .i64 (0)]) (by simp [results, Try.results56, go_sem, d0, d1, d2]) rfl ⟨?_, ((T0.out.trans0 u1).trans0 u2).trans q2 (fun b hb => .inr (by simp at hb; omega))⟩
      rw [Hf.out]; rfl
  · obtain ⟨e1, e2⟩ := hd hz
    cases rb
    · have Hf := Lib.hid (show arithV o ⟨k1, n1, s1⟩ ⟨k2, n2, s2⟩ = (zeroV, 10) by rw [Hha.out, if_neg (by simp)])
      go_enter Try.func56, Try.ntmps56
      go_wp2_with fail
      rw [← HW.out]
      refine (Hib.out _).mono ?_
      rintro e w' ⟨rfl, rfl⟩
      obtain ⟨a0, a1, a2, _⟩ := blk3 Hb1.out
      obtain ⟨b0, b1, b2, _⟩ := blk3 Hb2.out
      have hbr0 := Hbr.out
      obtain ⟨r0, r1, r2, f0, f1, f2⟩ := blk3 Hbr.out
      go_wp2_with fail
      clear a0 a1 a2 b0 b1 b2 r0 r1 r2 f0 f1 f2
      refine (Hrk.out _).mono ?_
      rintro e w1 ⟨rfl, u1⟩
      obtain ⟨a0, a1, a2, _⟩ := blk3 (u1.blk Hb1.out (by simp))
      obtain ⟨b0, b1, b2, _⟩ := blk3 (u1.blk Hb2.out (by simp))
      have hbr1 := (u1.blk Hbr.out (by simp))
      obtain ⟨r0, r1, r2, f0, f1, f2⟩ := blk3 (u1.blk Hbr.out (by simp))
      go_wp2_with fail
      obtain ⟨q1, q2⟩ := out3 (u1.blk Hbr.out (by simp)) (.int .i64 0) (.int .i64 0) (.string ⟨#[]⟩)
      obtain ⟨d0, d1, d2, _⟩ := blk3 q1
      refine bodyPost_ret (v := .tuple #[.agg #[.int .i64 0, .int .i64 0, .string ⟨#[]⟩], .int .i64 (10)]) (by simp [results, Try.results56, go_sem, d0, d1, d2]) rfl ⟨?_, (T0.out.trans0 u1).trans q2 (fun b hb => .inr (by simp at hb; omega))⟩
      rw [Hf.out]; rfl
    · have Hf := Lib.hid (show arithV o ⟨k1, n1, s1⟩ ⟨k2, n2, s2⟩ = (ofV rn, 0) by rw [Hha.out, if_pos rfl])
      go_enter Try.func56, Try.ntmps56
      go_wp2_with fail
      rw [← HW.out]
      refine (Hib.out _).mono ?_
      rintro e w' ⟨rfl, rfl⟩
      obtain ⟨a0, a1, a2, _⟩ := blk3 Hb1.out
      obtain ⟨b0, b1, b2, _⟩ := blk3 Hb2.out
      have hbr0 := Hbr.out
      obtain ⟨r0, r1, r2, f0, f1, f2⟩ := blk3 Hbr.out
      go_wp2_with fail
      clear a0 a1 a2 b0 b1 b2 r0 r1 r2 f0 f1 f2
      refine (Hrk.out _).mono ?_
      rintro e w1 ⟨rfl, u1⟩
      obtain ⟨a0, a1, a2, _⟩ := blk3 (u1.blk Hb1.out (by simp))
      obtain ⟨b0, b1, b2, _⟩ := blk3 (u1.blk Hb2.out (by simp))
      have hbr1 := (u1.blk Hbr.out (by simp))
      obtain ⟨r0, r1, r2, f0, f1, f2⟩ := blk3 (u1.blk Hbr.out (by simp))
      go_wp2_with fail
      clear a0 a1 a2 b0 b1 b2 r0 r1 r2 f0 f1 f2
      refine (Hof.out _ _).mono ?_
      rintro e w2 ⟨rfl, u2⟩
      obtain ⟨a0, a1, a2, _⟩ := blk3 (u2.blk (u1.blk Hb1.out (by simp)) (by simp))
      obtain ⟨b0, b1, b2, _⟩ := blk3 (u2.blk (u1.blk Hb2.out (by simp)) (by simp))
      have hbr2 := (u2.blk (u1.blk Hbr.out (by simp)) (by simp))
      obtain ⟨r0, r1, r2, f0, f1, f2⟩ := blk3 (u2.blk (u1.blk Hbr.out (by simp)) (by simp))
      go_wp2_with fail
      obtain ⟨q1, q2⟩ := out3 (u2.blk (u1.blk Hbr.out (by simp)) (by simp)) (.int .i64 1) (.int .i64 rn) (.string ⟨#[]⟩)
      obtain ⟨d0, d1, d2, _⟩ := blk3 q1
      refine bodyPost_ret (v := .tuple #[.agg #[.int .i64 1, .int .i64 rn, .string ⟨#[]⟩], .int .i64 (0)]) (by simp [results, Try.results56, go_sem, d0, d1, d2]) rfl ⟨?_, ((T0.out.trans0 u1).trans0 u2).trans q2 (fun b hb => .inr (by simp at hb; omega))⟩
      rw [Hf.out]; rfl
end Go.Proofs.Ytlkckkagoommaaa
