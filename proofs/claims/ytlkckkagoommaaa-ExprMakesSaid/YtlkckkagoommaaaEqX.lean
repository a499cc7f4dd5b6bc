/- expr.Expr.Equal, slices.EqualFunc at it: are two expressions one? For all expressions. -/
import Derived.Test.YtlkckkagoommaaaOwnX
import Derived.Laws.StructEq
namespace Go.Proofs.Ytlkckkagoommaaa
open Go.RowKit

def eqV3 (a b : VD) : Bool := decide (a.kind = b.kind) && (decide (a.num = b.num) && decide (a.text = b.text))
theorem eqV3_iff (a b : VD) : eqV3 a b = true ↔ a = b := by
  obtain ⟨ak, an, at_⟩ := a
  obtain ⟨bk, bn, bt⟩ := b
  simp [eqV3]
theorem eqIn_val (a b : VD) (w : World) : (Op.equalIn 10000 30 (.agg #[.int .i64 a.kind, .int .i64 a.num, .string a.text]) (.agg #[.int .i64 b.kind, .int .i64 b.num, .string b.text])).run Try.prog w = .ok (eqV3 a b) w := by
  have hS : Try.prog.underlying 30 = some (.struct (Try.prog.fieldsOf 30)) := by kernel_rfl
  have hp : Try.prog.stoodInHeld 30 = false := by kernel_rfl
  rw [show (10000 : Nat) = 9999 + 1 from rfl, run_equalIn_agg w 9999 30 _ _ hS hp]
  simp only [Program.fieldsOf, Try.underlying30]
  have hs := bs_beq a.text b.text
  go_simp
  by_cases h1 : a.kind = b.kind <;> by_cases h2 : a.num = b.num <;> by_cases h3 : a.text = b.text <;> simp [eqV3, h1, h2, h3]
theorem guard_val (op : BinOp) (x y : Operand) (a b : Array Value) (w : World) : (eqGuard op 30 x y (.agg a) (.agg b)).run Try.prog w = .ok () w := run_eqGuard_agg w op _ x y _ _ (by kernel_rfl)
theorem eqL_drop {α : Type} (f : α → α → Bool) (l r : List α) (k : Nat) (h : k < l.length) (h2 : k < r.length) : eqL f (l.drop k) (r.drop k) = (f l[k] r[k] && eqL f (l.drop (k + 1)) (r.drop (k + 1))) := by
  rw [List.drop_eq_getElem_cons h, List.drop_eq_getElem_cons h2]; rfl
theorem eqL_len {α : Type} (f : α → α → Bool) : ∀ l r : List α, l.length ≠ r.length → eqL f l r = false
  | [], [] => fun h => absurd rfl h
  | [], _ :: _ => fun _ => rfl
  | _ :: _, [] => fun _ => rfl
  | a :: l, b :: r => fun h => by
    show (f a b && eqL f l r) = false
    rw [eqL_len f l r (by simpa using h), Bool.and_false]

/-- what Equal promises -/
def EqSaid (n : Nat) : Prop := ∀ (a b : TX n) (x y : XC) (w : World), ExP xcE anyB n w x a → ExP xcE anyB n w y b → sizeX n a ≤ 1000000 → sizeX n b ≤ 1000000 →
    Calls Try.prog 29 #[x.val, y.val] w fun r w' => r = .returned (.bool (eqX n a b)) ∧ Touch [] w w'

set_option maxRecDepth 20000 in
set_option maxHeartbeats 1600000 in
theorem equalFuncX (n : Nat) (ih : EqSaid n) (A B : Option Addr) (c1 c2 m1 m2 : Nat) (l r : List (TX n)) (hm1 : l.length = m1) (hm2 : r.length = m2) (w : World) (h : ArgsP xcE anyB n w A l) (h2 : ArgsP xcE anyB n w B r) (hl : sumX n l ≤ 1000000) (hl2 : sumX n r ≤ 1000000) :
    Calls Try.prog 46 #[.slice A m1 c1, .slice B m2 c2, .func (.func 29) #[] #[]] w fun e w' => e = .returned (.bool (eqL (eqX n) l r)) ∧ Touch [] w w' := by
  subst hm1 hm2
  have hs1 := len_le_sum n l
  by_cases hlen : l.length = r.length
  · have Hlen := Lib.hid hlen
    have hq' : ((l.length : Int) != (r.length : Int)) = false := by rw [hlen]; simp
    clear hlen
    go_enter Try.func46, Try.ntmps46
    go_wp2
    clear hq'
    go_loopw [17] (fun i wr => ∃ k : Nat, k ≤ l.length ∧ i = .int .i64 k ∧ Hid (eqL (eqX n) l r = eqL (eqX n) (l.drop k) (r.drop k)) ∧ Touch [] w wr) (fun i _ => l.length - (intOf i).toNat)
    case atStart => exact ⟨0, by omega, rfl, Lib.hid rfl, Touch.refl _ _⟩
    case round =>
      obtain ⟨k, hk, rfl, He, ht⟩ := hrel
      by_cases hlt : k < l.length
      · have hlt2 : k < r.length := by have := Hlen.out; omega
        obtain ⟨ad, b, off, y, rfl, hadd, hy, hcell⟩ := (h.touch0 ht).at_ xcE_length k hlt
        obtain ⟨bd, b2, off2, z, rfl, hadd2, hz, hcell2⟩ := (h2.touch0 ht).at_ xcE_length k hlt2
        have hst := eqL_drop (eqX n) l r k hlt hlt2
        rw [← He.out] at hst
        have hms := size_mem (List.getElem_mem hlt)
        have hms2 := size_mem (List.getElem_mem hlt2)
        obtain ⟨x1, hx1⟩ : ∃ x1, x1 = l[k] := ⟨_, rfl⟩
        obtain ⟨x2, hx2⟩ : ∃ x2, x2 = r[k] := ⟨_, rfl⟩
        rw [← hx1] at hst hy hms
        rw [← hx2] at hst hz hms2
        have Hst := Lib.hid hst
        have Hf := Lib.hid fun w' (t : Touch [] wr w') => ih x1 x2 y z w' (hy.touch0 t) (hz.touch0 t) (by omega) (by omega)
        have ta := ((Touch.refl [] wr).alloc (.cells #[.int .i64 y.nd.kind, .string y.nd.name, .int .i64 y.nd.v.kind, .int .i64 y.nd.v.num, .string y.nd.v.text, .string y.nd.op, .slice y.A y.n y.c] 33)).alloc (.cells #[.int .i64 z.nd.kind, .string z.nd.name, .int .i64 z.nd.v.kind, .int .i64 z.nd.v.num, .string z.nd.v.text, .string z.nd.op, .slice z.A z.n z.c] 33)
        have c0 := hcell 0 _ rfl; have c1 := hcell 1 _ rfl; have c2 := hcell 2 _ rfl; have c3 := hcell 3 _ rfl; have c4 := hcell 4 _ rfl; have c5 := hcell 5 _ rfl; have c6 := hcell 6 _ rfl
        have d0 := hcell2 0 _ rfl; have d1 := hcell2 1 _ rfl; have d2 := hcell2 2 _ rfl; have d3 := hcell2 3 _ rfl; have d4 := hcell2 4 _ rfl; have d5 := hcell2 5 _ rfl; have d6 := hcell2 6 _ rfl
        rw [Nat.add_zero] at c0 d0
        clear hst hx1 hx2 hcell hcell2 He
        obtain ⟨⟨k1, nm1, ⟨vk1, vn1, vt1⟩, op1⟩, A1, m1, c1'⟩ := y
        obtain ⟨⟨k2, nm2, ⟨vk2, vn2, vt2⟩, op2⟩, A2, m2, c2'⟩ := z
        simp only [XC.val] at Hf
        simp only at c0 c1 c2 c3 c4 c5 c6 d0 d1 d2 d3 d4 d5 d6 ta
        have tA := (Touch.refl [] wr).alloc (.cells #[.int .i64 k1, .string nm1, .int .i64 vk1, .int .i64 vn1, .string vt1, .string op1, .slice A1 m1 c1'] 33)
        replace d0 := tA.cell d0 (by simp); replace d1 := tA.cell d1 (by simp); replace d2 := tA.cell d2 (by simp); replace d3 := tA.cell d3 (by simp); replace d4 := tA.cell d4 (by simp); replace d5 := tA.cell d5 (by simp); replace d6 := tA.cell d6 (by simp)
        have hkI : (k : Int) < (l.length : Int) := by omega
        have hkI2 : (k : Int) < (r.length : Int) := by omega
        obtain ⟨bo, hbo⟩ : ∃ bo, bo = eqX n x1 x2 := ⟨_, rfl⟩
        rw [← hbo] at Hst Hf
        clear hbo
        cases bo
        · go_wp2_with fail
          refine (Hf.out _ ta).mono ?_
          rintro e w1 ⟨rfl, t1⟩
          go_wp2_with fail
          go_ret
          exact ⟨ret_bool (by rw [Hst.out]; rfl), (ht.trans0 ta).trans0 t1⟩
        · go_wp2_with fail
          refine (Hf.out _ ta).mono ?_
          rintro e w1 ⟨rfl, t1⟩
          go_wp2_with fail
          go_roundw
          case rel => exact ⟨k + 1, by omega, by go_num, Lib.hid (by rw [Hst.out]; rfl), (ht.trans0 ta).trans0 t1⟩
          case measure => simp [intOf]; omega
      · obtain rfl : k = l.length := by omega
        have Hf := Lib.hid (show eqL (eqX n) l r = true by rw [He.out, List.drop_length, List.drop_of_length_le (by have := Hlen.out; omega)]; rfl)
        go_wp2_with fail
        go_ret
        exact ⟨ret_bool (by rw [Hf.out]), ht⟩
  · have Hf := Lib.hid (eqL_len (eqX n) l r hlen)
    have hq' : ((l.length : Int) != (r.length : Int)) = true := by rw [bne_iff_ne]; omega
    clear hlen
    go_enter Try.func46, Try.ntmps46
    go_wp2
    go_ret
    exact ⟨ret_bool (by rw [Hf.out]), Touch.refl _ _⟩

set_option maxRecDepth 20000 in
set_option maxHeartbeats 3200000 in
theorem equalX_any (n : Nat) : EqSaid n := by
  induction n with
  | zero => intro a; exact a.elim
  | succ n ih =>
    intro a b x y w hx hy hs hs2
    obtain ⟨d, l⟩ := a
    obtain ⟨f, r⟩ := b
    obtain ⟨h1, h2, h3⟩ := hx.args
    obtain ⟨g1, g2, g3⟩ := hy.args
    have hsum : sumX n l ≤ 1000000 := by have hs' : 1 + sumX n l ≤ 1000000 := hs; omega
    have hsum2 : sumX n r ≤ 1000000 := by have hs' : 1 + sumX n r ≤ 1000000 := hs2; omega
    have hfin : eqX (n + 1) (d, l) (f, r) = (eqN d f && eqL (eqX n) l r) := rfl
    dsimp only at h1 g1 h2 g2 h3 g3
    subst h1 g1
    have Hef := Lib.hid fun w' (t : Touch [] w w') => equalFuncX n ih x.A y.A x.c y.c x.n y.n l r h2.symm g2.symm w' (h3.touch0 t) (g3.touch0 t) hsum hsum2
    obtain ⟨⟨k1, nm1, ⟨vk1, vn1, vt1⟩, op1⟩, A1, m1, c1⟩ := x
    obtain ⟨⟨k2, nm2, ⟨vk2, vn2, vt2⟩, op2⟩, A2, m2, c2⟩ := y
    dsimp only [XC.val]
    simp only at Hef hfin
    have t0 := ((Touch.refl [] w).alloc (.cells #[.int .i64 k1, .string nm1, .int .i64 vk1, .int .i64 vn1, .string vt1, .string op1, .slice A1 m1 c1] 33)).alloc (.cells #[.int .i64 k2, .string nm2, .int .i64 vk2, .int .i64 vn2, .string vt2, .string op2, .slice A2 m2 c2] 33)
    have hgd := guard_val
    have heq := eqIn_val ⟨vk1, vn1, vt1⟩ ⟨vk2, vn2, vt2⟩
    have q1 := bs_beq nm1 nm2
    have q2 := bs_beq op1 op2
    rw [hfin]
    clear hx hy hs hs2 hfin h2 h3 g2 g3 ih
    by_cases e1 : k1 = k2
    rotate_left
    · have e1' : (k1 == k2) = false := by simpa using e1
      have Hf := Lib.hid (show (eqN ⟨k1, nm1, ⟨vk1, vn1, vt1⟩, op1⟩ ⟨k2, nm2, ⟨vk2, vn2, vt2⟩, op2⟩ && eqL (eqX n) l r) = false by simp [eqN, e1])
      clear e1
      go_enter Try.func29, Try.ntmps29
      go_wp2_with fail
      go_ret
      exact ⟨by rw [Hf.out]; rfl, t0⟩
    subst e1
    by_cases e2 : nm1 = nm2
    rotate_left
    · rw [decide_eq_false e2] at q1
      have Hf := Lib.hid (show (eqN ⟨k1, nm1, ⟨vk1, vn1, vt1⟩, op1⟩ ⟨k1, nm2, ⟨vk2, vn2, vt2⟩, op2⟩ && eqL (eqX n) l r) = false by simp [eqN, e2])
      clear e2
      go_enter Try.func29, Try.ntmps29
      go_wp2_with fail
      go_ret
      exact ⟨by rw [Hf.out]; rfl, t0⟩
    rw [decide_eq_true e2] at q1
    by_cases e3 : eqV3 ⟨vk1, vn1, vt1⟩ ⟨vk2, vn2, vt2⟩ = true
    rotate_left
    · have e3' : eqV3 ⟨vk1, vn1, vt1⟩ ⟨vk2, vn2, vt2⟩ = false := by simpa using e3
      rw [e3'] at heq
      have Hf := Lib.hid (show (eqN ⟨k1, nm1, ⟨vk1, vn1, vt1⟩, op1⟩ ⟨k1, nm2, ⟨vk2, vn2, vt2⟩, op2⟩ && eqL (eqX n) l r) = false by
        show ((decide (k1 = k1) && (decide (nm1 = nm2) && (eqV3 ⟨vk1, vn1, vt1⟩ ⟨vk2, vn2, vt2⟩ && decide (op1 = op2)))) && eqL (eqX n) l r) = false
        rw [e3']; simp)
      clear e3 e3' e2
      go_enter Try.func29, Try.ntmps29
      go_wp2_with fail
      go_ret
      exact ⟨by rw [Hf.out]; rfl, t0⟩
    rw [e3] at heq
    by_cases e4 : op1 = op2
    rotate_left
    · rw [decide_eq_false e4] at q2
      have Hf := Lib.hid (show (eqN ⟨k1, nm1, ⟨vk1, vn1, vt1⟩, op1⟩ ⟨k1, nm2, ⟨vk2, vn2, vt2⟩, op2⟩ && eqL (eqX n) l r) = false by simp [eqN, e4])
      clear e4 e3 e2
      go_enter Try.func29, Try.ntmps29
      go_wp2_with fail
      go_ret
      exact ⟨by rw [Hf.out]; rfl, t0⟩
    rw [decide_eq_true e4] at q2
    have Hf := Lib.hid (show (eqN ⟨k1, nm1, ⟨vk1, vn1, vt1⟩, op1⟩ ⟨k1, nm2, ⟨vk2, vn2, vt2⟩, op2⟩ && eqL (eqX n) l r) = eqL (eqX n) l r by
        show ((decide (k1 = k1) && (decide (nm1 = nm2) && (eqV3 ⟨vk1, vn1, vt1⟩ ⟨vk2, vn2, vt2⟩ && decide (op1 = op2)))) && eqL (eqX n) l r) = _
        rw [e3]; simp [e2, e4])
    clear e4 e3 e2
    go_enter Try.func29, Try.ntmps29
    go_wp2_with fail
    refine (Hef.out _ t0).mono ?_
    rintro e w1 ⟨rfl, t1⟩
    go_wp2_with fail
    go_ret
    exact ⟨by rw [Hf.out]; rfl, t0.trans0 t1⟩
end Go.Proofs.Ytlkckkagoommaaa
