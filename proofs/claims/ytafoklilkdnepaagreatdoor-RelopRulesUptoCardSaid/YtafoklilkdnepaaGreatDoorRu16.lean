/- Part 16 of the texts of this proof, one behind the other; each begins with its own sentence. No condition beyond those that its theorems state. -/
import Derived.Test.YtafoklilkdnepaaGreatDoorRu15
/- From the walks of each kind to what the general walks ask for. No program's function. -/
namespace Go.Proofs.YtafoklilkdnepaaGreatDoor
open Go.RowKit

theorem TyPost.base {b b' : Nat} {v : Int × List CD} {w : World} {e : Ending} {w' : World} (h : TyPost b v w e w') (hb : b' ≤ b) : TyPost b' v w e w' := by
 obtain ⟨s, h1, h2, h3, h4, h5, h6⟩ := h
 exact ⟨s, h1, h2, h3, h4, fun x hx => ⟨Nat.le_trans hb (h5 x hx).1, (h5 x hx).2⟩, h6⟩
theorem SizeC.touch0 {w w' : World} {x : PC} {k : Nat} (h : SizeC w x k) (ht : Touch [] w w') : SizeC w' x k := fun w'' t => h w'' (ht.trans0 t)
theorem TypedC.touch0 {w w' : World} {I : Option Addr} {ic n : Nat} {x : PC} {d : Int} {v : Int × List CD} (h : TypedC w I ic n x d v) (ht : Touch [] w w') : TypedC w' I ic n x d v := fun w'' t => h w'' (ht.trans0 t)
/-- a scan is one plan -/
theorem sizeC_leaf (x : PC) (h0 : x.args.n = 0) (w : World) : SizeC w x 1 := fun w' _ => by
 have := size_node x [] [] w' (by rw [h0]; rfl) (by rw [h0]; rfl) (RdK.nil _ _ _) (fun i h => absurd h (by simp)) (by simp) (by omega)
 exact this
theorem sizeC_node (x : PC) (xs : List PC) (ks : List Nat) (w : World) (hxs : xs.length = x.args.n) (hks : ks.length = x.args.n) (hX : RdK pcE w x.args.A xs) (hT : ∀ i (h1 : i < xs.length) (h2 : i < ks.length), SizeC w xs[i] ks[i]) (hsum : ks.sum ≤ 1000000) (hnn : x.args.n ≤ 1000000) : SizeC w x (1 + ks.sum) :=
 fun w' t => size_node x xs ks w' hxs hks (RdK.touch0 hX t) (fun i a b => (hT i a b).touch0 t) hsum hnn
theorem typedC_scan (x : PC) (hk0 : x.kind = 1) (ha0 : x.args.n = 0) (d : Int) (hd : d ≤ 16) (I : Option Addr) (ic n : Nat) (l : List SrcD) (hn : l.length = n) (hl : n ≤ 1000000) (hok : ∀ d ∈ l, d.Ok) (w : World) (hG : NeedsAt w) (h : SrcsAt w I l) : TypedC w I ic n x d (scanV l x.name) :=
 fun w' t => typed_scan x hk0 ha0 d hd I ic n l hn hl hok w' (hG.touch0 t) (h.touch0 t)
theorem typedC_node (x : PC) (kk m : Nat) (hk0 : x.kind = kk) (hk2 : 2 ≤ kk) (hk9 : kk ≤ 9) (hm : x.args.n = m) (hnd : needV kk = m) (d : Int) (hd0 : 0 ≤ d) (hd : d ≤ 16) (I : Option Addr) (ic n : Nat) (w : World) (hG : NeedsAt w)
  (xs : List PC) (vs : List (Int × List CD)) (hxs : xs.length = m) (hvs : vs.length = m) (hX : RdK pcE w x.args.A xs) (hT : ∀ i (h1 : i < xs.length) (h2 : i < vs.length), TypedC w I ic n xs[i] (d + 1) vs[i])
  (v : Int × List CD) (hv : errL vs = 0 → SchemaC w x (vs.map (·.2)) v) (hok : ∀ c ∈ v.2, c.Ok) (hvl : v.2.length ≤ 1000000) : TypedC w I ic n x d (nodeV vs v) :=
 fun w' t => typed_node x kk m hk0 hk2 hk9 hm hnd d hd0 hd I ic n w' (hG.touch0 t) xs vs hxs hvs (RdK.touch0 hX t) (fun i a b => (hT i a b).touch0 t) v (fun h0 w'' base L lc sl t2 => hv h0 w'' base L lc sl (t.trans0 t2)) hok hvl
theorem evalC_scan (x : PC) (hk0 : x.kind = 1) (ha0 : x.args.n = 0) (I : Option Addr) (ic n : Nat) (l : List SrcD) (hn : l.length = n) (hl : n ≤ 1000000) (k : Nat) (hkl : k < l.length) (hs : srcI l x.name = some k) (hcl : l[k].cs.length ≤ 1000000) (hrl : l[k].rows.length ≤ 1000000) (hrr : RowsLe l[k].rows) (w : World) (h : SrcsAt w I l) : EvalC w I ic n x (0, l[k].cs, l[k].rows) :=
 fun w' t => eval_scan x hk0 ha0 I ic n l hn hl k hkl hs hcl hrl hrr w' (h.touch0 t)
theorem evalC_node (x : PC) (kk m : Nat) (hk0 : x.kind = kk) (hk2 : 2 ≤ kk) (hm : x.args.n = m) (hm2 : m ≤ 2) (I : Option Addr) (ic n : Nat) (w : World)
  (xs : List PC) (vs : List (Int × List CD × List (List VD))) (hxs : xs.length = m) (hvs : vs.length = m) (hX : RdK pcE w x.args.A xs) (hE : ∀ i (h1 : i < xs.length) (h2 : i < vs.length), EvalC w I ic n xs[i] vs[i])
  (ver : Int) (cs : List CD) (hS : errL (vs.map fun v => (v.1, v.2.1)) = 0 → SchemaC w x (vs.map (·.2.1)) (ver, cs)) (rv : Int × List (List VD)) (hR : errL (vs.map fun v => (v.1, v.2.1)) = 0 → RowsC w x (vs.map (·.2)) rv)
  (hok : ∀ c ∈ cs, c.Ok) (hvl : cs.length ≤ 1000000) (hrk : RowsOk rv.2) (hrl : RowsLe rv.2) (hrn : rv.2.length ≤ 1000000) : EvalC w I ic n x (nodeE vs cs rv) :=
 fun w' t => eval_node x kk m hk0 hk2 hm hm2 I ic n w' xs vs hxs hvs (RdK.touch0 hX t) (fun i a b w'' t2 => hE i a b w'' (t.trans0 t2)) ver cs (fun h0 w'' base L lc sl t2 => hS h0 w'' base L lc sl (t.trans0 t2)) rv (fun h0 w'' L lc tl t2 => hR h0 w'' L lc tl (t.trans0 t2)) hok hvl hrk hrl hrn
/-- the schema of a join -/
theorem schemaC_join (x : PC) (hk0 : x.kind = 4) (on : List (ByteArray × ByteArray)) (ho : x.on.n = on.length) (hlo : on.length ≤ 1000000) (a b : List CD) (hl1 : a.length ≤ 1000) (hl2 : b.length ≤ 1000) (w : World) (hr : RdK prE w x.on.A on) : SchemaC w x [a, b] (onV a b on, a ++ b) := by
 intro w' base L lc sl t hb hs hL
 obtain ⟨hs1, hs2⟩ := hs
 match sl, hs1 with
 | [s1, s2], _ =>
  have h1 := hs2 0 (by simp) (by simp)
  have h2 := hs2 1 (by simp) (by simp)
  refine (schema_join x hk0 on ho hlo L lc s1 s2 a b h1.1 h2.1 h1.2.1 h2.2.1 hl1 hl2 w' hL (RdK.touch0 hr t) h1.2.2.1 h2.2.2.1).mono ?_
  rintro e w'' ⟨A, c, rfl, hm⟩
  exact (TyPost.made hm).base hb
/-- the schema of a group -/
theorem schemaC_group (x : PC) (hk0 : x.kind = 6) (names : List ByteArray) (aggs : List AG) (hnn : x.names.n = names.length) (han : x.aggs.n = aggs.length) (hln : names.length ≤ 100000) (hla : aggs.length ≤ 100000) (a : List CD) (hl1 : a.length ≤ 1000) (w : World)
  (hr : RdK btE w x.names.A names) (hg : RdK agE w x.aggs.A aggs) : SchemaC w x [a] (groupV a names aggs) := by
 intro w' base L lc sl t hb hs hL
 obtain ⟨hs1, hs2⟩ := hs
 match sl, hs1 with
 | [s1], _ =>
  have h1 := hs2 0 (by simp) (by simp)
  refine (schema_group x hk0 names aggs hnn han hln hla L lc s1 a h1.1 hl1 w' hL (RdK.touch0 hr t) (RdK.touch0 hg t) h1.2.2.1).mono ?_
  intro e w'' h
  exact (TyPost.of h).base hb
theorem rowsC_group0 (x : PC) (hk0 : x.kind = 6) (h1 : x.names.n = 0) (h2 : x.aggs.n = 1) (op nm : ByteArray) (cs : List CD) (hl : cs.length ≤ 1000000) (w : World) (hg : RdK agE w x.aggs.A [⟨op, ⟨#[]⟩, nm⟩]) : RowsC w x [(cs, [])] (0, [[⟨1, 0, ⟨#[]⟩⟩]]) := by
 intro w' L lc tl t hs hL
 obtain ⟨hs1, hs2⟩ := hs
 match tl, hs1 with
 | [t1], _ => exact rows_group0 x hk0 h1 h2 op nm L lc t1 cs hl w' hL (hs2 0 (by simp) (by simp)) (RdK.touch0 hg t)
theorem sortR_one (r : List VD) : sortR [r] = [r] := (sortR_of (rows := [r]) ⟨.refl _, by simp⟩).symm
end Go.Proofs.YtafoklilkdnepaaGreatDoor

/- The schema of each kind of plan, as the general walks ask for it; a plan of no kind. -/
namespace Go.Proofs.YtafoklilkdnepaaGreatDoor
open Go.RowKit

theorem schemaC_left (x : PC) (hk0 : x.kind = 5) (on : List (ByteArray × ByteArray)) (ho : x.on.n = on.length) (hlo : on.length ≤ 1000000) (a b : List CD) (hl1 : a.length ≤ 1000) (hl2 : b.length ≤ 1000) (w : World) (hr : RdK prE w x.on.A on) : SchemaC w x [a, b] (onV a b on, a ++ b) := by
 intro w' base L lc sl t hb hs hL
 obtain ⟨hs1, hs2⟩ := hs
 match sl, hs1 with
 | [s1, s2], _ =>
  have h1 := hs2 0 (by simp) (by simp)
  have h2 := hs2 1 (by simp) (by simp)
  refine (schema_left x hk0 on ho hlo L lc s1 s2 a b h1.1 h2.1 h1.2.1 h2.2.1 hl1 hl2 w' hL (RdK.touch0 hr t) h1.2.2.1 h2.2.2.1).mono ?_
  rintro e w'' ⟨A, c, rfl, hm⟩
  exact (TyPost.made hm).base hb
theorem TyPost.same {base : Nat} {w w' : World} {s : SL} {a : List CD} {k : Int} (h1 : s.n = a.length) (h2 : s.n ≤ s.c) (h3 : ColsAt w s.A a) (h4 : ∀ b ∈ fpo s.A, base ≤ b ∧ b < w.heap.size) (t : Touch [] w w') : TyPost base (k, a) w (.returned (.tuple #[.slice s.A s.n s.c, .int .i64 k])) w' :=
 ⟨s, rfl, h1, h2, h3.touch0 t, fun b hb => ⟨(h4 b hb).1, Nat.lt_of_lt_of_le (h4 b hb).2 t.size⟩, t⟩
theorem schemaC_where (x : PC) (hk0 : x.kind = 2) (a : List CD) (r : Int × Int) (w : World) (hE : ETypeS w x.cond a r) : SchemaC w x [a] (r.2, a) := by
 intro w' base L lc sl t hb hs hL
 obtain ⟨hs1, hs2⟩ := hs
 match sl, hs1 with
 | [s1], _ =>
  have h1 := hs2 0 (by simp) (by simp)
  have hE2 := hE.at_ t h1.2.2.1 s1.c
  rw [show a.length = s1.n from h1.1.symm] at hE2
  refine (schema_where x hk0 L lc s1 a h1.1 r w' hL hE2).mono ?_
  rintro e w'' ⟨rfl, t2⟩
  exact TyPost.same h1.1 h1.2.1 h1.2.2.1 h1.2.2.2 t2
theorem schemaC_keep (x : PC) (hk0 : x.kind = 3) (names : List ByteArray) (xs : List XC) (ets : List (Int × Int)) (hnn : x.names.n = names.length) (hen : x.exprs.n = xs.length) (hle : ets.length = xs.length) (hln : names.length ≤ 100000) (hlx : xs.length ≤ 100000) (a : List CD) (w : World)
  (hr : RdK btE w x.names.A names) (hx : RdK xcE w x.exprs.A xs) (hE : ∀ i (h1 : i < xs.length) (h2 : i < ets.length), ETypeS w xs[i] a ets[i]) : SchemaC w x [a] (keepV names ets) := by
 intro w' base L lc sl t hb hs hL
 obtain ⟨hs1, hs2⟩ := hs
 match sl, hs1 with
 | [s1], _ =>
  have h1 := hs2 0 (by simp) (by simp)
  refine (schema_keep x hk0 names xs ets hnn hen hle hln hlx L lc s1 a h1.1 w' hL (RdK.touch0 hr t) (RdK.touch0 hx t) (fun i q1 q2 => ?_)).mono ?_
  ·have hE2 := (hE i q1 q2).at_ t h1.2.2.1 s1.c
   rw [show a.length = s1.n from h1.1.symm] at hE2
   exact hE2
  ·intro e w'' h
   exact (TyPost.of h).base hb
theorem schemaC_union (x : PC) (hk0 : x.kind = 7) (a b : List CD) (hl1 : a.length ≤ 1000000) (hl2 : b.length ≤ 1000000) (w : World) : SchemaC w x [a, b] (if eqCs a b = true then (0, a) else (12, [])) := by
 intro w' base L lc sl t hb hs hL
 obtain ⟨hs1, hs2⟩ := hs
 match sl, hs1 with
 | [s1, s2], _ =>
  have h1 := hs2 0 (by simp) (by simp)
  have h2 := hs2 1 (by simp) (by simp)
  refine (schema_union x hk0 L lc s1 s2 a b h1.1 h2.1 hl1 hl2 w' hL h1.2.2.1 h2.2.2.1).mono ?_
  rintro e w'' ⟨rfl, t2⟩
  by_cases h : eqCs a b = true
  ·rw [if_pos h, if_pos h]
   exact TyPost.same h1.1 h1.2.1 h1.2.2.1 h1.2.2.2 t2
  ·rw [if_neg h, if_neg h]
   exact TyPost.err _ 12 t2
theorem schemaC_distinct (x : PC) (hk0 : x.kind = 8) (a : List CD) (w : World) : SchemaC w x [a] (0, a) := by
 intro w' base L lc sl t hb hs hL
 obtain ⟨hs1, hs2⟩ := hs
 match sl, hs1 with
 | [s1], _ =>
  have h1 := hs2 0 (by simp) (by simp)
  refine (schema_distinct x hk0 L lc s1 w' hL).mono ?_
  rintro e w'' ⟨rfl, t2⟩
  exact TyPost.same h1.1 h1.2.1 h1.2.2.1 h1.2.2.2 t2
theorem schemaC_first (x : PC) (hk0 : x.kind = 9) (l : List (ByteArray × Bool)) (hlb : x.by_.n = l.length) (hll : l.length ≤ 1000000) (a : List CD) (hl1 : a.length ≤ 1000000) (w : World) (hr : RdK odE w x.by_.A l) : SchemaC w x [a] (byV a l x.count, a) := by
 intro w' base L lc sl t hb hs hL
 obtain ⟨hs1, hs2⟩ := hs
 match sl, hs1 with
 | [s1], _ =>
  have h1 := hs2 0 (by simp) (by simp)
  refine (schema_first x hk0 l hlb hll L lc s1 a h1.1 hl1 w' hL (RdK.touch0 hr t) h1.2.2.1).mono ?_
  rintro e w'' ⟨rfl, t2⟩
  exact TyPost.same h1.1 h1.2.1 h1.2.2.1 h1.2.2.2 t2

set_option maxRecDepth 40000 in
set_option maxHeartbeats 6400000 in
theorem typed_wrong (x : PC) (hk : x.kind < 1 ∨ 9 < x.kind) (d : Int) (hd : d ≤ 16) (I : Option Addr) (ic n : Nat) (w : World) :
  Calls Tryz.prog 31 #[x.val, .slice I n ic, .int .i64 d] w (TyPost w.heap.size (20, []) w) := by
 obtain ⟨k0, k1, ⟨A2, n2, c2'⟩, ⟨⟨ck, cn, ⟨cvk, cvn, cvt⟩, cop⟩, CA, cnn, cc⟩, ⟨NA, nn, nc⟩, ⟨EA, en, ec⟩, ⟨OA, ol, oc⟩, ⟨GA, gn, gc⟩, ⟨BA, bn, bc⟩, count⟩ := x
 dsimp only at hk ⊢
 simp only [PC.val]
 obtain ⟨W, hW⟩ : ∃ W, W = w.alloc (.cells #[.int .i64 k0, .string k1, .slice A2 n2 c2', .int .i64 ck, .string cn, .int .i64 cvk, .int .i64 cvn, .string cvt, .string cop, .slice CA cnn cc, .slice NA nn nc, .slice EA en ec, .slice OA ol oc, .slice GA gn gc, .slice BA bn bc, .int .i64 count] 49) := ⟨_, rfl⟩
 have t0 : Touch [] w W := hW ▸ (Touch.refl [] w).alloc _
 have hb0 := hW ▸ heap_alloc_new w (.cells #[.int .i64 k0, .string k1, .slice A2 n2 c2', .int .i64 ck, .string cn, .int .i64 cvk, .int .i64 cvn, .string cvt, .string cop, .slice CA cnn cc, .slice NA nn nc, .slice EA en ec, .slice OA ol oc, .slice GA gn gc, .slice BA bn bc, .int .i64 count] 49)
 have q0 : W.cell? ⟨w.heap.size, 0, none⟩ = some (.int .i64 k0) := cell_blk hb0 rfl
 have hd2 : (16 < d) = False := by simp; omega
 have HW := Lib.hid hW
 have HT0 := Lib.hid t0
 clear hb0 hW t0
 rcases hk with hk | hk
 ·have hk1 : (k0 < 1) = True := eq_true hk
  go_enter Tryz.func31, Tryz.ntmps31
  go_wp2_with fail
  rw [← HW.out]
  go_quiet (fail)
  go_wp2
  go_ret2
  exact TyPost.err _ 20 (HT0.out.drewN _)
 ·have hk1 : (k0 < 1) = False := eq_false (by omega)
  have hk2 : (9 < k0) = True := eq_true hk
  go_enter Tryz.func31, Tryz.ntmps31
  go_wp2_with fail
  rw [← HW.out]
  go_quiet (fail)
  go_wp2
  go_ret2
  exact TyPost.err _ 20 (HT0.out.drewN _)
theorem typedC_wrong (x : PC) (hk : x.kind < 1 ∨ 9 < x.kind) (d : Int) (hd : d ≤ 16) (I : Option Addr) (ic n : Nat) (w : World) : TypedC w I ic n x d (20, []) := fun w' _ => typed_wrong x hk d hd I ic n w'
end Go.Proofs.YtafoklilkdnepaaGreatDoor

/- slices.Equal at values. For every rows. -/
namespace Go.Proofs.YtafoklilkdnepaaGreatDoor
open Go.RowKit

/-- are two values one? -/
def eqV (a b : VD) : Bool := decide (a.kind = b.kind) && (decide (a.num = b.num) && decide (a.text = b.text))
theorem eqV_iff (a b : VD) : eqV a b = true ↔ a = b := by
 obtain ⟨ak, an, at_⟩ := a
 obtain ⟨bk, bn, bt⟩ := b
 simp [eqV]
theorem eqIn_val (a b : VD) (w : World) : (Op.equalIn 10000 31 (.agg #[.int .i64 a.kind, .int .i64 a.num, .string a.text]) (.agg #[.int .i64 b.kind, .int .i64 b.num, .string b.text])).run Tryz.prog w = .ok (eqV a b) w := by
 have hS : Tryz.prog.underlying 31 = some (.struct (Tryz.prog.fieldsOf 31)) := by kernel_rfl
 have hp : Tryz.prog.stoodInHeld 31 = false := by kernel_rfl
 rw [show (10000 : Nat) = 9999 + 1 from rfl, run_equalIn_agg w 9999 31 _ _ hS hp]
 simp only [Program.fieldsOf, Tryz.underlying31]
 have hs := bs_beq a.text b.text
 go_simp
 by_cases h1 : a.kind = b.kind <;> by_cases h2 : a.num = b.num <;> by_cases h3 : a.text = b.text <;> simp [eqV, h1, h2, h3]
theorem guard_val (op : BinOp) (x y : Operand) (a b : Array Value) (w : World) : (eqGuard op 31 x y (.agg a) (.agg b)).run Tryz.prog w = .ok () w := run_eqGuard_agg w op _ x y _ _ (by kernel_rfl)
def eqVs : List VD → List VD → Bool
 | [], [] => true
 | a :: r, b :: s => eqV a b && eqVs r s
 | _, _ => false
theorem eqVs_iff (l r : List VD) : eqVs l r = true ↔ l = r := by
 induction l generalizing r with
 | nil => cases r <;> simp [eqVs]
 | cons a l ih => cases r with
  | nil => simp [eqVs]
  | cons b r => simp [eqVs, ih, eqV_iff]

set_option maxRecDepth 20000 in
set_option maxHeartbeats 1600000 in
theorem equalV_any (A B : Option Addr) (c1 c2 n m : Nat) (l r : List VD) (hn : l.length = n) (hm : r.length = m) (w : World) (h : ValsAt w A l) (h2 : ValsAt w B r) (hl : n ≤ 140737000000000) (hl2 : m ≤ 140737000000000) :
  Calls Tryz.prog 54 #[.slice A n c1, .slice B m c2] w fun e w' => e = .returned (.bool (eqVs l r)) ∧ Touch [] w w' := by
 subst hn hm
 by_cases hlen : l.length = r.length
 ·have Hlen := Lib.hid hlen
  have hq : ((l.length : Int) == (r.length : Int)) = true := by rw [beq_iff_eq]; omega
  have hq' : ((l.length : Int) != (r.length : Int)) = false := by rw [bne, hq]; rfl
  clear hlen
  go_enter Tryz.func54, Tryz.ntmps54
  go_wp2
  clear hq hq'
  go_loopw [13] (fun i wr => ∃ k : Nat, k ≤ l.length ∧ i = .int .i64 k ∧ Hid (eqVs l r = eqVs (l.drop k) (r.drop k)) ∧ Touch [] w wr) (fun i _ => l.length - (intOf i).toNat)
  case atStart => exact ⟨0, by omega, rfl, Lib.hid rfl, Touch.refl _ _⟩
  case round =>
   obtain ⟨k, hk, rfl, He, ht⟩ := hrel
   by_cases hlt : k < l.length
   ·have hlt2 : k < r.length := by have := Hlen.out; omega
    obtain ⟨ad, b, off, rfl, hadd, c0, c1, c2'⟩ := (h.touch0 ht).at_ k hlt
    obtain ⟨bd, b2, off2, rfl, hadd2, d0, d1, d2⟩ := (h2.touch0 ht).at_ k hlt2
    have hst : eqVs l r = (eqV l[k] r[k] && eqVs (l.drop (k + 1)) (r.drop (k + 1))) := by
     rw [He.out, List.drop_eq_getElem_cons hlt, List.drop_eq_getElem_cons hlt2]; rfl
    have heq := eqIn_val l[k] r[k]
    obtain ⟨x, hx⟩ : ∃ x, x = l[k] := ⟨_, rfl⟩
    obtain ⟨y, hy⟩ : ∃ y, y = r[k] := ⟨_, rfl⟩
    rw [← hx, ← hy] at hst heq
    rw [← hx] at c0 c1 c2'
    rw [← hy] at d0 d1 d2
    have Hst := Lib.hid hst
    have hgd := guard_val
    have g0 := TW.cell c0
    have g1 := TW.cell c1
    have g2 := TW.cell d0
    have g3 := TW.cell d1
    have g4 := TW.cell c2'
    have g5 := TW.cell d2
    have hkI0 : (0 : Int) ≤ (k : Int) := by omega
    have hkI : (k : Int) < (l.length : Int) := by omega
    have hkI2 : (k : Int) < (r.length : Int) := by omega
    clear hst hx hy He c0 c1 d0 d1 c2' d2
    rcases hxy : eqV x y with _ | _
    ·have Hf := Lib.hid (show eqVs l r = false by rw [Hst.out, hxy]; rfl)
     rw [hxy] at heq
     clear hxy
     go_wp2
     refine wp_region_tw wr (Touch.refl _ _) (by kernel_rfl) (by kernel_rfl) ?_
     repeat (go_big_quiet_step (fail))
     refine wpQuiet_nil ?_
     rintro _ ⟨x2, rfl⟩
     go_wp2
     go_ret
     exact ⟨ret_bool (by rw [Hf.out]), ht.trans0 x2.t⟩
    ·have Hf := Lib.hid (show eqVs l r = eqVs (l.drop (k + 1)) (r.drop (k + 1)) by rw [Hst.out, hxy]; rfl)
     rw [hxy] at heq
     clear hxy
     go_wp2
     refine wp_region_tw wr (Touch.refl _ _) (by kernel_rfl) (by kernel_rfl) ?_
     repeat (go_big_quiet_step (fail))
     refine wpQuiet_nil ?_
     rintro _ ⟨x2, rfl⟩
     go_wp2
     go_roundw
     case rel => exact ⟨k + 1, by omega, by go_num, Hf, ht.trans0 x2.t⟩
     case measure => simp [intOf]; omega
   ·obtain rfl : k = l.length := by omega
    have Hf := Lib.hid (show eqVs l r = true by rw [He.out, List.drop_length, List.drop_of_length_le (by have := Hlen.out; omega)]; rfl)
    go_wp2
    go_ret
    exact ⟨ret_bool (by rw [Hf.out]), ht⟩
 ·have Hf := Lib.hid (show eqVs l r = false by
   rw [Bool.eq_false_iff]
   intro h
   rw [eqVs_iff] at h
   exact hlen (by rw [h]))
  have hq : ((l.length : Int) == (r.length : Int)) = false := by rw [beq_eq_false_iff_ne]; omega
  have hq' : ((l.length : Int) != (r.length : Int)) = true := by rw [bne, hq]; rfl
  clear hlen
  go_enter Tryz.func54, Tryz.ntmps54
  go_wp2
  go_ret
  exact ⟨ret_bool (by rw [Hf.out]), Touch.refl _ _⟩
end Go.Proofs.YtafoklilkdnepaaGreatDoor

/- bywashlaw05.awake: yes. -/
namespace Go.Proofs.YtafoklilkdnepaaGreatDoor
open Go.RowKit

def zeroX : XC := ⟨⟨0, ⟨#[]⟩, ⟨0, 0, ⟨#[]⟩⟩, ⟨#[]⟩⟩, none, 0, 0⟩
def noS : SL := ⟨none, 0, 0⟩
/-- a scan's cells -/
def scanC (s : ByteArray) : PC := ⟨1, s, noS, zeroX, noS, noS, noS, noS, noS, 0⟩
def awkC (ga gp : Nat) : PC := ⟨6, ⟨#[]⟩, ⟨some ⟨gp, 0, none⟩, 1, 1⟩, zeroX, noS, noS, noS, ⟨some ⟨ga, 0, none⟩, 1, 1⟩, noS, 0⟩
def awkL : List SrcD := [⟨⟨#[120]⟩, [⟨⟨#[97]⟩, 1⟩], []⟩]
theorem awk_scanV : scanV awkL ⟨#[120]⟩ = (0, [⟨⟨#[97]⟩, 1⟩]) := by
 have h1 : srcI awkL ⟨#[120]⟩ = some 0 := srcI_some (l := awkL) (k := 0) (by simp [awkL]) rfl (fun j hj => absurd hj (by omega))
 unfold scanV
 rw [h1]
 have h2 : checkT [⟨⟨#[97]⟩, 1⟩] [] = 0 := by decide +kernel
 simp only [awkL, List.getElem?_cons_zero]
 exact if_pos h2
theorem awk_group : groupV [⟨⟨#[97]⟩, 1⟩] [] [⟨⟨#[99, 111, 117, 110, 116]⟩, ⟨#[]⟩, ⟨#[110]⟩⟩] = (0, [⟨⟨#[110]⟩, 1⟩]) := by
 have h : aggV [⟨⟨#[97]⟩, 1⟩] ⟨⟨#[99, 111, 117, 110, 116]⟩, ⟨#[]⟩, ⟨#[110]⟩⟩ = (1, 0) := by
  unfold aggV
  rw [if_neg (by decide +kernel), if_pos rfl]
  exact if_pos rfl
 unfold groupV
 simp only [gnL, gaL, h]
 rfl
theorem fitC_num (c : CD) (n : Int) (h : c.typ = 1) : fitC c ⟨1, n, ⟨#[]⟩⟩ = true := by
 have hr : VD.right ⟨1, n, ⟨#[]⟩⟩ = true := by unfold VD.right; rw [toList_B]; rfl
 unfold fitC
 rw [hr, h]; rfl
theorem nodeV_ok {vs : List (Int × List CD)} {v : Int × List CD} (h1 : errL vs = 0) (h2 : v.1 = 0) (h3 : checkV v.2 = 0) : nodeV vs v = (0, v.2) := by
 unfold nodeV
 rw [if_pos h1, if_pos h2, if_pos h3]
theorem nodeE_ok {vs : List (Int × List CD × List (List VD))} {cs : List CD} {rv : Int × List (List VD)} (h1 : errL (vs.map fun v => (v.1, v.2.1)) = 0) (h2 : rv.1 = 0) (h3 : fitV cs rv.2 = 0) : nodeE vs cs rv = (0, cs, sortR rv.2) := by
 unfold nodeE
 rw [if_pos h1, if_pos h2, if_pos h3]
theorem awk_check : checkV [⟨⟨#[110]⟩, 1⟩] = 0 := by decide +kernel
theorem awk_fit : fitV [⟨⟨#[110]⟩, 1⟩] [[⟨1, 0, ⟨#[]⟩⟩]] = 0 := by
 unfold fitV
 rw [if_pos awk_check, if_neg (by simp)]
 have : [[(⟨1, 0, ⟨#[]⟩⟩ : VD)]].all (fitR [⟨⟨#[110]⟩, 1⟩]) = true := by
  have h := fitC_num ⟨⟨#[110]⟩, 1⟩ 0 rfl
  unfold fitR
  simp [h]
 rw [if_pos this]

set_option maxRecDepth 100000 in
set_option maxHeartbeats 6400000 in
theorem awake5_any (w : World) (hG : NeedsAt w) : Calls Tryz.prog 9 #[] w fun e w' => e = .returned (.bool true) ∧ Touch [] w w' := by
 obtain ⟨W, hW⟩ : ∃ W, W = (((((w.alloc (.cells #[.string ⟨#[97]⟩, .int .i64 1] 29)).alloc (.cells #[.string ⟨#[120]⟩, .slice (some ⟨w.heap.size, 0, none⟩) 1 1, .slice none 0 0] 36)).alloc (.cells #[.string ⟨#[99, 111, 117, 110, 116]⟩, .string ⟨#[]⟩, .string ⟨#[110]⟩] 79)).alloc (.cells #[.int .i64 1, .string ⟨#[120]⟩, .slice none 0 0, .int .i64 0, .string ⟨#[]⟩, .int .i64 0, .int .i64 0, .string ⟨#[]⟩, .string ⟨#[]⟩, .slice none 0 0, .slice none 0 0, .slice none 0 0, .slice none 0 0, .slice none 0 0, .slice none 0 0, .int .i64 0] 49)).alloc (.cells #[.int .i64 6, .string ⟨#[]⟩, .slice (some ⟨w.heap.size + 1 + 1 + 1, 0, none⟩) 1 1, .int .i64 0, .string ⟨#[]⟩, .int .i64 0, .int .i64 0, .string ⟨#[]⟩, .string ⟨#[]⟩, .slice none 0 0, .slice none 0 0, .slice none 0 0, .slice none 0 0, .slice (some ⟨w.heap.size + 1 + 1, 0, none⟩) 1 1, .slice none 0 0, .int .i64 0] 49)) := ⟨_, rfl⟩
 have t0 : Touch [] w W := hW ▸ (((((Touch.refl [] w).alloc _).alloc _).alloc _).alloc _).alloc _
 have hc : ColsAt W (some ⟨w.heap.size, 0, none⟩) [⟨⟨#[97]⟩, 1⟩] := hW ▸ RdK.touch0 (RdK.one (enc := cdE) w 29 ⟨⟨#[97]⟩, 1⟩ _ rfl) (((((Touch.refl [] _).alloc _).alloc _).alloc _).alloc _)
 have hs : RdK srE W (some ⟨w.heap.size + 1, 0, none⟩) [⟨⟨#[120]⟩, ⟨some ⟨w.heap.size, 0, none⟩, 1, 1⟩, noS⟩] := by
  have h1 := RdK.touch0 (RdK.one (enc := srE) (w.alloc (.cells #[.string ⟨#[97]⟩, .int .i64 1] 29)) 36 ⟨⟨#[120]⟩, ⟨some ⟨w.heap.size, 0, none⟩, 1, 1⟩, noS⟩ #[.string ⟨#[120]⟩, .slice (some ⟨w.heap.size, 0, none⟩) 1 1, .slice none 0 0] rfl) ((((Touch.refl [] _).alloc (.cells #[.string ⟨#[99, 111, 117, 110, 116]⟩, .string ⟨#[]⟩, .string ⟨#[110]⟩] 79)).alloc (.cells #[.int .i64 1, .string ⟨#[120]⟩, .slice none 0 0, .int .i64 0, .string ⟨#[]⟩, .int .i64 0, .int .i64 0, .string ⟨#[]⟩, .string ⟨#[]⟩, .slice none 0 0, .slice none 0 0, .slice none 0 0, .slice none 0 0, .slice none 0 0, .slice none 0 0, .int .i64 0] 49)).alloc (.cells #[.int .i64 6, .string ⟨#[]⟩, .slice (some ⟨w.heap.size + 1 + 1 + 1, 0, none⟩) 1 1, .int .i64 0, .string ⟨#[]⟩, .int .i64 0, .int .i64 0, .string ⟨#[]⟩, .string ⟨#[]⟩, .slice none 0 0, .slice none 0 0, .slice none 0 0, .slice none 0 0, .slice (some ⟨w.heap.size + 1 + 1, 0, none⟩) 1 1, .slice none 0 0, .int .i64 0] 49))
  rw [World.size_alloc] at h1
  exact hW ▸ h1
 have ha : RdK agE W (some ⟨w.heap.size + 1 + 1, 0, none⟩) [⟨⟨#[99, 111, 117, 110, 116]⟩, ⟨#[]⟩, ⟨#[110]⟩⟩] := by
  have h1 := RdK.touch0 (RdK.one (enc := agE) ((w.alloc (.cells #[.string ⟨#[97]⟩, .int .i64 1] 29)).alloc (.cells #[.string ⟨#[120]⟩, .slice (some ⟨w.heap.size, 0, none⟩) 1 1, .slice none 0 0] 36)) 79 ⟨⟨#[99, 111, 117, 110, 116]⟩, ⟨#[]⟩, ⟨#[110]⟩⟩ #[.string ⟨#[99, 111, 117, 110, 116]⟩, .string ⟨#[]⟩, .string ⟨#[110]⟩] rfl) (((Touch.refl [] _).alloc (.cells #[.int .i64 1, .string ⟨#[120]⟩, .slice none 0 0, .int .i64 0, .string ⟨#[]⟩, .int .i64 0, .int .i64 0, .string ⟨#[]⟩, .string ⟨#[]⟩, .slice none 0 0, .slice none 0 0, .slice none 0 0, .slice none 0 0, .slice none 0 0, .slice none 0 0, .int .i64 0] 49)).alloc (.cells #[.int .i64 6, .string ⟨#[]⟩, .slice (some ⟨w.heap.size + 1 + 1 + 1, 0, none⟩) 1 1, .int .i64 0, .string ⟨#[]⟩, .int .i64 0, .int .i64 0, .string ⟨#[]⟩, .string ⟨#[]⟩, .slice none 0 0, .slice none 0 0, .slice none 0 0, .slice none 0 0, .slice (some ⟨w.heap.size + 1 + 1, 0, none⟩) 1 1, .slice none 0 0, .int .i64 0] 49))
  rw [World.size_alloc, World.size_alloc] at h1
  exact hW ▸ h1
 have hp : RdK pcE W (some ⟨w.heap.size + 1 + 1 + 1, 0, none⟩) [scanC ⟨#[120]⟩] := by
  have h1 := RdK.touch0 (RdK.one (enc := pcE) (((w.alloc (.cells #[.string ⟨#[97]⟩, .int .i64 1] 29)).alloc (.cells #[.string ⟨#[120]⟩, .slice (some ⟨w.heap.size, 0, none⟩) 1 1, .slice none 0 0] 36)).alloc (.cells #[.string ⟨#[99, 111, 117, 110, 116]⟩, .string ⟨#[]⟩, .string ⟨#[110]⟩] 79)) 49 (scanC ⟨#[120]⟩) #[.int .i64 1, .string ⟨#[120]⟩, .slice none 0 0, .int .i64 0, .string ⟨#[]⟩, .int .i64 0, .int .i64 0, .string ⟨#[]⟩, .string ⟨#[]⟩, .slice none 0 0, .slice none 0 0, .slice none 0 0, .slice none 0 0, .slice none 0 0, .slice none 0 0, .int .i64 0] rfl) ((Touch.refl [] _).alloc (.cells #[.int .i64 6, .string ⟨#[]⟩, .slice (some ⟨w.heap.size + 1 + 1 + 1, 0, none⟩) 1 1, .int .i64 0, .string ⟨#[]⟩, .int .i64 0, .int .i64 0, .string ⟨#[]⟩, .string ⟨#[]⟩, .slice none 0 0, .slice none 0 0, .slice none 0 0, .slice none 0 0, .slice (some ⟨w.heap.size + 1 + 1, 0, none⟩) 1 1, .slice none 0 0, .int .i64 0] 49))
  rw [World.size_alloc, World.size_alloc, World.size_alloc] at h1
  exact hW ▸ h1
 have hS : SrcsAt W (some ⟨w.heap.size + 1, 0, none⟩) awkL := ⟨_, rfl, hs, fun i a b => by
  obtain rfl : i = 0 := by simp at a; omega
  exact ⟨rfl, rfl, Nat.le_refl _, hc, rfl, [], ⟨rfl, fun i h => absurd h (by simp)⟩, RdK.nil _ _ _⟩⟩
 have hok : ∀ d ∈ awkL, d.Ok := fun d hd => by
  simp only [awkL, List.mem_singleton] at hd
  subst hd
  exact ⟨fun c hc => by simp only [List.mem_singleton] at hc; subst hc; exact ⟨by show 1 ≤ _; omega, by constructor <;> (dsimp only; omega)⟩, by simp, fun r hr => by simp at hr, by simp⟩
 have hcok : ∀ c ∈ [(⟨⟨#[110]⟩, 1⟩ : CD)], c.Ok := fun c hc => by simp only [List.mem_singleton] at hc; subst hc; exact ⟨by show 1 ≤ _; omega, by constructor <;> (dsimp only; omega)⟩
 have hszL : ∀ W', SizeC W' (scanC ⟨#[120]⟩) 1 := fun W' => sizeC_leaf _ rfl W'
 have hsz : SizeC W (awkC (w.heap.size + 1 + 1) (w.heap.size + 1 + 1 + 1)) 2 := sizeC_node _ [scanC ⟨#[120]⟩] [1] W rfl rfl hp (fun i a b => by
  obtain rfl : i = 0 := by simp at a; omega
  exact hszL W) (by simp) (by show 1 ≤ _; omega)
 have hty : TypedC W (some ⟨w.heap.size + 1, 0, none⟩) 1 1 (awkC (w.heap.size + 1 + 1) (w.heap.size + 1 + 1 + 1)) 1 (0, [⟨⟨#[110]⟩, 1⟩]) := by
  have h1 := typedC_node (awkC (w.heap.size + 1 + 1) (w.heap.size + 1 + 1 + 1)) 6 1 rfl (by omega) (by omega) rfl rfl 1 (by omega) (by omega) (some ⟨w.heap.size + 1, 0, none⟩) 1 1 W (hG.touch0 t0) [scanC ⟨#[120]⟩] [(0, [⟨⟨#[97]⟩, 1⟩])] rfl rfl hp (fun i a b => by
   obtain rfl : i = 0 := by simp at a; omega
   have := typedC_scan (scanC ⟨#[120]⟩) rfl rfl (1 + 1) (by omega) (some ⟨w.heap.size + 1, 0, none⟩) 1 1 awkL rfl (by omega) hok W (hG.touch0 t0) hS
   rw [show (scanC ⟨#[120]⟩).name = ⟨#[120]⟩ from rfl, awk_scanV] at this
   exact this) (0, [⟨⟨#[110]⟩, 1⟩]) (fun _ => by
   have := schemaC_group (awkC (w.heap.size + 1 + 1) (w.heap.size + 1 + 1 + 1)) rfl [] [⟨⟨#[99, 111, 117, 110, 116]⟩, ⟨#[]⟩, ⟨#[110]⟩⟩] rfl rfl (by simp) (by simp) [⟨⟨#[97]⟩, 1⟩] (by simp) W (RdK.nil _ _ _) ha
   rw [awk_group] at this
   exact this) hcok (by simp)
  have h2 : nodeV [(0, [⟨⟨#[97]⟩, 1⟩])] (0, [⟨⟨#[110]⟩, 1⟩]) = (0, [⟨⟨#[110]⟩, 1⟩]) := by
   exact nodeV_ok rfl rfl awk_check
  rw [h2] at h1
  exact h1
 have hev : EvalC W (some ⟨w.heap.size + 1, 0, none⟩) 1 1 (awkC (w.heap.size + 1 + 1) (w.heap.size + 1 + 1 + 1)) (0, [⟨⟨#[110]⟩, 1⟩], [[⟨1, 0, ⟨#[]⟩⟩]]) := by
  have h1 := evalC_node (awkC (w.heap.size + 1 + 1) (w.heap.size + 1 + 1 + 1)) 6 1 rfl (by omega) rfl (by omega) (some ⟨w.heap.size + 1, 0, none⟩) 1 1 W [scanC ⟨#[120]⟩] [(0, [⟨⟨#[97]⟩, 1⟩], [])] rfl rfl hp (fun i a b => by
   obtain rfl : i = 0 := by simp at a; omega
   exact evalC_scan (scanC ⟨#[120]⟩) rfl rfl (some ⟨w.heap.size + 1, 0, none⟩) 1 1 awkL rfl (by omega) 0 (by simp [awkL]) (srcI_some (l := awkL) (k := 0) (by simp [awkL]) rfl (fun j hj => absurd hj (by omega))) (by simp [awkL]) (by simp [awkL]) (fun r hr => by simp [awkL] at hr) W hS) 0 [⟨⟨#[110]⟩, 1⟩] (fun _ => by
   have := schemaC_group (awkC (w.heap.size + 1 + 1) (w.heap.size + 1 + 1 + 1)) rfl [] [⟨⟨#[99, 111, 117, 110, 116]⟩, ⟨#[]⟩, ⟨#[110]⟩⟩] rfl rfl (by simp) (by simp) [⟨⟨#[97]⟩, 1⟩] (by simp) W (RdK.nil _ _ _) ha
   rw [awk_group] at this
   exact this) (0, [[⟨1, 0, ⟨#[]⟩⟩]]) (fun _ => rowsC_group0 _ rfl rfl rfl _ _ _ (by simp) W ha) hcok (by simp)
   (fun r hr => by simp only [List.mem_singleton] at hr; subst hr; exact ⟨by simp, fun v hv => by simp only [List.mem_singleton] at hv; subst hv; exact ⟨by constructor <;> (dsimp only; omega), by constructor <;> (dsimp only; omega), Nat.zero_le _⟩⟩)
   (fun r hr => by simp only [List.mem_singleton] at hr; subst hr; simp) (by simp)
  have h2 : nodeE [(0, [⟨⟨#[97]⟩, 1⟩], [])] [⟨⟨#[110]⟩, 1⟩] (0, [[⟨1, 0, ⟨#[]⟩⟩]]) = (0, [⟨⟨#[110]⟩, 1⟩], [[⟨1, 0, ⟨#[]⟩⟩]]) := by
   rw [nodeE_ok rfl rfl awk_fit, sortR_one]
  rw [h2] at h1
  exact h1
 have hT := evalTop (awkC (w.heap.size + 1 + 1) (w.heap.size + 1 + 1 + 1)) 2 (by omega) (some ⟨w.heap.size + 1, 0, none⟩) 1 1 (0, [⟨⟨#[110]⟩, 1⟩]) (0, [⟨⟨#[110]⟩, 1⟩], [[⟨1, 0, ⟨#[]⟩⟩]]) W hsz hty (fun _ => hev)
 rw [show topV (0, [⟨⟨#[110]⟩, 1⟩]) (0, [⟨⟨#[110]⟩, 1⟩], [[⟨1, 0, ⟨#[]⟩⟩]]) = (0, [⟨⟨#[110]⟩, 1⟩], [[⟨1, 0, ⟨#[]⟩⟩]]) from by unfold topV; rw [if_pos rfl]] at hT
 have hT' : Calls Tryz.prog 12 #[(awkC (w.heap.size + 1 + 1) (w.heap.size + 1 + 1 + 1)).val, .slice (some ⟨w.heap.size + 1, 0, none⟩) 1 1] W fun e w' => ∃ SA sc RA rc, e = .returned (.tuple #[.agg #[.slice SA 1 sc, .slice RA 1 rc], .int .i64 0]) ∧ NewTab W.heap.size w' ⟨SA, 1, sc⟩ ⟨RA, 1, rc⟩ [⟨⟨#[110]⟩, 1⟩] [[⟨1, 0, ⟨#[]⟩⟩]] ∧ Touch [] W w' := by
  refine hT.mono ?_
  rintro e w' ⟨⟨SA, sn, sc⟩, ⟨RA, rn, rc⟩, he, hn, ht⟩
  have h1 : sn = 1 := hn.n
  have h4 : rn = 1 := hn.m
  subst h1 h4
  exact ⟨SA, sc, RA, rc, he, hn, ht⟩
 have HT := Lib.hid hT'
 have HW := Lib.hid hW
 have H0 := Lib.hid t0
 have Hof := Lib.hid fun w' => of_num 0 w'
 clear hT hT' hev hty hsz hszL hcok hok hS hp ha hs hc t0 hW
 go_enter Tryz.func9, Tryz.ntmps9
 go_wp2_with fail
 rw [← HW.out]
 refine HT.out.mono ?_
 rintro e w1 ⟨SA, sc, RA, rc, rfl, hnt, t1⟩
 have hT2 := hnt.tab
 obtain ⟨h1, h2, h3, h4, h5⟩ := hT2
 clear h1 h4
 dsimp only at h2 h3 h5
 have t2 := (Touch.refl [] w1).alloc (.cells #[.slice SA 1 sc, .slice RA 1 rc] 27)
 have hb2 := heap_alloc_new w1 (.cells #[.slice SA 1 sc, .slice RA 1 rc] 27)
 obtain ⟨ad, b1, o1, rfl, hadd, c0, c1⟩ := h3.at_ 0 (by simp)
 obtain ⟨bd, A9, c9, rfl, e0, hv⟩ := h5.at_ 0 (by simp)
 obtain ⟨ad9, b9, o9, rfl, hadd9, v0, v1, v2⟩ := hv.at_ 0 (by simp)
 have ha0 : ∀ x : Addr, x.add 0 = x := fun x => by cases x; simp [Addr.add]
 rw [Nat.zero_mul, ha0] at hadd hadd9
 subst hadd hadd9
 simp only [List.getElem_cons_zero] at c0 c1 e0 v0 v1 v2
 obtain ⟨W2, hW2⟩ : ∃ W2, W2 = w1.alloc (.cells #[.slice (some ⟨b1, o1, none⟩) 1 sc, .slice (some bd) 1 rc] 27) := ⟨_, rfl⟩
 rw [← hW2] at t2 hb2
 have e0' := e0
 rw [ha0] at e0'
 have HT1 := Lib.hid (t1.trans0 t2)
 have HG := Lib.hid (And.intro t2 (And.intro hb2 (And.intro c0 (And.intro c1 (And.intro e0' (And.intro v0 (And.intro v1 v2)))))))
 have HW2 := Lib.hid hW2
 clear ha0 hnt h3 h5 hv e0 e0' c0 c1 v0 v1 v2 t1 t2 hb2 hW2
 go_wp2_with fail
 rw [← HW2.out]
 obtain ⟨t2, hb2, c0, c1, e0', v0, v1, v2⟩ := HG.out
 obtain ⟨q0, q1, _, _⟩ := blk2 hb2
 have g0 := TW.cell q0
 have g1 := TW.cell q1
 have g2 := TW.cell (t2.cell c0 (by simp))
 have g3 := TW.cell (t2.cell c1 (by simp))
 have g4' := TW.cell (t2.cell e0' (by simp))
 have g5 := TW.cell (t2.cell v0 (by simp))
 have g6 := TW.cell (t2.cell v1 (by simp))
 have g7 := TW.cell (t2.cell v2 (by simp))
 clear t2 hb2 c0 c1 e0' v0 v1 v2 q0 q1
 have heq := fun w' => eqIn_val ⟨1, 0, ⟨#[]⟩⟩ ⟨1, 0, ⟨#[]⟩⟩ w'
 have heqv : eqV ⟨1, 0, ⟨#[]⟩⟩ ⟨1, 0, ⟨#[]⟩⟩ = true := (eqV_iff _ _).2 rfl
 rw [heqv] at heq
 dsimp only at heq
 have hgd := guard_val
 have hlit : ((⟨#[110]⟩ : ByteArray).toList == [110]) = true := by rw [toList_B]; rfl
 clear heqv
 refine wp_region_tw W2 (Touch.refl _ _) (by kernel_rfl) (by kernel_rfl) ?_
 repeat (go_big_quiet_step (((go_at_call 11; exact Calls.tw _ (Hof.out _)))))
 refine wpQuiet_nil ?_
 rintro _ ⟨x9, rfl⟩
 go_wp2
 go_ret
 exact ⟨rfl, (H0.out.trans0 HT1.out).trans0 x9.t⟩
end Go.Proofs.YtafoklilkdnepaaGreatDoor

/- What an expression's type and value are, as the program reckons them. No program's function. -/
namespace Go.Proofs.YtafoklilkdnepaaGreatDoor
open Go.RowKit

/-- a rule: a name, the types of Args, its own -/
structure RU where
 name : ByteArray
 args : List Int
 out : Int
def rulesV (kind : Int) : List RU :=
 if kind = 3 then [⟨S [45], [1], 1⟩, ⟨S [110, 111, 116], [0], 1⟩]
 else if kind = 4 then [⟨S [43], [1, 1], 1⟩, ⟨S [45], [1, 1], 1⟩, ⟨S [42], [1, 1], 1⟩, ⟨S [47], [1, 1], 1⟩, ⟨S [37], [1, 1], 1⟩,
  ⟨S [61], [-1, -1], 1⟩, ⟨S [33, 61], [-1, -1], 1⟩, ⟨S [60], [-1, -1], 1⟩, ⟨S [60, 61], [-1, -1], 1⟩, ⟨S [62], [-1, -1], 1⟩, ⟨S [62, 61], [-1, -1], 1⟩,
  ⟨S [97, 110, 100], [0, 0], 1⟩, ⟨S [111, 114], [0, 0], 1⟩]
 else if kind = 5 then [⟨S [108, 101, 110], [2], 1⟩, ⟨S [97, 98, 115], [1], 1⟩, ⟨S [105, 115, 110, 117, 108, 108], [0], 1⟩, ⟨S [99, 97, 116], [2, 2], 2⟩,
  ⟨S [101, 105, 116, 104, 101, 114], [-1, -1], -1⟩, ⟨S [105, 102], [0, -1, -1], -1⟩]
 else []
/-- the name that a rule is looked up by -/
def keyN (d : ND) : ByteArray := if d.kind = 5 then d.name else d.op
def ruleI (d : ND) : Option Nat := (rulesV d.kind).findIdx? fun r => decide (r.name = keyN d)
def ruleV (d : ND) : Option RU := match ruleI d with | some k => (rulesV d.kind)[k]? | none => none
def idxI (o : Option Nat) : Int := match o with | some k => (k : Int) | none => -1
def isNull (v : VD) : Bool := decide (v.kind = 0) && (decide (v.num = 0) && decide (v.text = S []))
/-- is the form right, with so many Args? -/
def formV (d : ND) (n : Nat) : Bool :=
 if d.kind = 1 then decide (d.op = S []) && (decide (n = 0) && isNull d.v)
 else if d.kind = 2 then decide (d.name = S []) && (decide (d.op = S []) && (decide (n = 0) && d.v.right))
 else (match ruleV d with | some r => decide (n = r.args.length) | none => false) && (isNull d.v && (if d.kind = 5 then decide (d.op = S []) else decide (d.name = S [])))
/-- do types fit? -/
def fitL : List Int → List Int → Int → Int × Bool
 | w :: ws, t :: ts, both =>
  if t = 0 ∨ w = 0 then fitL ws ts both
  else if w ≠ -1 ∧ w ≠ t ∨ w = -1 ∧ both ≠ 0 ∧ both ≠ t then (0, false)
  else if w = -1 then fitL ws ts t else fitL ws ts both
 | _, _, both => (both, true)
/-- the type of a column of a name; 0: there is none -/
def colT (cs : List CD) (s : ByteArray) : Option Int := match placeV cs s with | some k => cs[k]?.map CD.typ | none => none
/-- the type and the error of one that lies at a depth -/
def typedX (cs : List CD) : (n : Nat) → Nat → TX n → Int × Int
 | 0, _, _ => (0, 0)
 | n + 1, d, e =>
  if 32 < d then (0, 52)
  else if formV e.1 e.2.length = false then (0, 20)
  else if e.1.kind = 2 then (e.1.v.kind, 0)
  else if e.1.kind = 1 then (match colT cs e.1.name with | some t => (t, 0) | none => (0, 13))
  else match e.2.find? fun a => decide ((typedX cs n (d + 1) a).2 ≠ 0) with
   | some a => (0, (typedX cs n (d + 1) a).2)
   | none => match ruleV e.1 with
    | none => (0, 20)
    | some r => match fitL r.args (e.2.map fun a => (typedX cs n (d + 1) a).1) 0 with
     | (both, true) => if r.out = -1 then (both, 0) else (r.out, 0)
     | (_, false) => (0, 12)
def typeX (cs : List CD) (n : Nat) (e : TX n) : Int × Int :=
 if checkV cs = 0 then (if 256 < sizeX n e then (0, 31) else typedX cs n 1 e) else (0, checkV cs)

def zeroV : VD := ⟨0, 0, S []⟩
def ofV (n : Int) : VD := ⟨1, n, S []⟩
def bitV (b : Bool) : VD := if b = true then ofV 1 else ofV 0
def VD.tru (v : VD) : Bool := decide (v.kind = 1) && decide (v.num ≠ 0)
end Go.Proofs.YtafoklilkdnepaaGreatDoor
