/- Part 3 of the texts of this proof, one behind the other; each begins with its own sentence. No condition beyond those that its theorems state. -/
import Derived.Test.YtlkckkagoommaaaCo2
import Derived.Deep.QuietTactic
import Derived.BigQuiet
import Derived.Laws.StructEq
import Derived.OrdersHeld
import Derived.Deep.RegionHeld3
import Derived.Deep.DrawnRows
/- Slices of values; what a made slice is. For every such slice. -/
namespace Go.Proofs.Ytlkckkagoommaaa
open Go.RowKit

/-- a value's cells -/
def vdE (v : VD) : List Value := [.int .i64 v.kind, .int .i64 v.num, .string v.text]
theorem vdE_length (v : VD) : (vdE v).length = 3 := rfl
theorem vdE_one (v : VD) : ∀ u ∈ vdE v, u.oneCell' = true := by
  intro u hu
  simp only [vdE, List.mem_cons, List.not_mem_nil, or_false] at hu
  rcases hu with rfl | rfl | rfl <;> rfl
def ValsAt (w : World) (A : Option Addr) (vs : List VD) : Prop := RdK vdE w A vs
theorem ValsAt.at_ {w : World} {A : Option Addr} {vs : List VD} (h : ValsAt w A vs) (i : Nat) (hi : i < vs.length) :
    ∃ ad b off, A = some ad ∧ ad.add (i * 3) = ⟨b, off, none⟩ ∧ w.cell? ⟨b, off, none⟩ = some (.int .i64 vs[i].kind) ∧ w.cell? ⟨b, off + 1, none⟩ = some (.int .i64 vs[i].num) ∧ w.cell? ⟨b, off + 2, none⟩ = some (.string vs[i].text) := by
  obtain ⟨ad, b, off, h1, h2, _, h3⟩ := RdK.at_ h 3 vdE_length (by omega) i hi
  exact ⟨ad, b, off, h1, h2, h3 0 _ rfl, h3 1 _ rfl, h3 2 _ rfl⟩
theorem ValsAt.touch0 {w w' : World} {A : Option Addr} {vs : List VD} (h : ValsAt w A vs) (ht : Touch [] w w') : ValsAt w' A vs := RdK.touch0 h ht

theorem all_no {α : Type} {p : α → Bool} {l : List α} {k : Nat} (h : k < l.length) (hb : p l[k] = false) : l.all p = false := by
  rw [List.all_eq_false]
  exact ⟨_, List.getElem_mem h, by rw [hb]; simp⟩
theorem all_snoc {α : Type} {p : α → Bool} {l : List α} {k : Nat} (h : k < l.length) (h1 : (l.take k).all p = true) (h2 : p l[k] = true) : (l.take (k + 1)).all p = true := by
  rw [List.take_succ_eq_append_getElem h, List.all_append, h1]; simp [h2]

theorem info_rcol : (Try.prog.info? 103).map (fun i => (i.zero, i.size, i.bytes)) = some (some (.agg #[.string ⟨#[]⟩, .int .i64 0]), 2, 24) := by kernel_rfl

/-- what a made slice is -/
structure Made {α : Type} (t k : Nat) (enc : α → List Value) (xs : List α) (A : Option Addr) (c : Nat) (w w' : World) : Prop where
  own : OwnK t k enc w' A c xs
  t : Touch [] w w'
  f : ∀ b ∈ fpo A, w.heap.size ≤ b
theorem Made.step {α : Type} {t k : Nat} {enc : α → List Value} {xs ys : List α} {A A' : Option Addr} {c c' : Nat} {w w1 w2 : World} (h : Made t k enc xs A c w w1) (h2 : OwnK t k enc w2 A' c' ys) (t2 : Touch (fpo A) w1 w2) (f2 : ∀ b ∈ fpo A', b ∈ fpo A ∨ b = w1.heap.size) : Made t k enc ys A' c' w w2 :=
  ⟨h2, h.t.trans t2 (fun b hb => .inr (h.f b hb)), fun b hb => by
    rcases f2 b hb with e | e
    · exact h.f b e
    · have := h.t.size; omega⟩
theorem Made.touch0 {α : Type} {t k : Nat} {enc : α → List Value} {xs : List α} {A : Option Addr} {c : Nat} {w w1 w2 : World} (h : Made t k enc xs A c w w1) (ht : Touch [] w1 w2) : Made t k enc xs A c w w2 := ⟨h.own.touch0 ht, h.t.trans0 ht, h.f⟩
theorem Made.nil {α : Type} (t k : Nat) (enc : α → List Value) (w : World) : Made t k enc [] none 0 w w := ⟨OwnK.nil _ _ _ _, Touch.refl _ _, by simp [fpo]⟩

end Go.Proofs.Ytlkckkagoommaaa

/- What an expression's type and value are, as the program reckons them. No program's function. -/
namespace Go.Proofs.Ytlkckkagoommaaa
open Go.RowKit

/-- a rule: a name, the types of Args, its own -/
structure RU where
  name : ByteArray
  args : List Int
  out : Int
def rulesV (kind : Int) : List RU :=
  if kind = 3 then [⟨S [45], [1], 1⟩, ⟨S [110, 111, 116], [0], 1⟩]
  else if kind = 4 then [⟨S [43], [1, 1], 1⟩, ⟨S [45], [1, 1], 1⟩, ⟨S [42], [1, 1], 1⟩, ⟨S [47], [1, 1], 1⟩, ⟨S [37], [1, 1], 1⟩,
    ⟨S [61], [-1, -1], 1⟩, ⟨S [33, 61], [-1, -1], 1⟩, ⟨S [60], [-1, -1], 1⟩, ⟨S [60, 61], [-1, -1], 1⟩, ⟨S [62], [-1, -1], 1⟩, ⟨S [62, 61], [-1, -1], 1⟩,
    ⟨S [97, 110, 100], [0, 0], 1⟩, ⟨S [111, 114], [0, 0], 1⟩]
  else if kind = 5 then [⟨S [108, 101, 110], [2], 1⟩, ⟨S [97, 98, 115], [1], 1⟩, ⟨S [105, 115, 110, 117, 108, 108], [0], 1⟩, ⟨S [99, 97, 116], [2, 2], 2⟩,
    ⟨S [101, 105, 116, 104, 101, 114], [-1, -1], -1⟩, ⟨S [105, 102], [0, -1, -1], -1⟩]
  else []
/-- the name that a rule is looked up by -/
def keyN (d : ND) : ByteArray := if d.kind = 5 then d.name else d.op
def ruleI (d : ND) : Option Nat := (rulesV d.kind).findIdx? fun r => decide (r.name = keyN d)
def ruleV (d : ND) : Option RU := match ruleI d with | some k => (rulesV d.kind)[k]? | none => none
def idxI (o : Option Nat) : Int := match o with | some k => (k : Int) | none => -1
def isNull (v : VD) : Bool := decide (v.kind = 0) && (decide (v.num = 0) && decide (v.text = S []))
/-- is the form right, with so many Args? -/
def formV (d : ND) (n : Nat) : Bool :=
  if d.kind = 1 then decide (d.op = S []) && (decide (n = 0) && isNull d.v)
  else if d.kind = 2 then decide (d.name = S []) && (decide (d.op = S []) && (decide (n = 0) && d.v.right))
  else (match ruleV d with | some r => decide (n = r.args.length) | none => false) && (isNull d.v && (if d.kind = 5 then decide (d.op = S []) else decide (d.name = S [])))
/-- do types fit? -/
def fitL : List Int → List Int → Int → Int × Bool
  | w :: ws, t :: ts, both =>
    if t = 0 ∨ w = 0 then fitL ws ts both
    else if w ≠ -1 ∧ w ≠ t ∨ w = -1 ∧ both ≠ 0 ∧ both ≠ t then (0, false)
    else if w = -1 then fitL ws ts t else fitL ws ts both
  | _, _, both => (both, true)
/-- the type of a column of a name; 0: there is none -/
def colT (cs : List CD) (s : ByteArray) : Option Int := match placeV cs s with | some k => cs[k]?.map CD.typ | none => none
/-- the type and the error of one that lies at a depth -/
def typedX (cs : List CD) : (n : Nat) → Nat → TX n → Int × Int
  | 0, _, _ => (0, 0)
  | n + 1, d, e =>
    if 32 < d then (0, 52)
    else if formV e.1 e.2.length = false then (0, 20)
    else if e.1.kind = 2 then (e.1.v.kind, 0)
    else if e.1.kind = 1 then (match colT cs e.1.name with | some t => (t, 0) | none => (0, 13))
    else match e.2.find? fun a => decide ((typedX cs n (d + 1) a).2 ≠ 0) with
      | some a => (0, (typedX cs n (d + 1) a).2)
      | none => match ruleV e.1 with
        | none => (0, 20)
        | some r => match fitL r.args (e.2.map fun a => (typedX cs n (d + 1) a).1) 0 with
          | (both, true) => if r.out = -1 then (both, 0) else (r.out, 0)
          | (_, false) => (0, 12)
def typeX (cs : List CD) (n : Nat) (e : TX n) : Int × Int :=
  if checkV cs = 0 then (if 256 < sizeX n e then (0, 31) else typedX cs n 1 e) else (0, checkV cs)

def zeroV : VD := ⟨0, 0, S []⟩
def ofV (n : Int) : VD := ⟨1, n, S []⟩
def bitV (b : Bool) : VD := if b = true then ofV 1 else ofV 0
def VD.tru (v : VD) : Bool := decide (v.kind = 1) && decide (v.num ≠ 0)
end Go.Proofs.Ytlkckkagoommaaa

/- value.Of, value.Null, value.Text, value.Value.True, expr.bit: small functions on values. -/
namespace Go.Proofs.Ytlkckkagoommaaa
open Go.RowKit

/-- a struct of three cells is written -/
theorem out3 {X : World} {R : Nat} {t : TypeId} {a0 a1 a2 : Value} (h : X.heap[R]? = some (.cells #[a0, a1, a2] t (0, 0))) (v0 v1 v2 : Value) :
    (((X.setCell ⟨R, 0, none⟩ v0).setCell ⟨R, 1, none⟩ v1).setCell ⟨R, 2, none⟩ v2).heap[R]? = some (.cells #[v0, v1, v2] t (0, 0)) ∧ Touch [R] X (((X.setCell ⟨R, 0, none⟩ v0).setCell ⟨R, 1, none⟩ v1).setCell ⟨R, 2, none⟩ v2) :=
  ⟨set_blk (set_blk (set_blk h 0 v0) 1 v1) 2 v2, (((Touch.refl [R] X).setCell (p := ⟨R, 0, none⟩) (.inl (by simp)) v0).setCell (p := ⟨R, 1, none⟩) (.inl (by simp)) v1).setCell (p := ⟨R, 2, none⟩) (.inl (by simp)) v2⟩
theorem blk3 {w : World} {R : Nat} {a b c : Value} {t : TypeId} (h : w.heap[R]? = some (.cells #[a, b, c] t (0, 0))) : w.cell? ⟨R, 0, none⟩ = some a ∧ w.cell? ⟨R, 1, none⟩ = some b ∧ w.cell? ⟨R, 2, none⟩ = some c ∧
    w.frozen? ⟨R, 0, none⟩ = false ∧ w.frozen? ⟨R, 1, none⟩ = false ∧ w.frozen? ⟨R, 2, none⟩ = false :=
  ⟨cell_blk h rfl, cell_blk h rfl, cell_blk h rfl, by simp [World.frozen?, h], by simp [World.frozen?, h], by simp [World.frozen?, h]⟩

set_option maxRecDepth 20000 in
theorem of_any (n : Int) (w : World) : Calls Try.prog 23 #[.int .i64 n] w fun e w' => e = .returned (ofV n).val ∧ Touch [] w w' := by
  dsimp only [VD.val, ofV]
  go_enter Try.func23, Try.ntmps23
  go_wp2_with fail
  exact bodyPost_ret (results_cell_row rfl _ _ w.heap.size _ _ _ _ rfl (heap_alloc_new w _) Try.underlying30 rfl rfl) rfl ⟨rfl, (Touch.refl _ _).alloc _⟩
set_option maxRecDepth 20000 in
theorem null_any (w : World) : Calls Try.prog 19 #[] w fun e w' => e = .returned zeroV.val ∧ Touch [] w w' := by
  dsimp only [VD.val, zeroV]
  go_enter Try.func19, Try.ntmps19
  go_wp2_with fail
  exact bodyPost_ret (results_cell_row rfl _ _ w.heap.size _ _ _ _ rfl (heap_alloc_new w _) Try.underlying30 rfl rfl) rfl ⟨rfl, (Touch.refl _ _).alloc _⟩
set_option maxRecDepth 20000 in
theorem text_any (s : ByteArray) (w : World) : Calls Try.prog 64 #[.string s] w fun e w' => e = .returned (VD.val ⟨2, 0, s⟩) ∧ Touch [] w w' := by
  dsimp only [VD.val]
  go_enter Try.func64, Try.ntmps64
  go_wp2_with fail
  exact bodyPost_ret (results_cell_row rfl _ _ w.heap.size _ _ _ _ rfl (heap_alloc_new w _) Try.underlying30 rfl rfl) rfl ⟨rfl, (Touch.refl _ _).alloc _⟩
set_option maxRecDepth 20000 in
theorem true_any (v : VD) (w : World) : Calls Try.prog 41 #[v.val] w fun e w' => e = .returned (.bool v.tru) ∧ Touch [] w w' := by
  obtain ⟨k, n, s⟩ := v
  dsimp only [VD.val]
  have t0 := (Touch.refl [] w).alloc (.cells #[.int .i64 k, .int .i64 n, .string s] 30)
  by_cases h1 : k = 1
  · have hk : (k == 1) = true := by simpa using h1
    by_cases h0 : n = 0
    · have hn : (n != 0) = false := by simpa using h0
      have Hf := Lib.hid (show VD.tru ⟨k, n, s⟩ = false by simp [VD.tru, h0])
      clear h0 h1
      go_enter Try.func41, Try.ntmps41
      go_wp2_with fail
      go_ret
      exact ⟨by rw [Hf.out]; rfl, t0⟩
    · have hn : (n != 0) = true := by simpa using h0
      have Hf := Lib.hid (show VD.tru ⟨k, n, s⟩ = true by simp [VD.tru, h0, h1])
      clear h0 h1
      go_enter Try.func41, Try.ntmps41
      go_wp2_with fail
      go_ret
      exact ⟨by rw [Hf.out]; rfl, t0⟩
  · have hk : (k == 1) = false := by simpa using h1
    have Hf := Lib.hid (show VD.tru ⟨k, n, s⟩ = false by simp [VD.tru, h1])
    clear h1
    go_enter Try.func41, Try.ntmps41
    go_wp2_with fail
    go_ret
    exact ⟨by rw [Hf.out]; rfl, t0⟩
set_option maxRecDepth 20000 in
theorem bit_any (b : Bool) (w : World) : Calls Try.prog 70 #[.bool b] w fun e w' => e = .returned (bitV b).val ∧ Touch [] w w' := by
  have h1 := Lib.hid fun w' => of_any 1 w'
  have h0 := Lib.hid fun w' => of_any 0 w'
  simp only [VD.val, ofV] at h1 h0
  have t0 := (Touch.refl [] w).alloc (.cells #[.int .i64 0, .int .i64 0, .string ⟨#[]⟩] 30)
  have hb := heap_alloc_new w (.cells #[.int .i64 0, .int .i64 0, .string ⟨#[]⟩] 30)
  have Hb := Lib.hid hb
  clear hb
  cases b
  · simp only [bitV, VD.val, ofV]
    go_enter Try.func70, Try.ntmps70
    go_wp2_with fail
    refine (h0.out _).mono ?_
    rintro e w1 ⟨rfl, t1⟩
    have hb1 := t1.blk Hb.out (by simp)
    obtain ⟨c0, c1, c2, f0, f1, f2⟩ := blk3 hb1
    go_wp2_with fail
    obtain ⟨q1, q2⟩ := out3 hb1 (.int .i64 1) (.int .i64 0) (.string (S []))
    exact bodyPost_ret (results_cell_row rfl _ _ w.heap.size _ _ _ _ rfl q1 Try.underlying30 rfl rfl) rfl ⟨rfl, (t0.trans0 t1).trans q2 (fun b hb => .inr (by simp at hb; omega))⟩
  · simp only [bitV, VD.val, ofV]
    go_enter Try.func70, Try.ntmps70
    go_wp2_with fail
    refine (h1.out _).mono ?_
    rintro e w1 ⟨rfl, t1⟩
    have hb1 := t1.blk Hb.out (by simp)
    obtain ⟨c0, c1, c2, f0, f1, f2⟩ := blk3 hb1
    go_wp2_with fail
    obtain ⟨q1, q2⟩ := out3 hb1 (.int .i64 1) (.int .i64 1) (.string (S []))
    exact bodyPost_ret (results_cell_row rfl _ _ w.heap.size _ _ _ _ rfl q1 Try.underlying30 rfl rfl) rfl ⟨rfl, (t0.trans0 t1).trans q2 (fun b hb => .inr (by simp at hb; omega))⟩
end Go.Proofs.Ytlkckkagoommaaa

/- A region that draws its order, reads old cells and calls what only makes memory: one walk in the order of the text. No condition. -/
namespace Go.Proofs.Ytlkckkagoommaaa
open Go.RowKit

/-- a world in which all that lay in W lies as it lay -/
structure TW (W : World) where
  w : World
  t : Touch [] W w
instance (W : World) : Nonempty (TW W) := ⟨⟨W, Touch.refl _ _⟩⟩
theorem TW.cell {W : World} {a : Addr} {v : Value} (h : W.cell? a = some v) : ∀ x : TW W, x.w.cell? a = some v := fun x => x.t.cell h (by simp)
theorem Calls.tw {P : Program} {f : FuncId} {args : Array Value} {W : World} {v : Value} (x : TW W) (h : Calls P f args x.w fun e w' => e = .returned v ∧ Touch [] x.w w') :
    Calls P f args x.w fun e w' => e = .returned v ∧ ∃ y : TW W, w' = y.w :=
  h.mono fun _ w' ⟨he, ht⟩ => ⟨he, ⟨w', x.t.trans0 ht⟩, rfl⟩
theorem Calls.tw_same {P : Program} {f : FuncId} {args : Array Value} {W : World} {v : Value} (x : TW W) (h : Calls P f args x.w fun e w' => e = .returned v ∧ x.w = w') :
    Calls P f args x.w fun e w' => e = .returned v ∧ ∃ y : TW W, w' = y.w :=
  h.mono fun _ _ ⟨he, ht⟩ => ⟨he, x, ht.symm⟩
theorem wp_region_tw {P : Program} {id : Nat} {Q : Exit → Act → World → Prop} {a : Act} {w : World} {l : List Oper} (W : World) (hW : Touch [] W w) (hm : P.follows .mixedOrders = true) (hB : Region.lexB .any l.toArray = true)
    (h : wpQuiet P l.toArray (fun w' => ∃ x : TW W, w' = x.w) (fun a' => ∀ w', (∃ x : TW W, w' = x.w) → Q .normal a' w') l a) : (Code.region id l.toArray true).wp P Q a w :=
  wp_region_quiet (C := fun w' => ∃ x : TW W, w' = x.w) hm hB ⟨⟨_, hW.drew⟩, rfl⟩ (by simpa using h)
end Go.Proofs.Ytlkckkagoommaaa

/- value.Arith and what it calls: two values reckoned. For all. -/
namespace Go.Proofs.Ytlkckkagoommaaa
open Go.RowKit

def productV (a b : Int) : Int × Bool :=
  if a = 0 ∨ b = 0 then (0, true)
  else if a = -1 ∧ b = -9223372036854775808 ∨ b = -1 ∧ a = -9223372036854775808 then (0, false)
  else (wrap64 (a * b), wrap64 ((wrap64 (a * b)).tdiv b) == a)
def reckonV (o a b : Int) : Int × Bool :=
  if o = 43 then (wrap64 (a + b), (decide (a < wrap64 (a + b)) == decide (0 < b)) || b == 0)
  else if o = 45 then (wrap64 (a - b), (decide (wrap64 (a - b) < a) == decide (0 < b)) || b == 0)
  else if o = 42 then productV a b
  else if o = 47 then (wrap64 (a.tdiv b), a != -9223372036854775808 || b != -1)
  else if b = -1 then (0, true) else (a.tmod b, true)
def arithV (o : Int) (a b : VD) : VD × Int :=
  if o ≠ 43 ∧ o ≠ 45 ∧ o ≠ 42 ∧ o ≠ 47 ∧ o ≠ 37 then (zeroV, 20)
  else if a.kind = 2 ∨ b.kind = 2 then (zeroV, 12)
  else if a.kind = 0 ∨ b.kind = 0 then (zeroV, 0)
  else if b.num = 0 ∧ (o = 47 ∨ o = 37) then (zeroV, 11)
  else if (reckonV o a.num b.num).2 = true then (ofV (reckonV o a.num b.num).1, 0) else (zeroV, 10)

set_option maxRecDepth 20000 in
set_option maxHeartbeats 800000 in
theorem product_any (a b : Int) (w : World) :
    Calls Try.prog 97 #[.int .i64 a, .int .i64 b] w fun e w' => e = .returned (.tuple #[.int .i64 (productV a b).1, .bool (productV a b).2]) ∧ Touch [] w w' := by
  by_cases h0 : a = 0 ∨ b = 0
  · have hp : productV a b = (0, true) := by unfold productV; rw [if_pos h0]
    have Hp := Lib.hid hp
    clear hp
    by_cases ha : a = 0
    · subst ha
      go_enter Try.func97, Try.ntmps97
      go_wp2_with fail
      go_ret2
      exact ⟨by rw [Hp.out]; rfl, Touch.refl _ _⟩
    · have hb : b = 0 := h0.resolve_left ha
      have qa : (a == 0) = false := by simpa using ha
      subst hb
      clear h0 ha
      go_enter Try.func97, Try.ntmps97
      go_wp2_with fail
      go_ret2
      exact ⟨by rw [Hp.out]; rfl, Touch.refl _ _⟩
  have ha0 : a ≠ 0 := fun h => h0 (.inl h)
  have hb0 : b ≠ 0 := fun h => h0 (.inr h)
  have qa : (a == 0) = false := by simpa using ha0
  have qb : (b == 0) = false := by simpa using hb0
  by_cases h1 : a = -1 ∧ b = -9223372036854775808 ∨ b = -1 ∧ a = -9223372036854775808
  · have Hp := Lib.hid (show productV a b = (0, false) by unfold productV; rw [if_neg h0, if_pos h1])
    clear ha0 hb0 qa qb h0
    rcases h1 with ⟨rfl, rfl⟩ | ⟨rfl, rfl⟩
    · go_enter Try.func97, Try.ntmps97
      go_wp2_with fail
      go_ret2
      exact ⟨by rw [Hp.out]; rfl, Touch.refl _ _⟩
    · go_enter Try.func97, Try.ntmps97
      go_wp2_with fail
      go_ret2
      exact ⟨by rw [Hp.out]; rfl, Touch.refl _ _⟩
  · have Hp := Lib.hid (show productV a b = (wrap64 (a * b), wrap64 ((wrap64 (a * b)).tdiv b) == a) by unfold productV; rw [if_neg h0, if_neg h1])
    have hnot : ((a == -1 && b == -9223372036854775808) || (b == -1 && a == -9223372036854775808)) = false := by
      rw [Bool.eq_false_iff]
      intro h
      simp only [Bool.or_eq_true, Bool.and_eq_true, beq_iff_eq] at h
      exact h1 h
    have key : ∀ (W : World), Touch [] w W → True := fun _ _ => trivial
    clear h0 h1 ha0 key
    rcases e1 : (a == -1) with _ | _ <;> rcases e2 : (b == -9223372036854775808) with _ | _ <;> rcases e3 : (b == -1) with _ | _ <;> rcases e4 : (a == -9223372036854775808) with _ | _ <;> (try (exfalso; simp [e1, e2, e3, e4] at hnot; done))
    all_goals
      clear hnot
      go_enter Try.func97, Try.ntmps97
      go_wp2_with fail
      refine wp_region_tw w (Touch.refl _ _) (by kernel_rfl) (by kernel_rfl) ?_
      repeat (go_big_quiet_step (fail))
      refine wpQuiet_nil ?_
      rintro _ ⟨y, rfl⟩
      go_wp2
      go_ret2
      exact ⟨by rw [Hp.out]; rfl, y.t⟩

set_option maxRecDepth 20000 in
set_option maxHeartbeats 800000 in
theorem reckon_any (o a b : Int) (hb : o = 47 ∨ o = 37 → b ≠ 0) (ho : o = 43 ∨ o = 45 ∨ o = 42 ∨ o = 47 ∨ o = 37) (w : World) :
    Calls Try.prog 75 #[.int .u8 o, .int .i64 a, .int .i64 b] w fun e w' => e = .returned (.tuple #[.int .i64 (reckonV o a b).1, .bool (reckonV o a b).2]) ∧ Touch [] w w' := by
  rcases ho with rfl | rfl | rfl | rfl | rfl
  · clear hb
    go_enter Try.func75, Try.ntmps75
    go_wp2_with fail
    all_goals
      go_ret2
      refine ⟨?_, Touch.refl _ _⟩
      simp [reckonV, *]
  · clear hb
    go_enter Try.func75, Try.ntmps75
    go_wp2_with fail
    all_goals
      go_ret2
      refine ⟨?_, Touch.refl _ _⟩
      simp [reckonV, *]
  · have Hp := Lib.hid fun w' => product_any a b w'
    have hr : reckonV 42 a b = productV a b := by simp [reckonV]
    have Hr := Lib.hid hr
    clear hb hr
    go_enter Try.func75, Try.ntmps75
    go_wp2_with fail
    refine (Hp.out _).mono ?_
    rintro e w1 ⟨rfl, t1⟩
    go_wp2_with fail
    go_ret2
    exact ⟨by rw [Hr.out]; rfl, t1⟩
  · have hb0 := hb (.inl rfl)
    have qb : (b == 0) = false := by simpa using hb0
    clear hb
    go_enter Try.func75, Try.ntmps75
    go_wp2_with fail
    all_goals
      go_ret2
      refine ⟨?_, Touch.refl _ _⟩
      simp [reckonV, *]
  · have hb0 := hb (.inr rfl)
    have qb : (b == 0) = false := by simpa using hb0
    clear hb
    by_cases h1 : b = -1
    · subst h1
      go_enter Try.func75, Try.ntmps75
      go_wp2_with fail
      all_goals
        go_ret2
        refine ⟨?_, Touch.refl _ _⟩
        simp [reckonV]
    · have q1 : (b == -1) = false := by simpa using h1
      go_enter Try.func75, Try.ntmps75
      go_wp2_with fail
      all_goals
        go_ret2
        refine ⟨?_, Touch.refl _ _⟩
        simp [reckonV, h1]

theorem idx_ops {o : Int} (ho : o = 43 ∨ o = 45 ∨ o = 42 ∨ o = 47 ∨ o = 37) : ∃ n : Nat, Lib.indexByte (S [43, 45, 42, 47, 37]).data.toList o.toNat.toUInt8 = (n : Int) := by
  rcases ho with rfl | rfl | rfl | rfl | rfl
  · exact ⟨0, by decide +kernel⟩
  · exact ⟨1, by decide +kernel⟩
  · exact ⟨2, by decide +kernel⟩
  · exact ⟨3, by decide +kernel⟩
  · exact ⟨4, by decide +kernel⟩

set_option maxRecDepth 20000 in
set_option maxHeartbeats 3200000 in
theorem arith_any (o : Int) (ho : o = 43 ∨ o = 45 ∨ o = 42 ∨ o = 47 ∨ o = 37) (a b : VD) (w : World) :
    Calls Try.prog 56 #[.int .u8 o, a.val, b.val] w fun e w' => e = .returned (.tuple #[(arithV o a b).1.val, .int .i64 (arithV o a b).2]) ∧ Touch [] w w' := by
  obtain ⟨k1, n1, s1⟩ := a
  obtain ⟨k2, n2, s2⟩ := b
  dsimp only [VD.val]
  have t0 := (((Touch.refl [] w).alloc (.cells #[.int .i64 k1, .int .i64 n1, .string s1] 30)).alloc (.cells #[.int .i64 k2, .int .i64 n2, .string s2] 30)).alloc (.cells #[.int .i64 0, .int .i64 0, .string ⟨#[]⟩] 30)
  have hb1 := (((Touch.refl [] (w.alloc (.cells #[.int .i64 k1, .int .i64 n1, .string s1] 30))).alloc (.cells #[.int .i64 k2, .int .i64 n2, .string s2] 30)).alloc (.cells #[.int .i64 0, .int .i64 0, .string ⟨#[]⟩] 30)).blk (heap_alloc_new w (.cells #[.int .i64 k1, .int .i64 n1, .string s1] 30)) (by simp)
  have hb2 := ((Touch.refl [] ((w.alloc (.cells #[.int .i64 k1, .int .i64 n1, .string s1] 30)).alloc (.cells #[.int .i64 k2, .int .i64 n2, .string s2] 30))).alloc (.cells #[.int .i64 0, .int .i64 0, .string ⟨#[]⟩] 30)).blk (heap_alloc_new (w.alloc (.cells #[.int .i64 k1, .int .i64 n1, .string s1] 30)) (.cells #[.int .i64 k2, .int .i64 n2, .string s2] 30)) (by simp)
  have hbr := heap_alloc_new ((w.alloc (.cells #[.int .i64 k1, .int .i64 n1, .string s1] 30)).alloc (.cells #[.int .i64 k2, .int .i64 n2, .string s2] 30)) (.cells #[.int .i64 0, .int .i64 0, .string ⟨#[]⟩] 30)
  simp only [World.size_alloc] at hb2 hbr
  obtain ⟨W, hW⟩ : ∃ W, W = ((w.alloc (.cells #[.int .i64 k1, .int .i64 n1, .string s1] 30)).alloc (.cells #[.int .i64 k2, .int .i64 n2, .string s2] 30)).alloc (.cells #[.int .i64 0, .int .i64 0, .string ⟨#[]⟩] 30) := ⟨_, rfl⟩
  rw [← hW] at hb1 hb2 hbr t0
  have HW := Lib.hid hW; have Hb1 := Lib.hid hb1; have Hb2 := Lib.hid hb2; have Hbr := Lib.hid hbr; have T0 := Lib.hid t0
  have Hnull := Lib.hid fun w' => null_any w'
  have Hof := Lib.hid fun n w' => of_any n w'
  simp only [VD.val, zeroV, ofV, S] at Hnull Hof
  clear hW hb1 hb2 hbr t0
  have hib := fun w' => Try.strings_IndexByte (S [43, 45, 42, 47, 37]) o w'
  obtain ⟨ix, hix⟩ := idx_ops ho
  rw [hix] at hib
  have Hib := Lib.hid hib
  have hno : ¬ (o ≠ 43 ∧ o ≠ 45 ∧ o ≠ 42 ∧ o ≠ 47 ∧ o ≠ 37) := by omega
  clear hix hib
  by_cases h1 : k1 = 2
  · have Hf := Lib.hid (show arithV o ⟨k1, n1, s1⟩ ⟨k2, n2, s2⟩ = (zeroV, 12) by unfold arithV; rw [if_neg hno, if_pos (.inl h1)])
    subst h1
    go_enter Try.func56, Try.ntmps56
    go_wp2_with fail
    rw [← HW.out]
    refine (Hib.out _).mono ?_
    rintro e w' ⟨rfl, rfl⟩
    obtain ⟨a0, a1, a2, _⟩ := blk3 Hb1.out
    obtain ⟨b0, b1, b2, _⟩ := blk3 Hb2.out
    have hbr0 := Hbr.out
    obtain ⟨r0, r1, r2, f0, f1, f2⟩ := blk3 Hbr.out
    go_wp2_with fail
    obtain ⟨q1, q2⟩ := out3 Hbr.out (.int .i64 0) (.int .i64 0) (.string ⟨#[]⟩)
    obtain ⟨d0, d1, d2, _⟩ := blk3 q1
    refine bodyPost_ret (v := .tuple #[.agg #[.int .i64 0, .int .i64 0, .string ⟨#[]⟩], .int .i64 (12)]) (by simp [results, Try.results56, go_sem, d0, d1, d2]) rfl ⟨?_, T0.out.trans q2 (fun b hb => .inr (by simp at hb; omega))⟩
    rw [Hf.out]; rfl
  have q1 : (k1 == 2) = false := by simpa using h1
  by_cases h2 : k2 = 2
  · have Hf := Lib.hid (show arithV o ⟨k1, n1, s1⟩ ⟨k2, n2, s2⟩ = (zeroV, 12) by unfold arithV; rw [if_neg hno, if_pos (.inr h2)])
    subst h2
    go_enter Try.func56, Try.ntmps56
    go_wp2_with fail
    rw [← HW.out]
    refine (Hib.out _).mono ?_
    rintro e w' ⟨rfl, rfl⟩
    obtain ⟨a0, a1, a2, _⟩ := blk3 Hb1.out
    obtain ⟨b0, b1, b2, _⟩ := blk3 Hb2.out
    have hbr0 := Hbr.out
    obtain ⟨r0, r1, r2, f0, f1, f2⟩ := blk3 Hbr.out
    go_wp2_with fail
    obtain ⟨q1, q2⟩ := out3 Hbr.out (.int .i64 0) (.int .i64 0) (.string ⟨#[]⟩)
    obtain ⟨d0, d1, d2, _⟩ := blk3 q1
    refine bodyPost_ret (v := .tuple #[.agg #[.int .i64 0, .int .i64 0, .string ⟨#[]⟩], .int .i64 (12)]) (by simp [results, Try.results56, go_sem, d0, d1, d2]) rfl ⟨?_, T0.out.trans q2 (fun b hb => .inr (by simp at hb; omega))⟩
    rw [Hf.out]; rfl
  have q2' : (k2 == 2) = false := by simpa using h2
  by_cases h3 : k1 = 0
  · have Hf := Lib.hid (show arithV o ⟨k1, n1, s1⟩ ⟨k2, n2, s2⟩ = (zeroV, 0) by unfold arithV; rw [if_neg hno, if_neg (by rintro (h | h); exact h1 h; exact h2 h), if_pos (.inl h3)])
    subst h3
    clear h1 h2
    go_enter Try.func56, Try.ntmps56
    go_wp2_with fail
    rw [← HW.out]
    refine (Hib.out _).mono ?_
    rintro e w' ⟨rfl, rfl⟩
    obtain ⟨a0, a1, a2, _⟩ := blk3 Hb1.out
    obtain ⟨b0, b1, b2, _⟩ := blk3 Hb2.out
    have hbr0 := Hbr.out
    obtain ⟨r0, r1, r2, f0, f1, f2⟩ := blk3 Hbr.out
    go_wp2_with fail
    clear a0 a1 a2 b0 b1 b2 r0 r1 r2 f0 f1 f2
    refine (Hnull.out _).mono ?_
    rintro e w1 ⟨rfl, u1⟩
    obtain ⟨a0, a1, a2, _⟩ := blk3 (u1.blk Hb1.out (by simp))
    obtain ⟨b0, b1, b2, _⟩ := blk3 (u1.blk Hb2.out (by simp))
    have hbr1 := (u1.blk Hbr.out (by simp))
    obtain ⟨r0, r1, r2, f0, f1, f2⟩ := blk3 (u1.blk Hbr.out (by simp))
    go_wp2_with fail
    obtain ⟨q1, q2⟩ := out3 (u1.blk Hbr.out (by simp)) (.int .i64 0) (.int .i64 0) (.string ⟨#[]⟩)
    obtain ⟨d0, d1, d2, _⟩ := blk3 q1
    refine bodyPost_ret (v := .tuple #[.agg #[.int .i64 0, .int .i64 0, .string ⟨#[]⟩], .int .i64 (0)]) (by simp [results, Try.results56, go_sem, d0, d1, d2]) rfl ⟨?_, (T0.out.trans0 u1).trans q2 (fun b hb => .inr (by simp at hb; omega))⟩
    rw [Hf.out]; rfl
  have q3 : (k1 == 0) = false := by simpa using h3
  by_cases h4 : k2 = 0
  · have Hf := Lib.hid (show arithV o ⟨k1, n1, s1⟩ ⟨k2, n2, s2⟩ = (zeroV, 0) by unfold arithV; rw [if_neg hno, if_neg (by rintro (h | h); exact h1 h; exact h2 h), if_pos (.inr h4)])
    subst h4
    clear h1 h2 h3
    go_enter Try.func56, Try.ntmps56
    go_wp2_with fail
    rw [← HW.out]
    refine (Hib.out _).mono ?_
    rintro e w' ⟨rfl, rfl⟩
    obtain ⟨a0, a1, a2, _⟩ := blk3 Hb1.out
    obtain ⟨b0, b1, b2, _⟩ := blk3 Hb2.out
    have hbr0 := Hbr.out
    obtain ⟨r0, r1, r2, f0, f1, f2⟩ := blk3 Hbr.out
    go_wp2_with fail
    clear a0 a1 a2 b0 b1 b2 r0 r1 r2 f0 f1 f2
    refine (Hnull.out _).mono ?_
    rintro e w1 ⟨rfl, u1⟩
    obtain ⟨a0, a1, a2, _⟩ := blk3 (u1.blk Hb1.out (by simp))
    obtain ⟨b0, b1, b2, _⟩ := blk3 (u1.blk Hb2.out (by simp))
    have hbr1 := (u1.blk Hbr.out (by simp))
    obtain ⟨r0, r1, r2, f0, f1, f2⟩ := blk3 (u1.blk Hbr.out (by simp))
    go_wp2_with fail
    obtain ⟨q1, q2⟩ := out3 (u1.blk Hbr.out (by simp)) (.int .i64 0) (.int .i64 0) (.string ⟨#[]⟩)
    obtain ⟨d0, d1, d2, _⟩ := blk3 q1
    refine bodyPost_ret (v := .tuple #[.agg #[.int .i64 0, .int .i64 0, .string ⟨#[]⟩], .int .i64 (0)]) (by simp [results, Try.results56, go_sem, d0, d1, d2]) rfl ⟨?_, (T0.out.trans0 u1).trans q2 (fun b hb => .inr (by simp at hb; omega))⟩
    rw [Hf.out]; rfl
  have q4 : (k2 == 0) = false := by simpa using h4
  have harith : arithV o ⟨k1, n1, s1⟩ ⟨k2, n2, s2⟩ = if n2 = 0 ∧ (o = 47 ∨ o = 37) then (zeroV, 11) else if (reckonV o n1 n2).2 = true then (ofV (reckonV o n1 n2).1, 0) else (zeroV, 10) := by
    unfold arithV; rw [if_neg hno, if_neg (by rintro (h | h); exact h1 h; exact h2 h), if_neg (by rintro (h | h); exact h3 h; exact h4 h)]
  clear h1 h2 h3 h4 hno
  by_cases h5 : n2 = 0 ∧ (o = 47 ∨ o = 37)
  · have Hf := Lib.hid (show arithV o ⟨k1, n1, s1⟩ ⟨k2, n2, s2⟩ = (zeroV, 11) by rw [harith, if_pos h5])
    obtain ⟨rfl, h6⟩ := h5
    clear harith
    rcases h6 with rfl | rfl
    · clear ho
      go_enter Try.func56, Try.ntmps56
      go_wp2_with fail
      rw [← HW.out]
      refine (Hib.out _).mono ?_
      rintro e w' ⟨rfl, rfl⟩
      obtain ⟨a0, a1, a2, _⟩ := blk3 Hb1.out
      obtain ⟨b0, b1, b2, _⟩ := blk3 Hb2.out
      have hbr0 := Hbr.out
      obtain ⟨r0, r1, r2, f0, f1, f2⟩ := blk3 Hbr.out
      go_wp2_with fail
      obtain ⟨q1, q2⟩ := out3 Hbr.out (.int .i64 0) (.int .i64 0) (.string ⟨#[]⟩)
      obtain ⟨d0, d1, d2, _⟩ := blk3 q1
      refine bodyPost_ret (v := .tuple #[.agg #[.int .i64 0, .int .i64 0, .string ⟨#[]⟩], .int .i64 (11)]) (by simp [results, Try.results56, go_sem, d0, d1, d2]) rfl ⟨?_, T0.out.trans q2 (fun b hb => .inr (by simp at hb; omega))⟩
      rw [Hf.out]; rfl
    · clear ho
      go_enter Try.func56, Try.ntmps56
      go_wp2_with fail
      rw [← HW.out]
      refine (Hib.out _).mono ?_
      rintro e w' ⟨rfl, rfl⟩
      obtain ⟨a0, a1, a2, _⟩ := blk3 Hb1.out
      obtain ⟨b0, b1, b2, _⟩ := blk3 Hb2.out
      have hbr0 := Hbr.out
      obtain ⟨r0, r1, r2, f0, f1, f2⟩ := blk3 Hbr.out
      go_wp2_with fail
      obtain ⟨q1, q2⟩ := out3 Hbr.out (.int .i64 0) (.int .i64 0) (.string ⟨#[]⟩)
      obtain ⟨d0, d1, d2, _⟩ := blk3 q1
      refine bodyPost_ret (v := .tuple #[.agg #[.int .i64 0, .int .i64 0, .string ⟨#[]⟩], .int .i64 (11)]) (by simp [results, Try.results56, go_sem, d0, d1, d2]) rfl ⟨?_, T0.out.trans q2 (fun b hb => .inr (by simp at hb; omega))⟩
      rw [Hf.out]; rfl
  rw [if_neg h5] at harith
  have hrk := fun w' => reckon_any o n1 n2 (fun h hn => h5 ⟨hn, h⟩) ho w'
  have hd : (n2 == 0) = true → (o == 47) = false ∧ (o == 37) = false := fun h => by
    have hn : n2 = 0 := by simpa using h
    exact ⟨by simpa using fun h' => h5 ⟨hn, .inl h'⟩, by simpa using fun h' => h5 ⟨hn, .inr h'⟩⟩
  obtain ⟨rv, hrv⟩ : ∃ rv, rv = reckonV o n1 n2 := ⟨_, rfl⟩
  rw [← hrv] at hrk harith
  obtain ⟨rn, rb⟩ := rv
  simp only at hrk harith
  have Hrk := Lib.hid hrk
  have Hha := Lib.hid harith
  clear hrk hrv h5 ho harith
  rcases hz : (n2 == 0) with _ | _
  · clear hd
    cases rb
    · have Hf := Lib.hid (show arithV o ⟨k1, n1, s1⟩ ⟨k2, n2, s2⟩ = (zeroV, 10) by rw [Hha.out, if_neg (by simp)])
      go_enter Try.func56, Try.ntmps56
      go_wp2_with fail
      rw [← HW.out]
      refine (Hib.out _).mono ?_
      rintro e w' ⟨rfl, rfl⟩
      obtain ⟨a0, a1, a2, _⟩ := blk3 Hb1.out
      obtain ⟨b0, b1, b2, _⟩ := blk3 Hb2.out
      have hbr0 := Hbr.out
      obtain ⟨r0, r1, r2, f0, f1, f2⟩ := blk3 Hbr.out
      go_wp2_with fail
      clear a0 a1 a2 b0 b1 b2 r0 r1 r2 f0 f1 f2
      refine (Hrk.out _).mono ?_
      rintro e w1 ⟨rfl, u1⟩
      obtain ⟨a0, a1, a2, _⟩ := blk3 (u1.blk Hb1.out (by simp))
      obtain ⟨b0, b1, b2, _⟩ := blk3 (u1.blk Hb2.out (by simp))
      have hbr1 := (u1.blk Hbr.out (by simp))
      obtain ⟨r0, r1, r2, f0, f1, f2⟩ := blk3 (u1.blk Hbr.out (by simp))
      go_wp2_with fail
      obtain ⟨q1, q2⟩ := out3 (u1.blk Hbr.out (by simp)) (.int .i64 0) (.int .i64 0) (.string ⟨#[]⟩)
      obtain ⟨d0, d1, d2, _⟩ := blk3 q1
      refine bodyPost_ret (v := .tuple #[.agg #[.int .i64 0, .int .i64 0, .string ⟨#[]⟩], .int .i64 (10)]) (by simp [results, Try.results56, go_sem, d0, d1, d2]) rfl ⟨?_, (T0.out.trans0 u1).trans q2 (fun b hb => .inr (by simp at hb; omega))⟩
      rw [Hf.out]; rfl
    · have Hf := Lib.hid (show arithV o ⟨k1, n1, s1⟩ ⟨k2, n2, s2⟩ = (ofV rn, 0) by rw [Hha.out, if_pos rfl])
      go_enter Try.func56, Try.ntmps56
      go_wp2_with fail
      rw [← HW.out]
      refine (Hib.out _).mono ?_
      rintro e w' ⟨rfl, rfl⟩
      obtain ⟨a0, a1, a2, _⟩ := blk3 Hb1.out
      obtain ⟨b0, b1, b2, _⟩ := blk3 Hb2.out
      have hbr0 := Hbr.out
      obtain ⟨r0, r1, r2, f0, f1, f2⟩ := blk3 Hbr.out
      go_wp2_with fail
      clear a0 a1 a2 b0 b1 b2 r0 r1 r2 f0 f1 f2
      refine (Hrk.out _).mono ?_
      rintro e w1 ⟨rfl, u1⟩
      obtain ⟨a0, a1, a2, _⟩ := blk3 (u1.blk Hb1.out (by simp))
      obtain ⟨b0, b1, b2, _⟩ := blk3 (u1.blk Hb2.out (by simp))
      have hbr1 := (u1.blk Hbr.out (by simp))
      obtain ⟨r0, r1, r2, f0, f1, f2⟩ := blk3 (u1.blk Hbr.out (by simp))
      go_wp2_with fail
      clear a0 a1 a2 b0 b1 b2 r0 r1 r2 f0 f1 f2
      refine (Hof.out _ _).mono ?_
      rintro e w2 ⟨rfl, u2⟩
      obtain ⟨a0, a1, a2, _⟩ := blk3 (u2.blk (u1.blk Hb1.out (by simp)) (by simp))
      obtain ⟨b0, b1, b2, _⟩ := blk3 (u2.blk (u1.blk Hb2.out (by simp)) (by simp))
      have hbr2 := (u2.blk (u1.blk Hbr.out (by simp)) (by simp))
      obtain ⟨r0, r1, r2, f0, f1, f2⟩ := blk3 (u2.blk (u1.blk Hbr.out (by simp)) (by simp))
      go_wp2_with fail
      obtain ⟨q1, q2⟩ := out3 (u2.blk (u1.blk Hbr.out (by simp)) (by simp)) (.int .i64 1) (.int .i64 rn) (.string ⟨#[]⟩)
      obtain ⟨d0, d1, d2, _⟩ := blk3 q1
      refine bodyPost_ret (v := .tuple #[.agg #[.int .i64 1, .int .i64 rn, .string ⟨#[]⟩], .int .i64 (0)]) (by simp [results, Try.results56, go_sem, d0, d1, d2]) rfl ⟨?_, ((T0.out.trans0 u1).trans0 u2).trans q2 (fun b hb => .inr (by simp at hb; omega))⟩
      rw [Hf.out]; rfl
  · obtain ⟨e1, e2⟩ := hd hz
    cases rb
    · have Hf := Lib.hid (show arithV o ⟨k1, n1, s1⟩ ⟨k2, n2, s2⟩ = (zeroV, 10) by rw [Hha.out, if_neg (by simp)])
      go_enter Try.func56, Try.ntmps56
      go_wp2_with fail
      rw [← HW.out]
      refine (Hib.out _).mono ?_
      rintro e w' ⟨rfl, rfl⟩
      obtain ⟨a0, a1, a2, _⟩ := blk3 Hb1.out
      obtain ⟨b0, b1, b2, _⟩ := blk3 Hb2.out
      have hbr0 := Hbr.out
      obtain ⟨r0, r1, r2, f0, f1, f2⟩ := blk3 Hbr.out
      go_wp2_with fail
      clear a0 a1 a2 b0 b1 b2 r0 r1 r2 f0 f1 f2
      refine (Hrk.out _).mono ?_
      rintro e w1 ⟨rfl, u1⟩
      obtain ⟨a0, a1, a2, _⟩ := blk3 (u1.blk Hb1.out (by simp))
      obtain ⟨b0, b1, b2, _⟩ := blk3 (u1.blk Hb2.out (by simp))
      have hbr1 := (u1.blk Hbr.out (by simp))
      obtain ⟨r0, r1, r2, f0, f1, f2⟩ := blk3 (u1.blk Hbr.out (by simp))
      go_wp2_with fail
      obtain ⟨q1, q2⟩ := out3 (u1.blk Hbr.out (by simp)) (.int .i64 0) (.int .i64 0) (.string ⟨#[]⟩)
      obtain ⟨d0, d1, d2, _⟩ := blk3 q1
      refine bodyPost_ret (v := .tuple #[.agg #[.int .i64 0, .int .i64 0, .string ⟨#[]⟩], .int .i64 (10)]) (by simp [results, Try.results56, go_sem, d0, d1, d2]) rfl ⟨?_, (T0.out.trans0 u1).trans q2 (fun b hb => .inr (by simp at hb; omega))⟩
      rw [Hf.out]; rfl
    · have Hf := Lib.hid (show arithV o ⟨k1, n1, s1⟩ ⟨k2, n2, s2⟩ = (ofV rn, 0) by rw [Hha.out, if_pos rfl])
      go_enter Try.func56, Try.ntmps56
      go_wp2_with fail
      rw [← HW.out]
      refine (Hib.out _).mono ?_
      rintro e w' ⟨rfl, rfl⟩
      obtain ⟨a0, a1, a2, _⟩ := blk3 Hb1.out
      obtain ⟨b0, b1, b2, _⟩ := blk3 Hb2.out
      have hbr0 := Hbr.out
      obtain ⟨r0, r1, r2, f0, f1, f2⟩ := blk3 Hbr.out
      go_wp2_with fail
      clear a0 a1 a2 b0 b1 b2 r0 r1 r2 f0 f1 f2
      refine (Hrk.out _).mono ?_
      rintro e w1 ⟨rfl, u1⟩
      obtain ⟨a0, a1, a2, _⟩ := blk3 (u1.blk Hb1.out (by simp))
      obtain ⟨b0, b1, b2, _⟩ := blk3 (u1.blk Hb2.out (by simp))
      have hbr1 := (u1.blk Hbr.out (by simp))
      obtain ⟨r0, r1, r2, f0, f1, f2⟩ := blk3 (u1.blk Hbr.out (by simp))
      go_wp2_with fail
      clear a0 a1 a2 b0 b1 b2 r0 r1 r2 f0 f1 f2
      refine (Hof.out _ _).mono ?_
      rintro e w2 ⟨rfl, u2⟩
      obtain ⟨a0, a1, a2, _⟩ := blk3 (u2.blk (u1.blk Hb1.out (by simp)) (by simp))
      obtain ⟨b0, b1, b2, _⟩ := blk3 (u2.blk (u1.blk Hb2.out (by simp)) (by simp))
      have hbr2 := (u2.blk (u1.blk Hbr.out (by simp)) (by simp))
      obtain ⟨r0, r1, r2, f0, f1, f2⟩ := blk3 (u2.blk (u1.blk Hbr.out (by simp)) (by simp))
      go_wp2_with fail
      obtain ⟨q1, q2⟩ := out3 (u2.blk (u1.blk Hbr.out (by simp)) (by simp)) (.int .i64 1) (.int .i64 rn) (.string ⟨#[]⟩)
      obtain ⟨d0, d1, d2, _⟩ := blk3 q1
      refine bodyPost_ret (v := .tuple #[.agg #[.int .i64 1, .int .i64 rn, .string ⟨#[]⟩], .int .i64 (0)]) (by simp [results, Try.results56, go_sem, d0, d1, d2]) rfl ⟨?_, ((T0.out.trans0 u1).trans0 u2).trans q2 (fun b hb => .inr (by simp at hb; omega))⟩
      rw [Hf.out]; rfl
end Go.Proofs.Ytlkckkagoommaaa

/- expr.Expr.Equal, slices.EqualFunc at it: are two expressions one? For all expressions. -/
namespace Go.Proofs.Ytlkckkagoommaaa
open Go.RowKit

def eqV3 (a b : VD) : Bool := decide (a.kind = b.kind) && (decide (a.num = b.num) && decide (a.text = b.text))
theorem eqV3_iff (a b : VD) : eqV3 a b = true ↔ a = b := by
  obtain ⟨ak, an, at_⟩ := a
  obtain ⟨bk, bn, bt⟩ := b
  simp [eqV3]
theorem eqIn_val (a b : VD) (w : World) : (Op.equalIn 10000 30 (.agg #[.int .i64 a.kind, .int .i64 a.num, .string a.text]) (.agg #[.int .i64 b.kind, .int .i64 b.num, .string b.text])).run Try.prog w = .ok (eqV3 a b) w := by
  have hS : Try.prog.underlying 30 = some (.struct (Try.prog.fieldsOf 30)) := by kernel_rfl
  have hp : Try.prog.stoodInHeld 30 = false := by kernel_rfl
  rw [show (10000 : Nat) = 9999 + 1 from rfl, run_equalIn_agg w 9999 30 _ _ hS hp]
  simp only [Program.fieldsOf, Try.underlying30]
  have hs := bs_beq a.text b.text
  go_simp
  by_cases h1 : a.kind = b.kind <;> by_cases h2 : a.num = b.num <;> by_cases h3 : a.text = b.text <;> simp [eqV3, h1, h2, h3]
theorem guard_val (op : BinOp) (x y : Operand) (a b : Array Value) (w : World) : (eqGuard op 30 x y (.agg a) (.agg b)).run Try.prog w = .ok () w := run_eqGuard_agg w op _ x y _ _ (by kernel_rfl)
theorem eqL_drop {α : Type} (f : α → α → Bool) (l r : List α) (k : Nat) (h : k < l.length) (h2 : k < r.length) : eqL f (l.drop k) (r.drop k) = (f l[k] r[k] && eqL f (l.drop (k + 1)) (r.drop (k + 1))) := by
  rw [List.drop_eq_getElem_cons h, List.drop_eq_getElem_cons h2]; rfl
theorem eqL_len {α : Type} (f : α → α → Bool) : ∀ l r : List α, l.length ≠ r.length → eqL f l r = false
  | [], [] => fun h => absurd rfl h
  | [], _ :: _ => fun _ => rfl
  | _ :: _, [] => fun _ => rfl
  | a :: l, b :: r => fun h => by
    show (f a b && eqL f l r) = false
    rw [eqL_len f l r (by simpa using h), Bool.and_false]

/-- what Equal promises -/
def EqSaid (n : Nat) : Prop := ∀ (a b : TX n) (x y : XC) (w : World), ExP xcE anyB n w x a → ExP xcE anyB n w y b → sizeX n a ≤ 1000000 → sizeX n b ≤ 1000000 →
    Calls Try.prog 29 #[x.val, y.val] w fun r w' => r = .returned (.bool (eqX n a b)) ∧ Touch [] w w'

set_option maxRecDepth 20000 in
set_option maxHeartbeats 1600000 in
theorem equalFuncX (n : Nat) (ih : EqSaid n) (A B : Option Addr) (c1 c2 m1 m2 : Nat) (l r : List (TX n)) (hm1 : l.length = m1) (hm2 : r.length = m2) (w : World) (h : ArgsP xcE anyB n w A l) (h2 : ArgsP xcE anyB n w B r) (hl : sumX n l ≤ 1000000) (hl2 : sumX n r ≤ 1000000) :
    Calls Try.prog 46 #[.slice A m1 c1, .slice B m2 c2, .func (.func 29) #[] #[]] w fun e w' => e = .returned (.bool (eqL (eqX n) l r)) ∧ Touch [] w w' := by
  subst hm1 hm2
  have hs1 := len_le_sum n l
  by_cases hlen : l.length = r.length
  · have Hlen := Lib.hid hlen
    have hq' : ((l.length : Int) != (r.length : Int)) = false := by rw [hlen]; simp
    clear hlen
    go_enter Try.func46, Try.ntmps46
    go_wp2
    clear hq'
    go_loopw [17] (fun i wr => ∃ k : Nat, k ≤ l.length ∧ i = .int .i64 k ∧ Hid (eqL (eqX n) l r = eqL (eqX n) (l.drop k) (r.drop k)) ∧ Touch [] w wr) (fun i _ => l.length - (intOf i).toNat)
    case atStart => exact ⟨0, by omega, rfl, Lib.hid rfl, Touch.refl _ _⟩
    case round =>
      obtain ⟨k, hk, rfl, He, ht⟩ := hrel
      by_cases hlt : k < l.length
      · have hlt2 : k < r.length := by have := Hlen.out; omega
        obtain ⟨ad, b, off, y, rfl, hadd, hy, hcell⟩ := (h.touch0 ht).at_ xcE_length k hlt
        obtain ⟨bd, b2, off2, z, rfl, hadd2, hz, hcell2⟩ := (h2.touch0 ht).at_ xcE_length k hlt2
        have hst := eqL_drop (eqX n) l r k hlt hlt2
        rw [← He.out] at hst
        have hms := size_mem (List.getElem_mem hlt)
        have hms2 := size_mem (List.getElem_mem hlt2)
        obtain ⟨x1, hx1⟩ : ∃ x1, x1 = l[k] := ⟨_, rfl⟩
        obtain ⟨x2, hx2⟩ : ∃ x2, x2 = r[k] := ⟨_, rfl⟩
        rw [← hx1] at hst hy hms
        rw [← hx2] at hst hz hms2
        have Hst := Lib.hid hst
        have Hf := Lib.hid fun w' (t : Touch [] wr w') => ih x1 x2 y z w' (hy.touch0 t) (hz.touch0 t) (by omega) (by omega)
        have ta := ((Touch.refl [] wr).alloc (.cells #[.int .i64 y.nd.kind, .string y.nd.name, .int .i64 y.nd.v.kind, .int .i64 y.nd.v.num, .string y.nd.v.text, .string y.nd.op, .slice y.A y.n y.c] 33)).alloc (.cells #[.int .i64 z.nd.kind, .string z.nd.name, .int .i64 z.nd.v.kind, .int .i64 z.nd.v.num, .string z.nd.v.text, .string z.nd.op, .slice z.A z.n z.c] 33)
        have c0 := hcell 0 _ rfl; have c1 := hcell 1 _ rfl; have c2 := hcell 2 _ rfl; have c3 := hcell 3 _ rfl; have c4 := hcell 4 _ rfl; have c5 := hcell 5 _ rfl; have c6 := hcell 6 _ rfl
        have d0 := hcell2 0 _ rfl; have d1 := hcell2 1 _ rfl; have d2 := hcell2 2 _ rfl; have d3 := hcell2 3 _ rfl; have d4 := hcell2 4 _ rfl; have d5 := hcell2 5 _ rfl; have d6 := hcell2 6 _ rfl
        rw [Nat.add_zero] at c0 d0
        clear hst hx1 hx2 hcell hcell2 He
        obtain ⟨⟨k1, nm1, ⟨vk1, vn1, vt1⟩, op1⟩, A1, m1, c1'⟩ := y
        obtain ⟨⟨k2, nm2, ⟨vk2, vn2, vt2⟩, op2⟩, A2, m2, c2'⟩ := z
        simp only [XC.val] at Hf
        simp only at c0 c1 c2 c3 c4 c5 c6 d0 d1 d2 d3 d4 d5 d6 ta
        have tA := (Touch.refl [] wr).alloc (.cells #[.int .i64 k1, .string nm1, .int .i64 vk1, .int .i64 vn1, .string vt1, .string op1, .slice A1 m1 c1'] 33)
        replace d0 := tA.cell d0 (by simp); replace d1 := tA.cell d1 (by simp); replace d2 := tA.cell d2 (by simp); replace d3 := tA.cell d3 (by simp); replace d4 := tA.cell d4 (by simp); replace d5 := tA.cell d5 (by simp); replace d6 := tA.cell d6 (by simp)
        have hkI : (k : Int) < (l.length : Int) := by omega
        have hkI2 : (k : Int) < (r.length : Int) := by omega
        obtain ⟨bo, hbo⟩ : ∃ bo, bo = eqX n x1 x2 := ⟨_, rfl⟩
        rw [← hbo] at Hst Hf
        clear hbo
        cases bo
        · go_wp2_with fail
          refine (Hf.out _ ta).mono ?_
          rintro e w1 ⟨rfl, t1⟩
          go_wp2_with fail
          go_ret
          exact ⟨ret_bool (by rw [Hst.out]; rfl), (ht.trans0 ta).trans0 t1⟩
        · go_wp2_with fail
          refine (Hf.out _ ta).mono ?_
          rintro e w1 ⟨rfl, t1⟩
          go_wp2_with fail
          go_roundw
          case rel => exact ⟨k + 1, by omega, by go_num, Lib.hid (by rw [Hst.out]; rfl), (ht.trans0 ta).trans0 t1⟩
          case measure => simp [intOf]; omega
      · obtain rfl : k = l.length := by omega
        have Hf := Lib.hid (show eqL (eqX n) l r = true by rw [He.out, List.drop_length, List.drop_of_length_le (by have := Hlen.out; omega)]; rfl)
        go_wp2_with fail
        go_ret
        exact ⟨ret_bool (by rw [Hf.out]), ht⟩
  · have Hf := Lib.hid (eqL_len (eqX n) l r hlen)
    have hq' : ((l.length : Int) != (r.length : Int)) = true := by rw [bne_iff_ne]; omega
    clear hlen
    go_enter Try.func46, Try.ntmps46
    go_wp2
    go_ret
    exact ⟨ret_bool (by rw [Hf.out]), Touch.refl _ _⟩

set_option maxRecDepth 20000 in
set_option maxHeartbeats 3200000 in
theorem equalX_any (n : Nat) : EqSaid n := by
  induction n with
  | zero => intro a; exact a.elim
  | succ n ih =>
    intro a b x y w hx hy hs hs2
    obtain ⟨d, l⟩ := a
    obtain ⟨f, r⟩ := b
    obtain ⟨h1, h2, h3⟩ := hx.args
    obtain ⟨g1, g2, g3⟩ := hy.args
    have hsum : sumX n l ≤ 1000000 := by have hs' : 1 + sumX n l ≤ 1000000 := hs; omega
    have hsum2 : sumX n r ≤ 1000000 := by have hs' : 1 + sumX n r ≤ 1000000 := hs2; omega
    have hfin : eqX (n + 1) (d, l) (f, r) = (eqN d f && eqL (eqX n) l r) := rfl
    dsimp only at h1 g1 h2 g2 h3 g3
    subst h1 g1
    have Hef := Lib.hid fun w' (t : Touch [] w w') => equalFuncX n ih x.A y.A x.c y.c x.n y.n l r h2.symm g2.symm w' (h3.touch0 t) (g3.touch0 t) hsum hsum2
    obtain ⟨⟨k1, nm1, ⟨vk1, vn1, vt1⟩, op1⟩, A1, m1, c1⟩ := x
    obtain ⟨⟨k2, nm2, ⟨vk2, vn2, vt2⟩, op2⟩, A2, m2, c2⟩ := y
    dsimp only [XC.val]
    simp only at Hef hfin
    have t0 := ((Touch.refl [] w).alloc (.cells #[.int .i64 k1, .string nm1, .int .i64 vk1, .int .i64 vn1, .string vt1, .string op1, .slice A1 m1 c1] 33)).alloc (.cells #[.int .i64 k2, .string nm2, .int .i64 vk2, .int .i64 vn2, .string vt2, .string op2, .slice A2 m2 c2] 33)
    have hgd := guard_val
    have heq := eqIn_val ⟨vk1, vn1, vt1⟩ ⟨vk2, vn2, vt2⟩
    have q1 := bs_beq nm1 nm2
    have q2 := bs_beq op1 op2
    rw [hfin]
    clear hx hy hs hs2 hfin h2 h3 g2 g3 ih
    by_cases e1 : k1 = k2
    rotate_left
    · have e1' : (k1 == k2) = false := by simpa using e1
      have Hf := Lib.hid (show (eqN ⟨k1, nm1, ⟨vk1, vn1, vt1⟩, op1⟩ ⟨k2, nm2, ⟨vk2, vn2, vt2⟩, op2⟩ && eqL (eqX n) l r) = false by simp [eqN, e1])
      clear e1
      go_enter Try.func29, Try.ntmps29
      go_wp2_with fail
      go_ret
      exact ⟨by rw [Hf.out]; rfl, t0⟩
    subst e1
    by_cases e2 : nm1 = nm2
    rotate_left
    · rw [decide_eq_false e2] at q1
      have Hf := Lib.hid (show (eqN ⟨k1, nm1, ⟨vk1, vn1, vt1⟩, op1⟩ ⟨k1, nm2, ⟨vk2, vn2, vt2⟩, op2⟩ && eqL (eqX n) l r) = false by simp [eqN, e2])
      clear e2
      go_enter Try.func29, Try.ntmps29
      go_wp2_with fail
      go_ret
      exact ⟨by rw [Hf.out]; rfl, t0⟩
    rw [decide_eq_true e2] at q1
    by_cases e3 : eqV3 ⟨vk1, vn1, vt1⟩ ⟨vk2, vn2, vt2⟩ = true
    rotate_left
    · have e3' : eqV3 ⟨vk1, vn1, vt1⟩ ⟨vk2, vn2, vt2⟩ = false := by simpa using e3
      rw [e3'] at heq
      have Hf := Lib.hid (show (eqN ⟨k1, nm1, ⟨vk1, vn1, vt1⟩, op1⟩ ⟨k1, nm2, ⟨vk2, vn2, vt2⟩, op2⟩ && eqL (eqX n) l r) = false by
        show ((decide (k1 = k1) && (decide (nm1 = nm2) && (eqV3 ⟨vk1, vn1, vt1⟩ ⟨vk2, vn2, vt2⟩ && decide (op1 = op2)))) && eqL (eqX n) l r) = false
        rw [e3']; simp)
      clear e3 e3' e2
      go_enter Try.func29, Try.ntmps29
      go_wp2_with fail
      go_ret
      exact ⟨by rw [Hf.out]; rfl, t0⟩
    rw [e3] at heq
    by_cases e4 : op1 = op2
    rotate_left
    · rw [decide_eq_false e4] at q2
      have Hf := Lib.hid (show (eqN ⟨k1, nm1, ⟨vk1, vn1, vt1⟩, op1⟩ ⟨k1, nm2, ⟨vk2, vn2, vt2⟩, op2⟩ && eqL (eqX n) l r) = false by simp [eqN, e4])
      clear e4 e3 e2
      go_enter Try.func29, Try.ntmps29
      go_wp2_with fail
      go_ret
      exact ⟨by rw [Hf.out]; rfl, t0⟩
    rw [decide_eq_true e4] at q2
    have Hf := Lib.hid (show (eqN ⟨k1, nm1, ⟨vk1, vn1, vt1⟩, op1⟩ ⟨k1, nm2, ⟨vk2, vn2, vt2⟩, op2⟩ && eqL (eqX n) l r) = eqL (eqX n) l r by
        show ((decide (k1 = k1) && (decide (nm1 = nm2) && (eqV3 ⟨vk1, vn1, vt1⟩ ⟨vk2, vn2, vt2⟩ && decide (op1 = op2)))) && eqL (eqX n) l r) = _
        rw [e3]; simp [e2, e4])
    clear e4 e3 e2
    go_enter Try.func29, Try.ntmps29
    go_wp2_with fail
    refine (Hef.out _ t0).mono ?_
    rintro e w1 ⟨rfl, t1⟩
    go_wp2_with fail
    go_ret
    exact ⟨by rw [Hf.out]; rfl, t0.trans0 t1⟩
end Go.Proofs.Ytlkckkagoommaaa

/- A region that draws its order, walked by hand under a condition on the world that may change on the way. No program's function. -/
namespace Go.Proofs.Ytlkckkagoommaaa
open Go.RowKit

section
variable {P : Program} {ops : Array Oper} {Q : Exit → Act → World → Prop} {md : Region.Mode} {S S' : World → Prop}
/-- a walk that holds more holds less -/
theorem wpAnyH_weak (hS : ∀ w, S w → S' w) : ∀ (fuel : Nat) (listed : Array Bool) (a : Act) (w : World), wpAnyH P md ops Q S fuel listed a w → wpAnyH P md ops Q S' fuel listed a w
  | 0, _, _, _, h => h
  | fuel + 1, _, _, _, h => ⟨h.1, fun i hi => wpOp_mono (fun a' w' h' => ⟨hS w' h'.1, wpAnyH_weak hS fuel _ a' w' h'.2⟩) (h.2 i hi)⟩
/-- 'wpAnyH_take', the operation's temporary told by its number -/
theorem take_d {i d : Nat} {oi : Oper} {v : Value} {fuel : Nat} {listed : Array Bool} {a : Act} {w : World} (hi : ops[i]? = some oi) (hd : oi.dst = some d)
    (hs : Region.noSelect ops = true) (hf : Region.free md ops listed i = true) (hr : (Region.ready md ops listed).contains i = true)
    (hQ : ∀ c a w, Q (.panic c) (a.put oi.dst v) w → Q (.panic c) a w) (hy : YieldsIf P ops S oi v a) (hS : S w)
    (h : wpAnyH P md ops Q S fuel (listed.setIfInBounds i true) (a.put (some d) v) w) : wpAnyH P md ops Q S (fuel + 1) listed a w :=
  wpAnyH_take hi hs hf hr hQ hy hS (by rw [hd]; exact h)
end
end Go.Proofs.Ytlkckkagoommaaa

/- expr.rules: the rules of a kind, as they lie in memory. For every kind. -/
namespace Go.Proofs.Ytlkckkagoommaaa
open Go.RowKit

def IntsAt (w : World) (A : Option Addr) (l : List Int) : Prop := RdK inE w A l
theorem IntsAt.touch0 {w w' : World} {A : Option Addr} {l : List Int} (h : IntsAt w A l) (ht : Touch [] w w') : IntsAt w' A l := RdK.touch0 h ht
theorem IntsAt.at_ {w : World} {A : Option Addr} {l : List Int} (h : IntsAt w A l) (i : Nat) (hi : i < l.length) : ∃ ad, A = some ad ∧ w.cell? (ad.add i) = some (.int .i64 l[i]) := by
  obtain ⟨ad, b, off, e1, e2, _, e3⟩ := RdK.at_ h 1 inE_length (by omega) i hi
  rw [Nat.mul_one] at e2
  exact ⟨ad, e1, by rw [e2]; exact e3 0 _ rfl⟩
/-- a rule's cells -/
structure RC where
  name : ByteArray
  A : Option Addr
  n : Nat
  c : Nat
  out : Int
def ruE (r : RC) : List Value := [.string r.name, .slice r.A r.n r.c, .int .i64 r.out]
theorem ruE_length (r : RC) : (ruE r).length = 3 := rfl
/-- rules that lie there, in such blocks -/
def RulesAt (p : Nat → Prop) (w : World) (A : Option Addr) (rs : List RU) : Prop :=
  (∀ b ∈ fpo A, p b) ∧ ∃ cs : List RC, cs.length = rs.length ∧ RdK ruE w A cs ∧ ∀ i (h1 : i < cs.length) (h2 : i < rs.length), cs[i].name = rs[i].name ∧ cs[i].out = rs[i].out ∧ cs[i].n = rs[i].args.length ∧ IntsAt w cs[i].A rs[i].args ∧ ∀ b ∈ fpo cs[i].A, p b
theorem RulesAt.touch {p : Nat → Prop} {w w' : World} {A : Option Addr} {rs : List RU} {fp : List Nat} (h : RulesAt p w A rs) (ht : Touch fp w w') (hp : ∀ b ∈ fp, ¬ p b) : RulesAt p w' A rs := by
  obtain ⟨h0, cs, h1, h2, h3⟩ := h
  exact ⟨h0, cs, h1, RdK.touch h2 ht (fun b hb hm => hp b hm (h0 b hb)), fun i a b => ⟨(h3 i a b).1, (h3 i a b).2.1, (h3 i a b).2.2.1, RdK.touch (h3 i a b).2.2.2.1 ht (fun x hx hm => hp x hm ((h3 i a b).2.2.2.2 x hx)), (h3 i a b).2.2.2.2⟩⟩
theorem RulesAt.touch0 {p : Nat → Prop} {w w' : World} {A : Option Addr} {rs : List RU} (h : RulesAt p w A rs) (ht : Touch [] w w') : RulesAt p w' A rs := h.touch ht (by simp)
theorem RulesAt.at_ {p : Nat → Prop} {w : World} {A : Option Addr} {rs : List RU} (h : RulesAt p w A rs) (i : Nat) (hi : i < rs.length) :
    ∃ ad b off B c, A = some ad ∧ ad.add (i * 3) = ⟨b, off, none⟩ ∧ w.cell? ⟨b, off, none⟩ = some (.string rs[i].name) ∧ w.cell? ⟨b, off + 1, none⟩ = some (.slice B rs[i].args.length c) ∧ w.cell? ⟨b, off + 2, none⟩ = some (.int .i64 rs[i].out) ∧ IntsAt w B rs[i].args ∧ p b ∧ ∀ b ∈ fpo B, p b := by
  obtain ⟨h0, cs, h1, h2, h3⟩ := h
  obtain ⟨ad, b, off, e1, e2, e4, e3⟩ := RdK.at_ h2 3 ruE_length (by omega) i (by omega)
  obtain ⟨f1, f2, f3, f4, f5⟩ := h3 i (by omega) hi
  refine ⟨ad, b, off, cs[i].A, cs[i].c, e1, e2, ?_, ?_, ?_, f4, h0 b (by rw [e1, e4]; simp [fpo]), f5⟩
  · rw [← f1]; exact e3 0 _ rfl
  · rw [← f3]; exact e3 1 _ rfl
  · rw [← f2]; exact e3 2 _ rfl

/-- rows of numbers, laid one behind the other -/
def allocI : World → List (List Int) → World
  | w, [] => w
  | w, l :: r => allocI (w.alloc (.cells (l.flatMap inE).toArray 3)) r
theorem allocI_touch : ∀ (L : List (List Int)) (w : World), Touch [] w (allocI w L)
  | [], _ => Touch.refl _ _
  | _ :: r, w => ((Touch.refl [] w).alloc _).trans0 (allocI_touch r _)
theorem allocI_size : ∀ (L : List (List Int)) (w : World), (allocI w L).heap.size = w.heap.size + L.length
  | [], w => rfl
  | l :: r, w => by
    show (allocI _ r).heap.size = _
    rw [allocI_size r, World.size_alloc, List.length_cons]; omega
theorem allocI_at : ∀ (L : List (List Int)) (w : World) (i : Nat) (h : i < L.length), IntsAt (allocI w L) (some ⟨w.heap.size + i, 0, none⟩) L[i]
  | l :: r, w, 0, _ => (RdK.row w 3 l _ (by simp)).touch0 (allocI_touch r _)
  | l :: r, w, i + 1, h => by
    have := allocI_at r (w.alloc (.cells (l.flatMap inE).toArray 3)) i (by simpa using h)
    rw [World.size_alloc] at this
    have e : w.heap.size + 1 + i = w.heap.size + (i + 1) := by omega
    rw [e] at this
    exact this
def rcs (base : Nat) : List RU → List RC
  | [] => []
  | r :: s => ⟨r.name, some ⟨base, 0, none⟩, r.args.length, r.args.length, r.out⟩ :: rcs (base + 1) s
theorem rcs_len : ∀ (rs : List RU) (base : Nat), (rcs base rs).length = rs.length
  | [], _ => rfl
  | r :: s, base => by show (rcs (base + 1) s).length + 1 = _; rw [rcs_len s]; rfl
theorem rcs_at : ∀ (rs : List RU) (base i : Nat) (h1 : i < (rcs base rs).length) (h2 : i < rs.length), (rcs base rs)[i] = ⟨rs[i].name, some ⟨base + i, 0, none⟩, rs[i].args.length, rs[i].args.length, rs[i].out⟩
  | r :: s, base, 0, _, _ => rfl
  | r :: s, base, i + 1, h1, h2 => by
    have := rcs_at s (base + 1) i (by simpa [rcs] using h1) (by simpa using h2)
    have e : base + 1 + i = base + (i + 1) := by omega
    rw [e] at this
    exact this
theorem rules_laid (rs : List RU) (w : World) : RulesAt (fun b => w.heap.size ≤ b) ((allocI w (rs.map RU.args)).alloc (.cells ((rcs w.heap.size rs).flatMap ruE).toArray 114)) (some ⟨w.heap.size + rs.length, 0, none⟩) rs ∧
    Touch [] w ((allocI w (rs.map RU.args)).alloc (.cells ((rcs w.heap.size rs).flatMap ruE).toArray 114)) := by
  have ta := (Touch.refl [] (allocI w (rs.map RU.args))).alloc (.cells ((rcs w.heap.size rs).flatMap ruE).toArray 114)
  refine ⟨⟨fun b hb => by simp [fpo] at hb; omega, rcs w.heap.size rs, rcs_len _ _, ?_, fun i h1 h2 => ?_⟩, (allocI_touch _ _).trans0 ta⟩
  · have := RdK.row (enc := ruE) (allocI w (rs.map RU.args)) 114 (rcs w.heap.size rs) ((rcs w.heap.size rs).flatMap ruE).toArray (by simp)
    rw [allocI_size, List.length_map] at this
    exact this
  · rw [rcs_at rs w.heap.size i h1 h2]
    refine ⟨rfl, rfl, rfl, IntsAt.touch0 ?_ ta, fun b hb => by simp [fpo] at hb; omega⟩
    have := allocI_at (rs.map RU.args) w i (by simpa using h2)
    rw [List.getElem_map] at this
    exact this

set_option maxRecDepth 100000 in
set_option maxHeartbeats 1600000 in
theorem rules_any (k : Int) (w : World) :
    Calls Try.prog 79 #[.int .i64 k] w fun e w' => ∃ A c, e = .returned (.slice A (rulesV k).length c) ∧ RulesAt (fun b => w.heap.size ≤ b) w' A (rulesV k) ∧ Touch [] w w' := by
  by_cases h3 : k = 3
  · subst h3
    go_enter Try.func79, Try.ntmps79
    go_wp2_with fail
    go_ret
    exact ⟨_, _, rfl, (rules_laid (rulesV 3) w).1, (rules_laid (rulesV 3) w).2⟩
  by_cases h4 : k = 4
  · subst h4
    go_enter Try.func79, Try.ntmps79
    go_wp2_with fail
    go_ret
    exact ⟨_, _, rfl, (rules_laid (rulesV 4) w).1, (rules_laid (rulesV 4) w).2⟩
  by_cases h5 : k = 5
  · subst h5
    go_enter Try.func79, Try.ntmps79
    go_wp2_with fail
    go_ret
    exact ⟨_, _, rfl, (rules_laid (rulesV 5) w).1, (rules_laid (rulesV 5) w).2⟩
  · have e3 : (k == 3) = false := by simpa using h3
    have e4 : (k == 4) = false := by simpa using h4
    have e5 : (k == 5) = false := by simpa using h5
    have Hr := Lib.hid (show rulesV k = [] by unfold rulesV; rw [if_neg h3, if_neg h4, if_neg h5])
    clear h3 h4 h5
    go_enter Try.func79, Try.ntmps79
    go_wp2_with fail
    go_ret
    exact ⟨none, 0, by rw [Hr.out]; rfl, by rw [Hr.out]; exact ⟨by simp [fpo], [], rfl, RdK.nil _ _ _, fun i h => absurd h (by simp)⟩, Touch.refl _ _⟩
end Go.Proofs.Ytlkckkagoommaaa

/- expr.Expr.rule, slices.IndexFunc at its closure: the rule of an expression. For every expression. -/
namespace Go.Proofs.Ytlkckkagoommaaa
open Go.RowKit
attribute [local go_sem ↓] Go.wp_at_zero Go.wp_at_succ

theorem rules_len (k : Int) : (rulesV k).length ≤ 140737000000000 := by unfold rulesV; split <;> (try split) <;> (try split) <;> simp
theorem rules_args (k : Int) (r : RU) (h : r ∈ rulesV k) : r.args.length ≤ 3 := by
  unfold rulesV at h
  split at h
  · simp at h; rcases h with rfl | rfl <;> simp
  · split at h
    · simp at h; rcases h with rfl | rfl | rfl | rfl | rfl | rfl | rfl | rfl | rfl | rfl | rfl | rfl | rfl <;> simp
    · split at h
      · simp at h; rcases h with rfl | rfl | rfl | rfl | rfl | rfl <;> simp
      · simp at h
theorem fi_some {α : Type} {p : α → Bool} {l : List α} {k : Nat} (h : k < l.length) (hk : p l[k] = true) (hno : ∀ j (hj : j < k), p (l[j]'(by omega)) = false) : l.findIdx? p = some k := by
  rw [List.findIdx?_eq_some_iff_getElem]
  exact ⟨h, hk, fun j hj => by rw [hno j hj]; simp⟩
theorem fi_none {α : Type} {p : α → Bool} {l : List α} (hno : ∀ j (hj : j < l.length), p l[j] = false) : l.findIdx? p = none := by
  rw [List.findIdx?_eq_none_iff]
  intro c hc
  obtain ⟨j, hj, rfl⟩ := List.mem_iff_getElem.1 hc
  exact hno j hj
theorem fi_lt {α : Type} {p : α → Bool} {l : List α} {k : Nat} (h : l.findIdx? p = some k) : k < l.length := by
  rw [List.findIdx?_eq_some_iff_getElem] at h
  exact h.1

set_option maxHeartbeats 400000 in
theorem rule1_any (nm : ByteArray) (A : Option Addr) (m c : Nat) (out : Int) (B : Nat) (s : ByteArray) (w : World) (hB : w.cell? ⟨B, 0, none⟩ = some (.string s)) :
    Calls Try.prog 81 #[.agg #[.string nm, .slice A m c, .int .i64 out], .pointer (some ⟨B, 0, none⟩)] w fun e w' => e = .returned (.bool (decide (nm = s))) ∧ Touch [] w w' := by
  have hbq := bs_beq nm s
  have t0 := (Touch.refl [] w).alloc (.cells #[.string nm, .slice A m c, .int .i64 out] 114)
  have hlt : B < w.heap.size := World.block_lt_of_cell? w _ hB
  go_enter Try.func81, Try.ntmps81
  go_wp2
  all_goals
    go_ret
    exact ⟨rfl, t0⟩

set_option maxRecDepth 20000 in
set_option maxHeartbeats 1600000 in
theorem indexRules_any (A : Option Addr) (cap n : Nat) (rs : List RU) (hn : rs.length = n) (B : Nat) (s : ByteArray) (w : World) {p : Nat → Prop} (h : RulesAt p w A rs) (hB : w.cell? ⟨B, 0, none⟩ = some (.string s)) (hl : n ≤ 140737000000000) :
    Calls Try.prog 80 #[.slice A n cap, .func (.func 81) #[] #[.pointer (some ⟨B, 0, none⟩)]] w fun e w' =>
      e = .returned (.int .i64 (idxI (rs.findIdx? fun r => decide (r.name = s)))) ∧ Touch [] w w' := by
  subst hn
  go_enter Try.func80, Try.ntmps80
  go_wp2
  go_loopw [8] (fun i wr => ∃ k : Nat, k ≤ rs.length ∧ i = .int .i64 k ∧ Hid (∀ j (hj : j < k) (hl : j < rs.length), decide (rs[j].name = s) = false) ∧ Touch [] w wr) (fun i _ => rs.length - (intOf i).toNat)
  case atStart => exact ⟨0, by omega, rfl, Lib.hid (fun j hj => absurd hj (by omega)), Touch.refl _ _⟩
  case round =>
    obtain ⟨k, hk, rfl, Hno, ht⟩ := hrel
    by_cases hlt : k < rs.length
    · obtain ⟨ad, b, off, C, cc, rfl, hadd, c0, c1, c2, _, _, _⟩ := (h.touch0 ht).at_ k hlt
      have hyes := fi_some (p := fun r : RU => decide (r.name = s)) hlt
      obtain ⟨c, hce⟩ : ∃ c, c = rs[k] := ⟨_, rfl⟩
      rw [← hce] at c0 c1 c2 hyes
      have Hce := Lib.hid hce; have Hyes := Lib.hid hyes
      clear hce hyes
      have hf := rule1_any c.name C c.args.length cc c.out B s wr (ht.cell hB (by simp))
      have hkI : (k : Int) < (rs.length : Int) := by omega
      rcases hcs : decide (c.name = s) with _ | _
      · rw [hcs] at hf
        have Hf := Lib.hid hf
        have Hs := Lib.hid (show ∀ j (hj : j < k + 1) (hl : j < rs.length), decide (rs[j].name = s) = false from fun j hj hl => by
          by_cases hj' : j < k
          · exact Hno.out j hj' hl
          · obtain rfl : j = k := by omega
            rw [← Hce.out]; exact hcs)
        clear hf hcs
        go_wp2_with fail
        refine Hf.out.mono ?_
        rintro e w1 ⟨rfl, t1⟩
        go_wp2
        go_roundw
        case rel => exact ⟨k + 1, by omega, by go_num, Hs, ht.trans0 t1⟩
        case measure => simp [intOf]; omega
      · have Hp := Lib.hid (Hyes.out hcs (fun j hj => Hno.out j hj (by omega)))
        rw [hcs] at hf
        have Hf := Lib.hid hf
        clear hf hcs
        go_wp2_with fail
        refine Hf.out.mono ?_
        rintro e w1 ⟨rfl, t1⟩
        go_wp2
        go_ret
        exact ⟨by rw [Hp.out]; rfl, ht.trans0 t1⟩
    · obtain rfl : k = rs.length := by omega
      have Hp := Lib.hid (fi_none (p := fun r : RU => decide (r.name = s)) (fun j hj => Hno.out j hj hj))
      go_wp2
      go_ret
      exact ⟨by rw [Hp.out]; rfl, ht⟩

/-- the outcome of rule -/
def RulePost (d : ND) (n : Nat) (e : Ending) (w' : World) : Prop :=
  match ruleV d with
  | none => e = .returned (.tuple #[.agg #[.string ⟨#[]⟩, .slice none 0 0, .int .i64 0], .bool false])
  | some r => ∃ B c, e = .returned (.tuple #[.agg #[.string r.name, .slice B r.args.length c, .int .i64 r.out], .bool (decide (n = r.args.length))]) ∧ IntsAt w' B r.args

set_option maxRecDepth 100000 in
set_option maxHeartbeats 3200000 in
theorem rule_any (x : XC) (w : World) :
    Calls Try.prog 66 #[x.val] w fun e w' => RulePost x.nd x.n e w' ∧ Touch [] w w' := by
  obtain ⟨⟨k, nm, ⟨vk, vn, vt⟩, op⟩, A, m, c⟩ := x
  dsimp only [XC.val]
  have Hrs := Lib.hid fun w' => rules_any k w'
  have t0 := ((Touch.refl [] w).alloc (.cells #[.int .i64 k, .string nm, .int .i64 vk, .int .i64 vn, .string vt, .string op, .slice A m c] 33)).alloc (.cells #[.string ⟨#[]⟩, .slice none 0 0, .int .i64 0] 114)
  have hbx := ((Touch.refl [] (w.alloc (.cells #[.int .i64 k, .string nm, .int .i64 vk, .int .i64 vn, .string vt, .string op, .slice A m c] 33))).alloc (.cells #[.string ⟨#[]⟩, .slice none 0 0, .int .i64 0] 114)).blk (heap_alloc_new w (.cells #[.int .i64 k, .string nm, .int .i64 vk, .int .i64 vn, .string vt, .string op, .slice A m c] 33)) (by simp)
  have hbr := heap_alloc_new (w.alloc (.cells #[.int .i64 k, .string nm, .int .i64 vk, .int .i64 vn, .string vt, .string op, .slice A m c] 33)) (.cells #[.string ⟨#[]⟩, .slice none 0 0, .int .i64 0] 114)
  simp only [World.size_alloc] at hbr
  obtain ⟨W0, hW0⟩ : ∃ W0, W0 = (w.alloc (.cells #[.int .i64 k, .string nm, .int .i64 vk, .int .i64 vn, .string vt, .string op, .slice A m c] 33)).alloc (.cells #[.string ⟨#[]⟩, .slice none 0 0, .int .i64 0] 114) := ⟨_, rfl⟩
  have hsz : W0.heap.size = w.heap.size + 1 + 1 := by rw [hW0]; simp
  rw [← hW0] at hbx hbr t0
  obtain ⟨key, hkey⟩ : ∃ key, key = keyN ⟨k, nm, ⟨vk, vn, vt⟩, op⟩ := ⟨_, rfl⟩
  have tk := (Touch.refl [] W0).alloc (.cells #[.string key] 9)
  have hbk := heap_alloc_new W0 (.cells #[.string key] 9)
  rw [hsz] at hbk
  have Hx := Lib.hid (tk.blk hbx (by simp)); have Hr := Lib.hid (tk.blk hbr (by simp)); have Hk := Lib.hid hbk
  have Tk := Lib.hid (t0.trans0 tk)
  have Hsz := Lib.hid hsz
  have Hkey := Lib.hid hkey
  have HW0 := Lib.hid hW0
  clear hbx hbr hbk tk t0 hW0 hsz hkey
  have hD : ∀ o, ruleI ⟨k, nm, ⟨vk, vn, vt⟩, op⟩ = o → (rulesV k).findIdx? (fun r => decide (r.name = key)) = o := fun o h => by rw [Hkey.out]; exact h
  rcases hri : ruleI ⟨k, nm, ⟨vk, vn, vt⟩, op⟩ with _ | q
  · have hI := fun C cc w' (p : Nat → Prop) (hru : RulesAt p w' C (rulesV k)) hB => indexRules_any C cc (rulesV k).length (rulesV k) rfl (w.heap.size + 1 + 1) key w' hru hB (rules_len k)
    rw [hD _ hri] at hI
    simp only [idxI] at hI
    have HI := Lib.hid hI
    have Hv := Lib.hid (show ruleV ⟨k, nm, ⟨vk, vn, vt⟩, op⟩ = none by unfold ruleV; rw [hri])
    clear hI hri hD
    by_cases h5 : k = 5
    · have hk5 : (k == 5) = true := by rw [h5]; rfl
      obtain rfl : key = nm := by rw [Hkey.out]; unfold keyN; rw [if_pos h5]
      clear h5
      go_enter Try.func66, Try.ntmps66
      go_wp2_with fail
      rw [← HW0.out]
      refine (Hrs.out _).mono ?_
      rintro e w1 ⟨C, cc, rfl, hru, t1⟩
      have hB1 := t1.cell (cell_blk Hk.out (i := 0) rfl) (by simp)
      go_wp2_with fail
      refine (HI.out C cc w1 _ hru hB1).mono ?_
      rintro e w2 ⟨rfl, t2⟩
      have T2 := (Tk.out.trans0 t1).trans0 t2
      have hr2 := (t1.trans0 t2).blk Hr.out (by simp)
      have hx2 := (t1.trans0 t2).blk Hx.out (by simp)
      obtain ⟨c0, c1, c2, f0, f1, f2⟩ := blk3 hr2
      go_wp2_with fail
      obtain ⟨q1, q2⟩ := out3 hr2 (.string ⟨#[]⟩) (.slice none 0 0) (.int .i64 0)
      obtain ⟨d0, d1, d2, _⟩ := blk3 q1
      refine bodyPost_ret (v := .tuple #[.agg #[.string ⟨#[]⟩, .slice none 0 0, .int .i64 0], .bool false]) (by simp [results, Try.results66, go_sem, d0, d1, d2]) rfl ⟨?_, T2.trans q2 (fun b hb => .inr (by simp at hb; omega))⟩
      unfold RulePost
      rw [Hv.out]
    · have hk5 : (k == 5) = false := by simpa using h5
      obtain rfl : key = op := by rw [Hkey.out]; unfold keyN; rw [if_neg h5]
      clear h5
      go_enter Try.func66, Try.ntmps66
      go_wp2_with fail
      rw [← HW0.out]
      refine (Hrs.out _).mono ?_
      rintro e w1 ⟨C, cc, rfl, hru, t1⟩
      have hB1 := t1.cell (cell_blk Hk.out (i := 0) rfl) (by simp)
      go_wp2_with fail
      refine (HI.out C cc w1 _ hru hB1).mono ?_
      rintro e w2 ⟨rfl, t2⟩
      have T2 := (Tk.out.trans0 t1).trans0 t2
      have hr2 := (t1.trans0 t2).blk Hr.out (by simp)
      have hx2 := (t1.trans0 t2).blk Hx.out (by simp)
      obtain ⟨c0, c1, c2, f0, f1, f2⟩ := blk3 hr2
      go_wp2_with fail
      obtain ⟨q1, q2⟩ := out3 hr2 (.string ⟨#[]⟩) (.slice none 0 0) (.int .i64 0)
      obtain ⟨d0, d1, d2, _⟩ := blk3 q1
      refine bodyPost_ret (v := .tuple #[.agg #[.string ⟨#[]⟩, .slice none 0 0, .int .i64 0], .bool false]) (by simp [results, Try.results66, go_sem, d0, d1, d2]) rfl ⟨?_, T2.trans q2 (fun b hb => .inr (by simp at hb; omega))⟩
      unfold RulePost
      rw [Hv.out]
  · have hq := fi_lt (hD _ hri)
    have hI := fun C cc w' (p : Nat → Prop) (hru : RulesAt p w' C (rulesV k)) hB => indexRules_any C cc (rulesV k).length (rulesV k) rfl (w.heap.size + 1 + 1) key w' hru hB (rules_len k)
    rw [hD _ hri] at hI
    simp only [idxI] at hI
    have HI := Lib.hid hI
    obtain ⟨r, hr⟩ : ∃ r, r = (rulesV k)[q] := ⟨_, rfl⟩
    have Hv := Lib.hid (show ruleV ⟨k, nm, ⟨vk, vn, vt⟩, op⟩ = some r by unfold ruleV; rw [hri]; show (rulesV k)[q]? = _; rw [List.getElem?_eq_getElem hq, hr])
    have hql := rules_len k
    have hra := rules_args k r (by rw [hr]; exact List.getElem_mem hq)
    have Hre := Lib.hid hr
    clear hI hri hD hr
    by_cases h5 : k = 5
    · have hk5 : (k == 5) = true := by rw [h5]; rfl
      obtain rfl : key = nm := by rw [Hkey.out]; unfold keyN; rw [if_pos h5]
      clear h5
      go_enter Try.func66, Try.ntmps66
      go_wp2_with fail
      rw [← HW0.out]
      refine (Hrs.out _).mono ?_
      rintro e w1 ⟨C, cc, rfl, hru, t1⟩
      have hB1 := t1.cell (cell_blk Hk.out (i := 0) rfl) (by simp)
      go_wp2_with fail
      refine (HI.out C cc w1 _ hru hB1).mono ?_
      rintro e w2 ⟨rfl, t2⟩
      have T2 := (Tk.out.trans0 t1).trans0 t2
      have hr2 := (t1.trans0 t2).blk Hr.out (by simp)
      have hx2 := (t1.trans0 t2).blk Hx.out (by simp)
      obtain ⟨c0, c1, c2, f0, f1, f2⟩ := blk3 hr2
      have hru2 := hru.touch0 t2
      obtain ⟨ad, b, off, B, c1', e1, hadd, z0, z1, z2, hin, hpb, hpB⟩ := hru2.at_ q hq
      rw [← Hre.out] at z0 z1 z2 hin
      subst e1
      have td := (Touch.refl [] w2).drew
      have x0 := td.cell z0 (by simp); have x1 := td.cell z1 (by simp); have x2 := td.cell z2 (by simp)
      have x3 := td.cell (cell_blk hx2 (i := 6) rfl) (by simp)
      obtain ⟨q1, q2⟩ := out3 (td.blk hr2 (by simp)) (.string r.name) (.slice B r.args.length c1') (.int .i64 r.out)
      have hqI0 : (0 : Int) ≤ (q : Int) := by omega
      have hqI : (q : Int) < ((rulesV k).length : Int) := by omega
      have hbW : w.heap.size + 1 + 1 ≤ b := by have h1 := hpb; rw [World.size_alloc, Hsz.out] at h1; omega
      obtain ⟨d0, d1, d2, _⟩ := blk3 q1
      clear z0 z1 z2
      go_wp2_with fail
      refine wp_region_held_drew (S := fun w' => w'.cell? ⟨b, off, none⟩ = some (.string r.name) ∧ w'.cell? ⟨b, off + 1, none⟩ = some (.slice B r.args.length c1') ∧ w'.cell? ⟨b, off + 2, none⟩ = some (.int .i64 r.out) ∧ w'.cell? ⟨w.heap.size, 6, none⟩ = some (.slice A m c)) (by kernel_rfl) ⟨x0, x1, x2, x3⟩ (fun hHeld => ?_)
      refine take_d (i := 0) (d := 23) (v := ?_) rfl rfl (by kernel_rfl) (by kernel_rfl) (by kernel_rfl) (fun _ _ _ h => h) (Or.inl ⟨by rfl, ?_⟩) (by assumption) ?_
      rotate_left
      · intro w hSw; (try dsimp only at hSw); go_simp; (try with_reducible rfl)
      try simp only [Act.put, List.setIfInBounds_toArray, List.set_cons_zero, List.set_cons_succ]
      refine take_d (i := 1) (d := 24) (v := ?_) rfl rfl (by kernel_rfl) (by kernel_rfl) (by kernel_rfl) (fun _ _ _ h => h) (Or.inl ⟨by rfl, ?_⟩) (by assumption) ?_
      rotate_left
      · intro w hSw; (try dsimp only at hSw); go_simp; (try with_reducible rfl)
      try simp only [Act.put, List.setIfInBounds_toArray, List.set_cons_zero, List.set_cons_succ]
      refine take_d (i := 2) (d := 25) (v := ?_) rfl rfl (by kernel_rfl) (by kernel_rfl) (by kernel_rfl) (fun _ _ _ h => h) (Or.inl ⟨by rfl, ?_⟩) (by assumption) ?_
      rotate_left
      · intro w hSw; (try dsimp only at hSw); go_simp; (try with_reducible rfl)
      try simp only [Act.put, List.setIfInBounds_toArray, List.set_cons_zero, List.set_cons_succ]
      refine take_d (i := 3) (d := 26) (v := ?_) rfl rfl (by kernel_rfl) (by kernel_rfl) (by kernel_rfl) (fun _ _ _ h => h) (Or.inl ⟨by rfl, ?_⟩) (by assumption) ?_
      rotate_left
      · intro w hSw; (try dsimp only at hSw); go_simp; (try with_reducible rfl)
      try simp only [Act.put, List.setIfInBounds_toArray, List.set_cons_zero, List.set_cons_succ]
      refine take_d (i := 4) (d := 27) (v := ?_) rfl rfl (by kernel_rfl) (by kernel_rfl) (by kernel_rfl) (fun _ _ _ h => h) (Or.inl ⟨by rfl, ?_⟩) (by assumption) ?_
      rotate_left
      · intro w hSw; (try dsimp only at hSw); go_simp; (try with_reducible rfl)
      try simp only [Act.put, List.setIfInBounds_toArray, List.set_cons_zero, List.set_cons_succ]
      refine take_d (i := 5) (d := 28) (v := ?_) rfl rfl (by kernel_rfl) (by kernel_rfl) (by kernel_rfl) (fun _ _ _ h => h) (Or.inl ⟨by rfl, ?_⟩) (by assumption) ?_
      rotate_left
      · intro w hSw; (try dsimp only at hSw); go_simp; (try with_reducible rfl)
      try simp only [Act.put, List.setIfInBounds_toArray, List.set_cons_zero, List.set_cons_succ]
      refine take_d (i := 6) (d := 29) (v := ?_) rfl rfl (by kernel_rfl) (by kernel_rfl) (by kernel_rfl) (fun _ _ _ h => h) (Or.inl ⟨by rfl, ?_⟩) (by assumption) ?_
      rotate_left
      · intro w hSw; (try dsimp only at hSw); go_simp; (try with_reducible rfl)
      try simp only [Act.put, List.setIfInBounds_toArray, List.set_cons_zero, List.set_cons_succ]
      refine take_d (i := 7) (d := 30) (v := ?_) rfl rfl (by kernel_rfl) (by kernel_rfl) (by kernel_rfl) (fun _ _ _ h => h) (Or.inl ⟨by rfl, ?_⟩) (by assumption) ?_
      rotate_left
      · intro w hSw; (try dsimp only at hSw); go_simp; (try with_reducible rfl)
      try simp only [Act.put, List.setIfInBounds_toArray, List.set_cons_zero, List.set_cons_succ]
      refine take_d (i := 8) (d := 31) (v := ?_) rfl rfl (by kernel_rfl) (by kernel_rfl) (by kernel_rfl) (fun _ _ _ h => h) (Or.inl ⟨by rfl, ?_⟩) (by assumption) ?_
      rotate_left
      · intro w hSw; (try dsimp only at hSw); go_simp; (try with_reducible rfl)
      try simp only [Act.put, List.setIfInBounds_toArray, List.set_cons_zero, List.set_cons_succ]
      refine take_d (i := 9) (d := 32) (v := ?_) rfl rfl (by kernel_rfl) (by kernel_rfl) (by kernel_rfl) (fun _ _ _ h => h) (Or.inl ⟨by rfl, ?_⟩) (by assumption) ?_
      rotate_left
      · intro w hSw; (try dsimp only at hSw); go_simp; (try with_reducible rfl)
      try simp only [Act.put, List.setIfInBounds_toArray, List.set_cons_zero, List.set_cons_succ]
      refine take_d (i := 10) (d := 33) (v := ?_) rfl rfl (by kernel_rfl) (by kernel_rfl) (by kernel_rfl) (fun _ _ _ h => h) (Or.inl ⟨by rfl, ?_⟩) (by assumption) ?_
      rotate_left
      · intro w hSw; (try dsimp only at hSw); go_simp; (try with_reducible rfl)
      try simp only [Act.put, List.setIfInBounds_toArray, List.set_cons_zero, List.set_cons_succ]
      refine take_d (i := 11) (d := 34) (v := ?_) rfl rfl (by kernel_rfl) (by kernel_rfl) (by kernel_rfl) (fun _ _ _ h => h) (Or.inl ⟨by rfl, ?_⟩) (by assumption) ?_
      rotate_left
      · intro w hSw; (try dsimp only at hSw); go_simp; (try with_reducible rfl)
      try simp only [Act.put, List.setIfInBounds_toArray, List.set_cons_zero, List.set_cons_succ]
      refine take_d (i := 12) (d := 35) (v := ?_) rfl rfl (by kernel_rfl) (by kernel_rfl) (by kernel_rfl) (fun _ _ _ h => h) (Or.inl ⟨by rfl, ?_⟩) (by assumption) ?_
      rotate_left
      · intro w hSw; (try dsimp only at hSw); go_simp; (try with_reducible rfl)
      try simp only [Act.put, List.setIfInBounds_toArray, List.set_cons_zero, List.set_cons_succ]
      refine take_d (i := 13) (d := 36) (v := ?_) rfl rfl (by kernel_rfl) (by kernel_rfl) (by kernel_rfl) (fun _ _ _ h => h) (Or.inl ⟨by rfl, ?_⟩) (by assumption) ?_
      rotate_left
      · intro w hSw; (try dsimp only at hSw); go_simp; (try with_reducible rfl)
      try simp only [Act.put, List.setIfInBounds_toArray, List.set_cons_zero, List.set_cons_succ]
      refine wpAnyH_ready (rs := [14]) (by kernel_rfl) (by simp) ?_
      refine AllReadyH.cons rfl (fun K hK => ?_) AllReadyH.nil
      go_simp
      have y0 := q2.cell x0 (by simp only [List.mem_singleton]; omega)
      have y1 := q2.cell x1 (by simp only [List.mem_singleton]; omega)
      have y2 := q2.cell x2 (by simp only [List.mem_singleton]; omega)
      have y3 := q2.cell x3 (by simp only [List.mem_singleton]; omega)
      (try go_wp2_with fail)
      refine hK.out _ _ ⟨y0, y1, y2, y3⟩ (fun _hH => ?_)
      clear hK K
      try simp only [Act.put, List.setIfInBounds_toArray, List.set_cons_zero, List.set_cons_succ]
      refine take_d (i := 15) (d := 3) (v := ?_) rfl rfl (by kernel_rfl) (by kernel_rfl) (by kernel_rfl) (fun _ _ _ h => h) (Or.inl ⟨by rfl, ?_⟩) (by assumption) ?_
      rotate_left
      · intro w hSw; (try dsimp only at hSw); go_simp; (try with_reducible rfl)
      try simp only [Act.put, List.setIfInBounds_toArray, List.set_cons_zero, List.set_cons_succ]
      refine wpAnyH_done (by kernel_rfl) ?_ _
      go_wp2_with fail
      obtain ⟨d0', d1', d2', _⟩ := blk3 (w := (((w2.setCell ⟨w.heap.size + 1, 0, none⟩ (.string r.name)).setCell ⟨w.heap.size + 1, 1, none⟩ (.slice B r.args.length c1')).setCell ⟨w.heap.size + 1, 2, none⟩ (.int .i64 r.out)).drew) q1
      refine bodyPost_ret (v := .tuple #[.agg #[.string r.name, .slice B r.args.length c1', .int .i64 r.out], .bool ((m : Int) == (r.args.length : Int))]) (by simp [results, Try.results66, go_sem, d0', d1', d2']) rfl ⟨?_, (T2.trans0 td).trans q2 (fun b hb => .inr (by simp at hb; omega))⟩
      have hbm : ((m : Int) == (r.args.length : Int)) = decide (m = r.args.length) := by rw [Bool.eq_iff_iff]; simp; omega
      unfold RulePost
      rw [Hv.out, hbm]
      exact ⟨B, c1', rfl, RdK.touch (IntsAt.touch0 hin td) q2 (fun b hb hm => by have h1 := hpB b hb; rw [World.size_alloc, Hsz.out] at h1; simp at hm; omega)⟩
    · have hk5 : (k == 5) = false := by simpa using h5
      obtain rfl : key = op := by rw [Hkey.out]; unfold keyN; rw [if_neg h5]
      clear h5
      go_enter Try.func66, Try.ntmps66
      go_wp2_with fail
      rw [← HW0.out]
      refine (Hrs.out _).mono ?_
      rintro e w1 ⟨C, cc, rfl, hru, t1⟩
      have hB1 := t1.cell (cell_blk Hk.out (i := 0) rfl) (by simp)
      go_wp2_with fail
      refine (HI.out C cc w1 _ hru hB1).mono ?_
      rintro e w2 ⟨rfl, t2⟩
      have T2 := (Tk.out.trans0 t1).trans0 t2
      have hr2 := (t1.trans0 t2).blk Hr.out (by simp)
      have hx2 := (t1.trans0 t2).blk Hx.out (by simp)
      obtain ⟨c0, c1, c2, f0, f1, f2⟩ := blk3 hr2
      have hru2 := hru.touch0 t2
      obtain ⟨ad, b, off, B, c1', e1, hadd, z0, z1, z2, hin, hpb, hpB⟩ := hru2.at_ q hq
      rw [← Hre.out] at z0 z1 z2 hin
      subst e1
      have td := (Touch.refl [] w2).drew
      have x0 := td.cell z0 (by simp); have x1 := td.cell z1 (by simp); have x2 := td.cell z2 (by simp)
      have x3 := td.cell (cell_blk hx2 (i := 6) rfl) (by simp)
      obtain ⟨q1, q2⟩ := out3 (td.blk hr2 (by simp)) (.string r.name) (.slice B r.args.length c1') (.int .i64 r.out)
      have hqI0 : (0 : Int) ≤ (q : Int) := by omega
      have hqI : (q : Int) < ((rulesV k).length : Int) := by omega
      have hbW : w.heap.size + 1 + 1 ≤ b := by have h1 := hpb; rw [World.size_alloc, Hsz.out] at h1; omega
      obtain ⟨d0, d1, d2, _⟩ := blk3 q1
      clear z0 z1 z2
      go_wp2_with fail
      refine wp_region_held_drew (S := fun w' => w'.cell? ⟨b, off, none⟩ = some (.string r.name) ∧ w'.cell? ⟨b, off + 1, none⟩ = some (.slice B r.args.length c1') ∧ w'.cell? ⟨b, off + 2, none⟩ = some (.int .i64 r.out) ∧ w'.cell? ⟨w.heap.size, 6, none⟩ = some (.slice A m c)) (by kernel_rfl) ⟨x0, x1, x2, x3⟩ (fun hHeld => ?_)
      refine take_d (i := 0) (d := 23) (v := ?_) rfl rfl (by kernel_rfl) (by kernel_rfl) (by kernel_rfl) (fun _ _ _ h => h) (Or.inl ⟨by rfl, ?_⟩) (by assumption) ?_
      rotate_left
      · intro w hSw; (try dsimp only at hSw); go_simp; (try with_reducible rfl)
      try simp only [Act.put, List.setIfInBounds_toArray, List.set_cons_zero, List.set_cons_succ]
      refine take_d (i := 1) (d := 24) (v := ?_) rfl rfl (by kernel_rfl) (by kernel_rfl) (by kernel_rfl) (fun _ _ _ h => h) (Or.inl ⟨by rfl, ?_⟩) (by assumption) ?_
      rotate_left
      · intro w hSw; (try dsimp only at hSw); go_simp; (try with_reducible rfl)
      try simp only [Act.put, List.setIfInBounds_toArray, List.set_cons_zero, List.set_cons_succ]
      refine take_d (i := 2) (d := 25) (v := ?_) rfl rfl (by kernel_rfl) (by kernel_rfl) (by kernel_rfl) (fun _ _ _ h => h) (Or.inl ⟨by rfl, ?_⟩) (by assumption) ?_
      rotate_left
      · intro w hSw; (try dsimp only at hSw); go_simp; (try with_reducible rfl)
      try simp only [Act.put, List.setIfInBounds_toArray, List.set_cons_zero, List.set_cons_succ]
      refine take_d (i := 3) (d := 26) (v := ?_) rfl rfl (by kernel_rfl) (by kernel_rfl) (by kernel_rfl) (fun _ _ _ h => h) (Or.inl ⟨by rfl, ?_⟩) (by assumption) ?_
      rotate_left
      · intro w hSw; (try dsimp only at hSw); go_simp; (try with_reducible rfl)
      try simp only [Act.put, List.setIfInBounds_toArray, List.set_cons_zero, List.set_cons_succ]
      refine take_d (i := 4) (d := 27) (v := ?_) rfl rfl (by kernel_rfl) (by kernel_rfl) (by kernel_rfl) (fun _ _ _ h => h) (Or.inl ⟨by rfl, ?_⟩) (by assumption) ?_
      rotate_left
      · intro w hSw; (try dsimp only at hSw); go_simp; (try with_reducible rfl)
      try simp only [Act.put, List.setIfInBounds_toArray, List.set_cons_zero, List.set_cons_succ]
      refine take_d (i := 5) (d := 28) (v := ?_) rfl rfl (by kernel_rfl) (by kernel_rfl) (by kernel_rfl) (fun _ _ _ h => h) (Or.inl ⟨by rfl, ?_⟩) (by assumption) ?_
      rotate_left
      · intro w hSw; (try dsimp only at hSw); go_simp; (try with_reducible rfl)
      try simp only [Act.put, List.setIfInBounds_toArray, List.set_cons_zero, List.set_cons_succ]
      refine take_d (i := 6) (d := 29) (v := ?_) rfl rfl (by kernel_rfl) (by kernel_rfl) (by kernel_rfl) (fun _ _ _ h => h) (Or.inl ⟨by rfl, ?_⟩) (by assumption) ?_
      rotate_left
      · intro w hSw; (try dsimp only at hSw); go_simp; (try with_reducible rfl)
      try simp only [Act.put, List.setIfInBounds_toArray, List.set_cons_zero, List.set_cons_succ]
      refine take_d (i := 7) (d := 30) (v := ?_) rfl rfl (by kernel_rfl) (by kernel_rfl) (by kernel_rfl) (fun _ _ _ h => h) (Or.inl ⟨by rfl, ?_⟩) (by assumption) ?_
      rotate_left
      · intro w hSw; (try dsimp only at hSw); go_simp; (try with_reducible rfl)
      try simp only [Act.put, List.setIfInBounds_toArray, List.set_cons_zero, List.set_cons_succ]
      refine take_d (i := 8) (d := 31) (v := ?_) rfl rfl (by kernel_rfl) (by kernel_rfl) (by kernel_rfl) (fun _ _ _ h => h) (Or.inl ⟨by rfl, ?_⟩) (by assumption) ?_
      rotate_left
      · intro w hSw; (try dsimp only at hSw); go_simp; (try with_reducible rfl)
      try simp only [Act.put, List.setIfInBounds_toArray, List.set_cons_zero, List.set_cons_succ]
      refine take_d (i := 9) (d := 32) (v := ?_) rfl rfl (by kernel_rfl) (by kernel_rfl) (by kernel_rfl) (fun _ _ _ h => h) (Or.inl ⟨by rfl, ?_⟩) (by assumption) ?_
      rotate_left
      · intro w hSw; (try dsimp only at hSw); go_simp; (try with_reducible rfl)
      try simp only [Act.put, List.setIfInBounds_toArray, List.set_cons_zero, List.set_cons_succ]
      refine take_d (i := 10) (d := 33) (v := ?_) rfl rfl (by kernel_rfl) (by kernel_rfl) (by kernel_rfl) (fun _ _ _ h => h) (Or.inl ⟨by rfl, ?_⟩) (by assumption) ?_
      rotate_left
      · intro w hSw; (try dsimp only at hSw); go_simp; (try with_reducible rfl)
      try simp only [Act.put, List.setIfInBounds_toArray, List.set_cons_zero, List.set_cons_succ]
      refine take_d (i := 11) (d := 34) (v := ?_) rfl rfl (by kernel_rfl) (by kernel_rfl) (by kernel_rfl) (fun _ _ _ h => h) (Or.inl ⟨by rfl, ?_⟩) (by assumption) ?_
      rotate_left
      · intro w hSw; (try dsimp only at hSw); go_simp; (try with_reducible rfl)
      try simp only [Act.put, List.setIfInBounds_toArray, List.set_cons_zero, List.set_cons_succ]
      refine take_d (i := 12) (d := 35) (v := ?_) rfl rfl (by kernel_rfl) (by kernel_rfl) (by kernel_rfl) (fun _ _ _ h => h) (Or.inl ⟨by rfl, ?_⟩) (by assumption) ?_
      rotate_left
      · intro w hSw; (try dsimp only at hSw); go_simp; (try with_reducible rfl)
      try simp only [Act.put, List.setIfInBounds_toArray, List.set_cons_zero, List.set_cons_succ]
      refine take_d (i := 13) (d := 36) (v := ?_) rfl rfl (by kernel_rfl) (by kernel_rfl) (by kernel_rfl) (fun _ _ _ h => h) (Or.inl ⟨by rfl, ?_⟩) (by assumption) ?_
      rotate_left
      · intro w hSw; (try dsimp only at hSw); go_simp; (try with_reducible rfl)
      try simp only [Act.put, List.setIfInBounds_toArray, List.set_cons_zero, List.set_cons_succ]
      refine wpAnyH_ready (rs := [14]) (by kernel_rfl) (by simp) ?_
      refine AllReadyH.cons rfl (fun K hK => ?_) AllReadyH.nil
      go_simp
      have y0 := q2.cell x0 (by simp only [List.mem_singleton]; omega)
      have y1 := q2.cell x1 (by simp only [List.mem_singleton]; omega)
      have y2 := q2.cell x2 (by simp only [List.mem_singleton]; omega)
      have y3 := q2.cell x3 (by simp only [List.mem_singleton]; omega)
      (try go_wp2_with fail)
      refine hK.out _ _ ⟨y0, y1, y2, y3⟩ (fun _hH => ?_)
      clear hK K
      try simp only [Act.put, List.setIfInBounds_toArray, List.set_cons_zero, List.set_cons_succ]
      refine take_d (i := 15) (d := 3) (v := ?_) rfl rfl (by kernel_rfl) (by kernel_rfl) (by kernel_rfl) (fun _ _ _ h => h) (Or.inl ⟨by rfl, ?_⟩) (by assumption) ?_
      rotate_left
      · intro w hSw; (try dsimp only at hSw); go_simp; (try with_reducible rfl)
      try simp only [Act.put, List.setIfInBounds_toArray, List.set_cons_zero, List.set_cons_succ]
      refine wpAnyH_done (by kernel_rfl) ?_ _
      go_wp2_with fail
      obtain ⟨d0', d1', d2', _⟩ := blk3 (w := (((w2.setCell ⟨w.heap.size + 1, 0, none⟩ (.string r.name)).setCell ⟨w.heap.size + 1, 1, none⟩ (.slice B r.args.length c1')).setCell ⟨w.heap.size + 1, 2, none⟩ (.int .i64 r.out)).drew) q1
      refine bodyPost_ret (v := .tuple #[.agg #[.string r.name, .slice B r.args.length c1', .int .i64 r.out], .bool ((m : Int) == (r.args.length : Int))]) (by simp [results, Try.results66, go_sem, d0', d1', d2']) rfl ⟨?_, (T2.trans0 td).trans q2 (fun b hb => .inr (by simp at hb; omega))⟩
      have hbm : ((m : Int) == (r.args.length : Int)) = decide (m = r.args.length) := by rw [Bool.eq_iff_iff]; simp; omega
      unfold RulePost
      rw [Hv.out, hbm]
      exact ⟨B, c1', rfl, RdK.touch (IntsAt.touch0 hin td) q2 (fun b hb hm => by have h1 := hpB b hb; rw [World.size_alloc, Hsz.out] at h1; simp at hm; omega)⟩
end Go.Proofs.Ytlkckkagoommaaa
