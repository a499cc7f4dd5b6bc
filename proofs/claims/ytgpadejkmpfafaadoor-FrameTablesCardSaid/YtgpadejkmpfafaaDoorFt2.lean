/- Part 2 of the texts of this proof, one behind the other; each begins with its own sentence. No condition beyond those that its theorems state. -/
import Derived.Test.YtgpadejkmpfafaaDoorFt1
import Derived.Laws.StructEq
import Derived.Shelf.Small.Strs
import Derived.Shelf.Small.Wraps
import Derived.Ground.Names2Prog
import Derived.Shelf.Slices.SearchI
import Derived.Shelf.Bytes.SlSearch0
import Derived.Ground.SlbCloneProg
import Derived.Shelf.Bytes.SlClone
import Derived.Shelf.Bytes.SlEqualAll
import Derived.Shelf.Bytes.Small
import Derived.Test.YtgpadejkmpfafaaDoorProg
import Derived.StillTailTactics
import Derived.Lib.AppendStr
import Derived.Below
/- schema.Schema.Fits: does a row fit? For every schema and row. -/
namespace Go.Proofs.YtgpadejkmpfafaaDoor
open Go.RowKit

/-- does a value fit a column? -/
def fitC (c : CD) (v : VD) : Bool := v.right && (decide (v.kind = 0) || decide (v.kind = c.typ))
def fitR (cs : List CD) (vs : List VD) : Bool := decide (vs.length = cs.length) && (List.zipWith fitC cs vs).all id
theorem fit_no {cs : List CD} {vs : List VD} {k : Nat} (h1 : k < cs.length) (h2 : k < vs.length) (hb : fitC cs[k] vs[k] = false) : fitR cs vs = false := by
  have hk : k < (List.zipWith fitC cs vs).length := by rw [List.length_zipWith]; omega
  have := all_no (p := id) hk (by rw [List.getElem_zipWith]; exact hb)
  unfold fitR
  rw [this, Bool.and_false]
theorem fit_yes {cs : List CD} {vs : List VD} {k : Nat} (h1 : k < cs.length) (h2 : k < vs.length) (h : ((List.zipWith fitC cs vs).take k).all id = true) (hb : fitC cs[k] vs[k] = true) : ((List.zipWith fitC cs vs).take (k + 1)).all id = true := by
  have hk : k < (List.zipWith fitC cs vs).length := by rw [List.length_zipWith]; omega
  exact all_snoc (p := id) hk h (by rw [List.getElem_zipWith]; exact hb)

set_option maxRecDepth 20000 in
set_option maxHeartbeats 6400000 in
theorem fits_any (A : Option Addr) (cap n : Nat) (cs : List CD) (hn : cs.length = n) (hok : ∀ c ∈ cs, c.Ok) (B : Option Addr) (bcap m : Nat) (vs : List VD) (hm : vs.length = m) (hvk : ∀ v ∈ vs, v.Ok 140737000000000)
    (w : World) (h : ColsAt w A cs) (hv : ValsAt w B vs) (hl : n ≤ 140737000000000) (hl2 : m ≤ 140737000000000) :
    Calls Tryd.prog 59 #[.slice A n cap, .slice B m bcap] w fun e w' => e = .returned (.bool (decide (checkV cs = 0) && fitR cs vs)) ∧ Touch [] w w' := by
  subst hn hm
  have hchk := check_any A cap cs.length cs rfl hok w h (by omega)
  by_cases hc0 : checkV cs = 0
  · rw [hc0] at hchk
    have Hchk := Lib.hid hchk; have Hc0 := Lib.hid (show (decide (checkV cs = 0) && fitR cs vs) = fitR cs vs by rw [hc0]; rfl)
    clear hchk hc0
    by_cases hlen : vs.length = cs.length
    · have Hlen := Lib.hid hlen
      go_enter Tryd.func59, Tryd.ntmps59
      go_wp2_with (go_at_call 56; refine Hchk.out.mono ?_; rintro e w1 ⟨rfl, t1⟩)
      clear Hchk
      go_loopw [19] (fun i wr => ∃ k : Nat, k ≤ vs.length ∧ i = .int .i64 k ∧ Hid (((List.zipWith fitC cs vs).take k).all id = true) ∧ Touch [] w wr) (fun i _ => vs.length - (intOf i).toNat)
      case atStart => exact ⟨0, by omega, rfl, Lib.hid rfl, t1⟩
      case round =>
        clear t1
        obtain ⟨k, hk, rfl, Hall, ht⟩ := hrel
        clear hlen
        by_cases hlt : k < vs.length
        · have hlt2 : k < cs.length := by have := Hlen.out; omega
          obtain ⟨ad, b, off, rfl, hadd, c0, c1⟩ := (h.touch0 ht).at_ k hlt2
          obtain ⟨bd, b2, off2, rfl, hadd2, d0, d1, d2⟩ := (hv.touch0 ht).at_ k hlt
          have hno := fit_no hlt2 hlt
          have hyes := fit_yes hlt2 hlt Hall.out
          have hvok := hvk _ (List.getElem_mem hlt)
          obtain ⟨c, hce⟩ : ∃ c, c = cs[k] := ⟨_, rfl⟩
          obtain ⟨v, hve⟩ : ∃ v, v = vs[k] := ⟨_, rfl⟩
          rw [← hce] at c0 c1 hno hyes
          rw [← hve] at d0 d1 d2 hno hyes hvok
          have Hno := Lib.hid hno; have Hyes := Lib.hid hyes
          obtain ⟨_, _, hvt⟩ := hvok
          obtain ⟨kd, nm, tx⟩ := v
          simp only at d0 d1 d2 hvt
          clear hce hve hno hyes Hall c0
          have hb := heap_alloc_new wr (.cells #[.int .i64 kd, .int .i64 nm, .string tx] 59)
          have tb := (Touch.refl [] wr).alloc (.cells #[.int .i64 kd, .int .i64 nm, .string tx] 59)
          obtain ⟨W, hW⟩ : ∃ W, W = wr.alloc (.cells #[.int .i64 kd, .int .i64 nm, .string tx] 59) := ⟨_, rfl⟩
          rw [← hW] at hb tb
          have g0 := TW.cell (cell_blk hb (i := 0) rfl)
          have g1 := TW.cell (cell_blk hb (i := 1) rfl)
          have g2 := TW.cell (cell_blk hb (i := 2) rfl)
          have g3 := TW.cell (tb.cell c1 (by simp))
          have hright := fun w' => right_any ⟨kd, nm, tx⟩ hvt w'
          simp only [VD.val] at hright
          have hkI0 : (0 : Int) ≤ (k : Int) := by omega
          have hkI : (k : Int) < (cs.length : Int) := by omega
          have HW := Lib.hid hW
          clear hW hb
          rcases hvr : VD.right ⟨kd, nm, tx⟩ with _ | _
          · have Hf := Lib.hid (Hno.out (by unfold fitC; rw [hvr]; rfl))
            rw [hvr] at hright
            have Hright := Lib.hid hright; clear hright hvr
            go_wp2
            rw [← HW.out]
            refine wp_region_tw W (Touch.refl _ _) (by kernel_rfl) (by kernel_rfl) ?_
            repeat (go_big_quiet_step (((go_at_call 32; exact Calls.tw _ (Hright.out _)))))
            refine wpQuiet_nil ?_
            rintro _ ⟨x2, rfl⟩
            go_wp2
            go_ret
            exact ⟨ret_bool (by rw [Hc0.out, Hf.out]), (ht.trans0 tb).trans0 x2.t⟩
          · have Hr := Lib.hid hvr
            rw [hvr] at hright
            have Hright := Lib.hid hright; clear hright hvr
            by_cases hk0 : kd = 0
            · subst hk0
              have Ha := Lib.hid (Hyes.out (by unfold fitC; rw [Hr.out]; rfl))
              go_wp2
              rw [← HW.out]
              refine wp_region_tw W (Touch.refl _ _) (by kernel_rfl) (by kernel_rfl) ?_
              repeat (go_big_quiet_step (((go_at_call 32; exact Calls.tw _ (Hright.out _)))))
              refine wpQuiet_nil ?_
              rintro _ ⟨x2, rfl⟩
              go_wp2
              go_roundw
              case rel => exact ⟨k + 1, by omega, by go_num, Ha, (ht.trans0 tb).trans0 x2.t⟩
              case measure => simp [intOf]; omega
            · have q0 : (kd == 0) = false := by rw [beq_eq_false_iff_ne]; exact hk0
              have q0' : (kd != 0) = true := by rw [bne, q0]; rfl
              by_cases hkt : kd = c.typ
              · have Ha := Lib.hid (Hyes.out (by unfold fitC; rw [Hr.out]; simp [hkt]))
                have q1 : (kd == c.typ) = true := by rw [beq_iff_eq]; exact hkt
                have q1' : (kd != c.typ) = false := by rw [bne, q1]; rfl
                clear hk0 hkt
                go_wp2
                rw [← HW.out]
                refine wp_region_tw W (Touch.refl _ _) (by kernel_rfl) (by kernel_rfl) ?_
                repeat (go_big_quiet_step (((go_at_call 32; exact Calls.tw _ (Hright.out _)))))
                refine wpQuiet_nil ?_
                rintro _ ⟨x2, rfl⟩
                go_wp2
                go_roundw
                case rel => exact ⟨k + 1, by omega, by go_num, Ha, (ht.trans0 tb).trans0 x2.t⟩
                case measure => simp [intOf]; omega
              · have Hf := Lib.hid (Hno.out (by unfold fitC; rw [Hr.out]; simp [hkt, hk0]))
                have q1 : (kd == c.typ) = false := by rw [beq_eq_false_iff_ne]; exact hkt
                have q1' : (kd != c.typ) = true := by rw [bne, q1]; rfl
                clear hk0 hkt
                go_wp2
                rw [← HW.out]
                refine wp_region_tw W (Touch.refl _ _) (by kernel_rfl) (by kernel_rfl) ?_
                repeat (go_big_quiet_step (((go_at_call 32; exact Calls.tw _ (Hright.out _)))))
                refine wpQuiet_nil ?_
                rintro _ ⟨x2, rfl⟩
                go_wp2
                go_ret
                exact ⟨ret_bool (by rw [Hc0.out, Hf.out]), (ht.trans0 tb).trans0 x2.t⟩
        · obtain rfl : k = vs.length := by omega
          have hall := Hall.out
          rw [List.take_of_length_le (by rw [List.length_zipWith]; omega)] at hall
          have Hf := Lib.hid (show fitR cs vs = true by unfold fitR; rw [hall, decide_eq_true Hlen.out]; rfl)
          have hge : decide (vs.length < cs.length) = false := decide_eq_false (by have := Hlen.out; omega)
          clear hall Hall
          go_wp2
          go_ret
          exact ⟨ret_bool (by rw [Hc0.out, Hf.out]), ht⟩
    · have Hf := Lib.hid (show fitR cs vs = false by unfold fitR; rw [decide_eq_false hlen]; rfl)
      have hq : ((vs.length : Int) == (cs.length : Int)) = false := by rw [beq_eq_false_iff_ne]; omega
      have hq' : ((vs.length : Int) != (cs.length : Int)) = true := by rw [bne, hq]; rfl
      clear hlen
      go_enter Tryd.func59, Tryd.ntmps59
      go_wp2_with (go_at_call 56; refine Hchk.out.mono ?_; rintro e w1 ⟨rfl, t1⟩)
      go_ret
      exact ⟨ret_bool (by rw [Hc0.out, Hf.out]), t1⟩
  · have Hchk := Lib.hid hchk; have Hc0 := Lib.hid (show (decide (checkV cs = 0) && fitR cs vs) = false by rw [decide_eq_false hc0]; rfl)
    obtain ⟨E, hE⟩ : ∃ E, E = checkV cs := ⟨_, rfl⟩
    have HE := Lib.hid hE
    have hq : (E == 0) = false := by rw [beq_eq_false_iff_ne, hE]; exact hc0
    have hq' : (E != 0) = true := by rw [bne, hq]; rfl
    clear hchk hc0 hE
    go_enter Tryd.func59, Tryd.ntmps59
    go_wp2_with (go_at_call 56; refine Hchk.out.mono ?_; rintro e w1 ⟨rfl, t1⟩; rw [← HE.out])
    go_ret
    exact ⟨ret_bool (by rw [Hc0.out]), t1⟩
end Go.Proofs.YtgpadejkmpfafaaDoor

/- Slices of numbers; schema.Schema.Equal: for every schemas. -/
namespace Go.Proofs.YtgpadejkmpfafaaDoor
open Go.RowKit

/-- a number's cell -/
def inE (n : Int) : List Value := [.int .i64 n]
theorem inE_length (n : Int) : (inE n).length = 1 := rfl
theorem inE_one (n : Int) : ∀ u ∈ inE n, u.oneCell' = true := by
  intro u hu
  obtain rfl : u = .int .i64 n := by simpa [inE] using hu
  rfl
theorem RdKI.at_ {w : World} {A : Option Addr} {l : List Int} (h : RdK inE w A l) (i : Nat) (hi : i < l.length) : ∃ ad, A = some ad ∧ w.cell? (ad.add i) = some (.int .i64 l[i]) := by
  obtain ⟨ad, b, off, h1, h2, _, h3⟩ := RdK.at_ h 1 inE_length (by omega) i hi
  rw [Nat.mul_one] at h2
  exact ⟨ad, h1, by rw [h2]; exact h3 0 _ rfl⟩
theorem info_int : (Tryd.prog.info? 3).map (fun i => (i.zero, i.size, i.bytes)) = some (some (.int .i64 0), 1, 8) := by kernel_rfl

/-- are two columns one? -/
def eqC (a b : CD) : Bool := decide (a.name = b.name) && decide (a.typ = b.typ)
theorem eqC_iff (a b : CD) : eqC a b = true ↔ a = b := by
  obtain ⟨an, aty⟩ := a
  obtain ⟨bn, bty⟩ := b
  simp [eqC]
theorem eqIn_col (a b : CD) (w : World) : (Op.equalIn 10000 83 (.agg #[.string a.name, .int .i64 a.typ]) (.agg #[.string b.name, .int .i64 b.typ])).run Tryd.prog w = .ok (eqC a b) w := by
  have hS : Tryd.prog.underlying 83 = some (.struct (Tryd.prog.fieldsOf 83)) := by kernel_rfl
  have hp : Tryd.prog.stoodInHeld 83 = false := by kernel_rfl
  rw [show (10000 : Nat) = 9999 + 1 from rfl, run_equalIn_agg w 9999 83 _ _ hS hp]
  simp only [Program.fieldsOf, Tryd.underlying83]
  have hs := bs_beq a.name b.name
  go_simp
  by_cases h1 : a.name = b.name <;> by_cases h2 : a.typ = b.typ <;> simp [eqC, h1, h2]
theorem guard_col (op : BinOp) (x y : Operand) (a b : Array Value) (w : World) : (eqGuard op 83 x y (.agg a) (.agg b)).run Tryd.prog w = .ok () w := run_eqGuard_agg w op _ x y _ _ (by kernel_rfl)

/-- are two lists of columns one? -/
def eqCs : List CD → List CD → Bool
  | [], [] => true
  | a :: r, b :: s => eqC a b && eqCs r s
  | _, _ => false
theorem eqCs_iff (l r : List CD) : eqCs l r = true ↔ l = r := by
  induction l generalizing r with
  | nil => cases r <;> simp [eqCs]
  | cons a l ih => cases r with
    | nil => simp [eqCs]
    | cons b r => simp [eqCs, ih, eqC_iff]

set_option maxRecDepth 20000 in
set_option maxHeartbeats 1600000 in
theorem equalC_any (A B : Option Addr) (c1 c2 n m : Nat) (l r : List CD) (hn : l.length = n) (hm : r.length = m) (w : World) (h : ColsAt w A l) (h2 : ColsAt w B r) (hl : n ≤ 140737000000000) (hl2 : m ≤ 140737000000000) :
    Calls Tryd.prog 62 #[.slice A n c1, .slice B m c2] w fun e w' => e = .returned (.bool (eqCs l r)) ∧ Touch [] w w' := by
  subst hn hm
  by_cases hlen : l.length = r.length
  · have Hlen := Lib.hid hlen
    have hq : ((l.length : Int) == (r.length : Int)) = true := by rw [beq_iff_eq]; omega
    have hq' : ((l.length : Int) != (r.length : Int)) = false := by rw [bne, hq]; rfl
    clear hlen
    go_enter Tryd.func62, Tryd.ntmps62
    go_wp2
    clear hq hq'
    go_loopw [13] (fun i wr => ∃ k : Nat, k ≤ l.length ∧ i = .int .i64 k ∧ Hid (eqCs l r = eqCs (l.drop k) (r.drop k)) ∧ Touch [] w wr) (fun i _ => l.length - (intOf i).toNat)
    case atStart => exact ⟨0, by omega, rfl, Lib.hid rfl, Touch.refl _ _⟩
    case round =>
      obtain ⟨k, hk, rfl, He, ht⟩ := hrel
      by_cases hlt : k < l.length
      · have hlt2 : k < r.length := by have := Hlen.out; omega
        obtain ⟨ad, b, off, rfl, hadd, c0, c1⟩ := (h.touch0 ht).at_ k hlt
        obtain ⟨bd, b2, off2, rfl, hadd2, d0, d1⟩ := (h2.touch0 ht).at_ k hlt2
        have hst : eqCs l r = (eqC l[k] r[k] && eqCs (l.drop (k + 1)) (r.drop (k + 1))) := by
          rw [He.out, List.drop_eq_getElem_cons hlt, List.drop_eq_getElem_cons hlt2]; rfl
        have heq := eqIn_col l[k] r[k]
        obtain ⟨x, hx⟩ : ∃ x, x = l[k] := ⟨_, rfl⟩
        obtain ⟨y, hy⟩ : ∃ y, y = r[k] := ⟨_, rfl⟩
        rw [← hx, ← hy] at hst heq
        rw [← hx] at c0 c1
        rw [← hy] at d0 d1
        have Hst := Lib.hid hst
        have hgd := guard_col
        have g0 := TW.cell c0
        have g1 := TW.cell c1
        have g2 := TW.cell d0
        have g3 := TW.cell d1
        have hkI0 : (0 : Int) ≤ (k : Int) := by omega
        have hkI : (k : Int) < (l.length : Int) := by omega
        have hkI2 : (k : Int) < (r.length : Int) := by omega
        clear hst hx hy He c0 c1 d0 d1
        rcases hxy : eqC x y with _ | _
        · have Hf := Lib.hid (show eqCs l r = false by rw [Hst.out, hxy]; rfl)
          rw [hxy] at heq
          clear hxy
          go_wp2
          refine wp_region_tw wr (Touch.refl _ _) (by kernel_rfl) (by kernel_rfl) ?_
          repeat (go_big_quiet_step (fail))
          refine wpQuiet_nil ?_
          rintro _ ⟨x2, rfl⟩
          go_wp2
          go_ret
          exact ⟨ret_bool (by rw [Hf.out]), ht.trans0 x2.t⟩
        · have Hf := Lib.hid (show eqCs l r = eqCs (l.drop (k + 1)) (r.drop (k + 1)) by rw [Hst.out, hxy]; rfl)
          rw [hxy] at heq
          clear hxy
          go_wp2
          refine wp_region_tw wr (Touch.refl _ _) (by kernel_rfl) (by kernel_rfl) ?_
          repeat (go_big_quiet_step (fail))
          refine wpQuiet_nil ?_
          rintro _ ⟨x2, rfl⟩
          go_wp2
          go_roundw
          case rel => exact ⟨k + 1, by omega, by go_num, Hf, ht.trans0 x2.t⟩
          case measure => simp [intOf]; omega
      · obtain rfl : k = l.length := by omega
        have Hf := Lib.hid (show eqCs l r = true by rw [He.out, List.drop_length, List.drop_of_length_le (by have := Hlen.out; omega)]; rfl)
        go_wp2
        go_ret
        exact ⟨ret_bool (by rw [Hf.out]), ht⟩
  · have Hf := Lib.hid (show eqCs l r = false by
      rw [Bool.eq_false_iff]
      intro h
      rw [eqCs_iff] at h
      exact hlen (by rw [h]))
    have hq : ((l.length : Int) == (r.length : Int)) = false := by rw [beq_eq_false_iff_ne]; omega
    have hq' : ((l.length : Int) != (r.length : Int)) = true := by rw [bne, hq]; rfl
    clear hlen
    go_enter Tryd.func62, Tryd.ntmps62
    go_wp2
    go_ret
    exact ⟨ret_bool (by rw [Hf.out]), Touch.refl _ _⟩
theorem schEqual_any (A B : Option Addr) (c1 c2 n m : Nat) (l r : List CD) (hn : l.length = n) (hm : r.length = m) (w : World) (h : ColsAt w A l) (h2 : ColsAt w B r) (hl : n ≤ 140737000000000) (hl2 : m ≤ 140737000000000) :
    Calls Tryd.prog 50 #[.slice A n c1, .slice B m c2] w fun e w' => e = .returned (.bool (eqCs l r)) ∧ Touch [] w w' := by
  go_enter Tryd.func50, Tryd.ntmps50
  go_wp2_with fail
  refine (equalC_any A B c1 c2 n m l r hn hm w h h2 hl hl2).mono ?_
  rintro e w1 ⟨rfl, t1⟩
  go_wp2
  go_ret
  exact ⟨rfl, t1⟩
end Go.Proofs.YtgpadejkmpfafaaDoor

/- The contracts of Go library functions at this translation, laid in plain words by the tool of the kit; no condition. -/
namespace Go.Proofs
open Go.Shelf
def Tryd.lays106_ren : Go.Shelf.Ren := ⟨fun | 106 => 67 | 213 => 71 | 265 => 72 | n => n, fun | 9 => 9 | 3 => 3 | n => n, fun | n => n⟩
theorem Tryd.lays106 : Go.Proofs.Lays.n106 Tryd.prog Tryd.lays106_ren := {
  mixed := by kernel_rfl
  f106 := Tryd.func67.trans (congrArg some (by kernel_rfl))
  f213 := Tryd.func71.trans (congrArg some (by kernel_rfl))
  f265 := Tryd.func72.trans (congrArg some (by kernel_rfl))
  t3 := Tryd.underlying3
  a3 := Tryd.isAgg3
  z3 := Tryd.sizeOf3
  v3 := Tryd.zeroValue3
  t9 := Tryd.underlying9
  a9 := Tryd.isAgg9
  z9 := Tryd.sizeOf9
  v9 := Tryd.zeroValue9 }
open Go.RowKit in
/-- strings.Compare: "Compare returns an integer comparing two strings lexicographically. The result will be 0 if a == b, -1 if a < b, and +1 if a > b.": IT RETURNS 'Lib.compareBytes a b'; the world is as it was. (LAID: no walk: one application.) -/
theorem Tryd.strings_Compare (a b : ByteArray) (w : World) :
    Calls Tryd.prog 67 #[.string a, .string b] w fun e w' => e = .returned (.int .i64 (Lib.compareBytes a.data.toList b.data.toList)) ∧ w' = w := Any.strings_Compare Tryd.lays106 a b w
def Tryd.lays122_ren : Go.Shelf.Ren := ⟨fun | 122 => 66 | 215 => 70 | n => n, fun | 3 => 3 | 4 => 4 | n => n, fun | n => n⟩
theorem Tryd.lays122 : Go.Proofs.Lays.n122 Tryd.prog Tryd.lays122_ren := {
  mixed := by kernel_rfl
  f122 := Tryd.func66.trans (congrArg some (by kernel_rfl))
  f215 := Tryd.func70.trans (congrArg some (by kernel_rfl))
  t3 := Tryd.underlying3
  a3 := Tryd.isAgg3
  z3 := Tryd.sizeOf3
  v3 := Tryd.zeroValue3
  t4 := Tryd.underlying4
  a4 := Tryd.isAgg4
  z4 := Tryd.sizeOf4
  v4 := Tryd.zeroValue4 }
open Go.RowKit in
/-- cmp.Compare at int: "Compare returns -1 if x is less than y, 0 if x equals y, +1 if x is greater than y.": IT RETURNS 'Lib.compareInt x y'; the world is as it was. (LAID: no walk: one application.) -/
theorem Tryd.cmp_Compare_int (x y : Int) (w : World) :
    Calls Tryd.prog 66 #[.int .i64 x, .int .i64 y] w fun e w' => e = .returned (.int .i64 (Lib.compareInt x y)) ∧ w' = w := Any.cmp_Compare_int Tryd.lays122 x y w
end Go.Proofs

/- The order of values and of rows: cmp.Or, value.Value.Cmp. For every values. -/
namespace Go.Proofs.YtgpadejkmpfafaaDoor
open Go.RowKit

/-- the first that is not 0 -/
def orV : List Int → Int
  | [] => 0
  | x :: r => if x = 0 then orV r else x
def cmpVV (a b : VD) : Int := orV [Lib.compareInt a.kind b.kind, Lib.compareInt a.num b.num, Lib.compareBytes a.text.data.toList b.text.data.toList]
def cmpRV : List VD → List VD → Int
  | [], [] => 0
  | [], _ :: _ => -1
  | _ :: _, [] => 1
  | a :: l, b :: r => if cmpVV a b = 0 then cmpRV l r else cmpVV a b

theorem compareInt_neg (x y : Int) : Lib.compareInt y x = -Lib.compareInt x y := by
  unfold Lib.compareInt
  split <;> split <;> (try split) <;> omega
theorem compareInt_b (x y : Int) : -1 ≤ Lib.compareInt x y ∧ Lib.compareInt x y ≤ 1 := by
  unfold Lib.compareInt
  split <;> (try split) <;> omega
theorem compareBytes_neg : ∀ (x y : List UInt8), Lib.compareBytes y x = -Lib.compareBytes x y
  | [], [] => rfl
  | [], _ :: _ => rfl
  | _ :: _, [] => rfl
  | a :: l, b :: r => by
    unfold Lib.compareBytes
    by_cases h1 : a < b
    · have h2 : ¬ b < a := by rw [UInt8.lt_iff_toNat_lt] at h1 ⊢; omega
      rw [if_neg h2, if_pos h1, if_pos h1]; rfl
    · by_cases h2 : b < a
      · rw [if_pos h2, if_neg h1, if_pos h2]
      · rw [if_neg h2, if_neg h1, if_neg h1, if_neg h2]; exact compareBytes_neg l r
theorem compareBytes_b : ∀ (x y : List UInt8), -1 ≤ Lib.compareBytes x y ∧ Lib.compareBytes x y ≤ 1
  | [], [] => ⟨by decide, by decide⟩
  | [], _ :: _ => ⟨Int.le_refl (-1), show (-1 : Int) ≤ 1 by decide⟩
  | _ :: _, [] => ⟨show (-1 : Int) ≤ 1 by decide, Int.le_refl 1⟩
  | a :: l, b :: r => by
    unfold Lib.compareBytes
    split
    · omega
    · split
      · omega
      · exact compareBytes_b l r
theorem cmpVV_neg (a b : VD) : cmpVV b a = -cmpVV a b := by
  unfold cmpVV
  rw [compareInt_neg a.kind, compareInt_neg a.num, compareBytes_neg a.text.data.toList]
  generalize Lib.compareInt a.kind b.kind = x
  generalize Lib.compareInt a.num b.num = y
  generalize Lib.compareBytes a.text.data.toList b.text.data.toList = z
  simp only [orV]
  by_cases h1 : x = 0 <;> by_cases h2 : y = 0 <;> by_cases h3 : z = 0 <;> simp [h1, h2, h3]
theorem cmpVV_b (a b : VD) : -1 ≤ cmpVV a b ∧ cmpVV a b ≤ 1 := by
  have h1 := compareInt_b a.kind b.kind
  have h2 := compareInt_b a.num b.num
  have h3 := compareBytes_b a.text.data.toList b.text.data.toList
  unfold cmpVV
  simp only [orV]
  split
  · split
    · split <;> omega
    · omega
  · omega
theorem cmpRV_neg : ∀ (l r : List VD), cmpRV r l = -cmpRV l r
  | [], [] => rfl
  | [], _ :: _ => rfl
  | _ :: _, [] => rfl
  | a :: l, b :: r => by
    unfold cmpRV
    rw [cmpVV_neg a b]
    by_cases h : cmpVV a b = 0
    · rw [if_pos (by omega), if_pos h]; exact cmpRV_neg l r
    · rw [if_neg (by omega), if_neg h]
theorem cmpRV_b : ∀ (l r : List VD), -1 ≤ cmpRV l r ∧ cmpRV l r ≤ 1
  | [], [] => ⟨by decide, by decide⟩
  | [], _ :: _ => ⟨Int.le_refl (-1), show (-1 : Int) ≤ 1 by decide⟩
  | _ :: _, [] => ⟨show (-1 : Int) ≤ 1 by decide, Int.le_refl 1⟩
  | a :: l, b :: r => by
    unfold cmpRV
    split
    · exact cmpRV_b l r
    · exact cmpVV_b a b

set_option maxHeartbeats 800000 in
theorem or_any (A : Option Addr) (cap n : Nat) (l : List Int) (hn : l.length = n) (w : World) (h : RdK inE w A l) (hl : n ≤ 140737000000000) :
    Calls Tryd.prog 65 #[.slice A n cap] w fun e w' => e = .returned (.int .i64 (orV l)) ∧ w' = w := by
  subst hn
  go_enter Tryd.func65, Tryd.ntmps65
  go_wp2
  go_loopw [8] (fun i wr => ∃ k : Nat, k ≤ l.length ∧ i = .int .i64 k ∧ Hid (orV l = orV (l.drop k)) ∧ wr = w) (fun i _ => l.length - (intOf i).toNat)
  case atStart => exact ⟨0, by omega, rfl, Lib.hid rfl, rfl⟩
  case round =>
    obtain ⟨k, hk, rfl, Ho, rfl⟩ := hrel
    by_cases hlt : k < l.length
    · obtain ⟨ad, rfl, c0⟩ := RdKI.at_ h k hlt
      have hst : orV (l.drop k) = if l[k] = 0 then orV (l.drop (k + 1)) else l[k] := by rw [List.drop_eq_getElem_cons hlt]; rfl
      obtain ⟨x, hx⟩ : ∃ x, x = l[k] := ⟨_, rfl⟩
      rw [← hx] at hst c0
      have Hst := Lib.hid hst
      clear hst hx
      by_cases h0 : x = 0
      · subst h0
        have Hq := Lib.hid (show orV l = orV (l.drop (k + 1)) by rw [Ho.out, Hst.out, if_pos rfl])
        go_wp2
        go_roundw
        case rel => exact ⟨k + 1, by omega, by go_num, Hq, trivial⟩
        case measure => simp [intOf]; omega
      · have Hq := Lib.hid (show orV l = x by rw [Ho.out, Hst.out, if_neg h0])
        have hq : (x == 0) = false := by rw [beq_eq_false_iff_ne]; exact h0
        have hq' : (x != 0) = true := by rw [bne, hq]; rfl
        go_wp2
        go_ret
        exact ⟨ret_int Hq.out.symm, rfl⟩
    · obtain rfl : k = l.length := by omega
      have Hq := Lib.hid (show orV l = 0 by rw [Ho.out, List.drop_length]; rfl)
      go_wp2
      go_ret
      exact ⟨ret_int Hq.out.symm, rfl⟩

theorem RdK.row {α : Type} {enc : α → List Value} (w : World) (t : TypeId) (l : List α) (cs : Array Value) (h : cs.toList = l.flatMap enc) : RdK enc (w.alloc (.cells cs t)) (some ⟨w.heap.size, 0, none⟩) l := fun _ =>
  ⟨_, rfl, fun j u hu => by
    have hadd : (⟨w.heap.size, 0, none⟩ : Addr).add j = ⟨w.heap.size, j, none⟩ := by unfold Addr.add; split <;> simp_all
    rw [hadd, cell_of_row _ w.heap.size j cs t (0, 0) (heap_alloc_new w _)]
    rw [← h] at hu
    simpa using hu⟩

theorem wp_still_tail' {P : Program} {id : Nat} {Q : Exit → Act → World → Prop} {a : Act} {w : World} {l : List Oper} (n : Nat) (hm : P.follows .mixedOrders = true) (hB : Region.lexTailB .any l.toArray n = true)
    (h : ∀ w2, w2 = w.drew → wpStill P l.toArray w2 (fun a' => wpList P l.toArray Q (l.drop n) a' w2) (l.take n) a) : (Code.region id l.toArray true).wp P Q a w :=
  wp_region_still_tail n hm hB (h _ rfl)

set_option maxRecDepth 20000 in
set_option maxHeartbeats 1600000 in
theorem cmpVal_any (a b : VD) (w : World) :
    Calls Tryd.prog 61 #[a.val, b.val] w fun e w' => e = .returned (.int .i64 (cmpVV a b)) ∧ Touch [] w w' := by
  obtain ⟨k1, n1, s1⟩ := a
  obtain ⟨k2, n2, s2⟩ := b
  have h1 := fun w' => Tryd.cmp_Compare_int k1 k2 w'
  have h2 := fun w' => Tryd.cmp_Compare_int n1 n2 w'
  have h3 := fun w' => Tryd.strings_Compare s1 s2 w'
  have hc : cmpVV ⟨k1, n1, s1⟩ ⟨k2, n2, s2⟩ = orV [Lib.compareInt k1 k2, Lib.compareInt n1 n2, Lib.compareBytes s1.data.toList s2.data.toList] := rfl
  rw [hc]
  obtain ⟨x, hx⟩ : ∃ x, x = Lib.compareInt k1 k2 := ⟨_, rfl⟩
  obtain ⟨y, hy⟩ : ∃ y, y = Lib.compareInt n1 n2 := ⟨_, rfl⟩
  obtain ⟨z, hz⟩ : ∃ z, z = Lib.compareBytes s1.data.toList s2.data.toList := ⟨_, rfl⟩
  rw [← hx, ← hy, ← hz]
  rw [← hx] at h1
  rw [← hy] at h2
  rw [← hz] at h3
  have H1 := Lib.hid h1; have H2 := Lib.hid h2; have H3 := Lib.hid h3
  have t0 := (((Touch.refl [] w).alloc (.cells #[.int .i64 k1, .int .i64 n1, .string s1] 59)).alloc (.cells #[.int .i64 k2, .int .i64 n2, .string s2] 59))
  clear h1 h2 h3 hx hy hz hc
  dsimp only [VD.val]
  go_enter Tryd.func61, Tryd.ntmps61
  go_wp2_with fail
  refine wp_still_tail' 15 (by kernel_rfl) (by kernel_rfl) ?_
  intro w2 hw2
  have ta := (((Touch.refl [] (w.alloc (.cells #[.int .i64 k1, .int .i64 n1, .string s1] 59))).alloc (.cells #[.int .i64 k2, .int .i64 n2, .string s2] 59))).drew
  have tb := ((Touch.refl [] ((w.alloc (.cells #[.int .i64 k1, .int .i64 n1, .string s1] 59)).alloc (.cells #[.int .i64 k2, .int .i64 n2, .string s2] 59)))).drew
  have t2 := t0.drew
  rw [← hw2] at ta tb t2
  have hb1 := heap_alloc_new w (.cells #[.int .i64 k1, .int .i64 n1, .string s1] 59)
  have hb2 := heap_alloc_new (w.alloc (.cells #[.int .i64 k1, .int .i64 n1, .string s1] 59)) (.cells #[.int .i64 k2, .int .i64 n2, .string s2] 59)
  rw [World.size_alloc] at hb2
  have e0 := ta.cell (cell_blk hb1 (i := 0) rfl) (by simp)
  have e1 := ta.cell (cell_blk hb1 (i := 1) rfl) (by simp)
  have e2 := ta.cell (cell_blk hb1 (i := 2) rfl) (by simp)
  have f0 := tb.cell (cell_blk hb2 (i := 0) rfl) (by simp)
  have f1 := tb.cell (cell_blk hb2 (i := 1) rfl) (by simp)
  have f2 := tb.cell (cell_blk hb2 (i := 2) rfl) (by simp)
  clear hb1 hb2 ta tb t0 hw2
  simp only [List.take_succ_cons, List.take_zero, List.drop_succ_cons, List.drop_zero]
  repeat still_step
  still_call (H1.out _)
  repeat still_step
  still_call (H2.out _)
  repeat still_step
  still_call (H3.out _)
  refine wpStill_nil ?_
  have r3 : RdK inE (w2.alloc (.cells #[.int .i64 x, .int .i64 y, .int .i64 z] 3)) (some ⟨w2.heap.size, 0, none⟩) [x, y, z] := RdK.row w2 3 [x, y, z] _ rfl
  go_wp2_with fail
  refine (or_any _ 3 3 [x, y, z] rfl _ r3 (by omega)).mono ?_
  rintro e w3 ⟨rfl, rfl⟩
  go_wp2
  go_ret
  exact ⟨rfl, t2.alloc _⟩
end Go.Proofs.YtgpadejkmpfafaaDoor

/- slices.CompareFunc at rows of values, schema.CmpRows. For every rows. -/
namespace Go.Proofs.YtgpadejkmpfafaaDoor
open Go.RowKit

theorem cmpRV_step {l r : List VD} {k : Nat} (h1 : k < l.length) (h2 : k < r.length) : cmpRV (l.drop k) (r.drop k) = if cmpVV l[k] r[k] = 0 then cmpRV (l.drop (k + 1)) (r.drop (k + 1)) else cmpVV l[k] r[k] := by
  rw [List.drop_eq_getElem_cons h1, List.drop_eq_getElem_cons h2]; rfl
theorem cmpRV_end (l r : List VD) (h : l = [] ∨ r = []) : cmpRV l r = if l.length < r.length then -1 else if r.length < l.length then 1 else 0 := by
  rcases h with rfl | rfl
  · cases r <;> rfl
  · cases l <;> rfl

set_option maxRecDepth 20000 in
set_option maxHeartbeats 1600000 in
theorem compareFunc_any (A B : Option Addr) (c1 c2 n m : Nat) (l r : List VD) (hn : l.length = n) (hm : r.length = m) (w : World) (h : ValsAt w A l) (h2 : ValsAt w B r) (hl : n ≤ 140737000000000) (hl2 : m ≤ 140737000000000) :
    Calls Tryd.prog 60 #[.slice A n c1, .slice B m c2, .func (.func 61) #[] #[]] w fun e w' => e = .returned (.int .i64 (cmpRV l r)) ∧ Touch [] w w' := by
  subst hn hm
  go_enter Tryd.func60, Tryd.ntmps60
  go_wp2
  go_loopw [13] (fun i wr => ∃ k : Nat, k ≤ l.length ∧ k ≤ r.length ∧ i = .int .i64 k ∧ Hid (cmpRV l r = cmpRV (l.drop k) (r.drop k)) ∧ Touch [] w wr) (fun i _ => l.length - (intOf i).toNat)
  case atStart => exact ⟨0, by omega, by omega, rfl, Lib.hid rfl, Touch.refl _ _⟩
  case round =>
    obtain ⟨k, hka, hkb, rfl, Ho, ht⟩ := hrel
    by_cases h1 : k < l.length
    · obtain ⟨ad, b, off, rfl, hadd, c0, c1, c2⟩ := (h.touch0 ht).at_ k h1
      by_cases h2' : k < r.length
      · obtain ⟨bd, b2, off2, rfl, hadd2, d0, d1, d2⟩ := (h2.touch0 ht).at_ k h2'
        have hst := cmpRV_step h1 h2'
        obtain ⟨x, hx⟩ : ∃ x, x = l[k] := ⟨_, rfl⟩
        obtain ⟨y, hy⟩ : ∃ y, y = r[k] := ⟨_, rfl⟩
        rw [← hx, ← hy] at hst
        rw [← hx] at c0 c1 c2
        rw [← hy] at d0 d1 d2
        obtain ⟨k1, n1, s1⟩ := x
        obtain ⟨k2, n2, s2⟩ := y
        simp only at c0 c1 c2 d0 d1 d2
        have hcv := fun w' => cmpVal_any ⟨k1, n1, s1⟩ ⟨k2, n2, s2⟩ w'
        simp only [VD.val] at hcv
        obtain ⟨q, hq⟩ : ∃ q, q = cmpVV ⟨k1, n1, s1⟩ ⟨k2, n2, s2⟩ := ⟨_, rfl⟩
        rw [← hq] at hst hcv
        have Hcv := Lib.hid hcv
        have Hst := Lib.hid hst
        have ta := ((Touch.refl [] wr).alloc (.cells #[.int .i64 k1, .int .i64 n1, .string s1] 59))
        have e0 := ta.cell d0 (by simp)
        have e1 := ta.cell d1 (by simp)
        have e2 := ta.cell d2 (by simp)
        have hkI : (k : Int) < (r.length : Int) := by omega
        have h0I : (0 : Int) ≤ (k : Int) := by omega
        clear hst hcv hx hy hq d0 d1 d2 ta
        have tb := (ht.alloc (.cells #[.int .i64 k1, .int .i64 n1, .string s1] 59)).alloc (.cells #[.int .i64 k2, .int .i64 n2, .string s2] 59)
        by_cases h0 : q = 0
        · subst h0
          have Hq := Lib.hid (show cmpRV l r = cmpRV (l.drop (k + 1)) (r.drop (k + 1)) by rw [Ho.out, Hst.out, if_pos rfl])
          go_wp2_with fail
          refine (Hcv.out _).mono ?_
          rintro e w1 ⟨rfl, t1⟩
          go_wp2
          go_roundw
          case rel => exact ⟨k + 1, by omega, by omega, by go_num, Hq, tb.trans0 t1⟩
          case measure => simp [intOf]; omega
        · have Hq := Lib.hid (show cmpRV l r = q by rw [Ho.out, Hst.out, if_neg h0])
          have hq : (q == 0) = false := by rw [beq_eq_false_iff_ne]; exact h0
          have hq' : (q != 0) = true := by rw [bne, hq]; rfl
          go_wp2_with fail
          refine (Hcv.out _).mono ?_
          rintro e w1 ⟨rfl, t1⟩
          go_wp2
          go_ret
          exact ⟨ret_int Hq.out.symm, tb.trans0 t1⟩
      · have hE := cmpRV_end (l.drop k) (r.drop k) (.inr (List.drop_of_length_le (by omega)))
        rw [List.length_drop, List.length_drop] at hE
        have Hq := Lib.hid (show cmpRV l r = 1 by rw [Ho.out, hE, if_neg (by omega), if_pos (by omega)])
        obtain ⟨x, hx⟩ : ∃ x, x = l[k] := ⟨_, rfl⟩
        rw [← hx] at c0 c1 c2
        obtain rfl : k = r.length := by omega
        clear hE hx Ho
        go_wp2
        go_ret
        exact ⟨ret_int Hq.out.symm, ht.alloc _⟩
    · have hE := cmpRV_end (l.drop k) (r.drop k) (.inl (List.drop_of_length_le (by omega)))
      rw [List.length_drop, List.length_drop] at hE
      have HE := Lib.hid hE
      clear hE
      obtain rfl : k = l.length := by omega
      by_cases hq : l.length < r.length
      · have Hq := Lib.hid (show cmpRV l r = -1 by rw [Ho.out, HE.out, if_pos (by omega)])
        have hqI : (l.length : Int) < (r.length : Int) := by omega
        clear HE Ho
        go_wp2
        go_ret
        exact ⟨ret_int Hq.out.symm, ht⟩
      · have Hq := Lib.hid (show cmpRV l r = 0 by rw [Ho.out, HE.out, if_neg (by omega), if_neg (by omega)])
        have hqI : ¬ (l.length : Int) < (r.length : Int) := by omega
        clear HE Ho
        go_wp2
        go_ret
        exact ⟨ret_int Hq.out.symm, ht⟩

theorem cmpRows_any (A B : Option Addr) (c1 c2 n m : Nat) (l r : List VD) (hn : l.length = n) (hm : r.length = m) (w : World) (h : ValsAt w A l) (h2 : ValsAt w B r) (hl : n ≤ 140737000000000) (hl2 : m ≤ 140737000000000) :
    Calls Tryd.prog 47 #[.slice A n c1, .slice B m c2] w fun e w' => e = .returned (.int .i64 (cmpRV l r)) ∧ Touch [] w w' := by
  have hcf := compareFunc_any A B c1 c2 n m l r hn hm w h h2 hl hl2
  have Hcf := Lib.hid hcf
  clear hcf
  go_enter Tryd.func47, Tryd.ntmps47
  go_wp2_with fail
  refine Hcf.out.mono ?_
  rintro e w1 ⟨rfl, t1⟩
  go_wp2
  go_ret
  exact ⟨rfl, t1⟩
end Go.Proofs.YtgpadejkmpfafaaDoor

/- Rows of values that lie in memory; table.fit, table.Table.Check: for every schema and rows. -/
namespace Go.Proofs.YtgpadejkmpfafaaDoor
open Go.RowKit

/-- a slice's cell -/
structure SL where
  A : Option Addr
  n : Nat
  c : Nat
def slE (s : SL) : List Value := [.slice s.A s.n s.c]
theorem slE_length (s : SL) : (slE s).length = 1 := rfl
theorem slE_one (s : SL) : ∀ u ∈ slE s, u.oneCell' = true := by
  intro u hu
  simp only [slE, List.mem_cons, List.not_mem_nil, or_false] at hu
  subst hu; rfl
/-- slices that lead to these rows -/
def SlsAt (w : World) (sl : List SL) (rows : List (List VD)) : Prop := sl.length = rows.length ∧ ∀ i (h1 : i < sl.length) (h2 : i < rows.length), sl[i].n = rows[i].length ∧ ValsAt w sl[i].A rows[i]
def RowsAt (w : World) (B : Option Addr) (rows : List (List VD)) : Prop := ∃ sl, SlsAt w sl rows ∧ RdK slE w B sl
theorem RowsAt.touch0 {w w' : World} {B : Option Addr} {rows : List (List VD)} (h : RowsAt w B rows) (ht : Touch [] w w') : RowsAt w' B rows := by
  obtain ⟨sl, ⟨h1, h2⟩, h3⟩ := h
  exact ⟨sl, ⟨h1, fun i a b => ⟨(h2 i a b).1, ValsAt.touch0 (h2 i a b).2 ht⟩⟩, RdK.touch0 h3 ht⟩
theorem RowsAt.at_ {w : World} {B : Option Addr} {rows : List (List VD)} (h : RowsAt w B rows) (i : Nat) (hi : i < rows.length) : ∃ bd A c, B = some bd ∧ w.cell? (bd.add i) = some (.slice A rows[i].length c) ∧ ValsAt w A rows[i] := by
  obtain ⟨sl, ⟨h1, h2⟩, h3⟩ := h
  obtain ⟨ad, b, off, e1, e2, _, e3⟩ := RdK.at_ h3 1 slE_length (by omega) i (by omega)
  rw [Nat.mul_one] at e2
  have := h2 i (by omega) hi
  refine ⟨ad, sl[i].A, sl[i].c, e1, ?_, this.2⟩
  rw [e2, ← this.1]
  exact e3 0 _ rfl

/-- the first row that does not fit -/
def badR (cs : List CD) (rows : List (List VD)) : Option Nat := rows.findIdx? fun r => !fitR cs r
def fitV (cs : List CD) (rows : List (List VD)) : Int := if checkV cs = 0 then (if 4096 < rows.length then 31 else if rows.all (fitR cs) = true then 0 else 12) else checkV cs
/-- does every row stand behind the one ahead? -/
def sortedV (rows : List (List VD)) : Bool := (List.range (rows.length - 1)).all fun i => decide (0 ≤ cmpRV (rows.getD (i + 1) []) (rows.getD i []))
def checkT (cs : List CD) (rows : List (List VD)) : Int := if fitV cs rows = 0 then (if sortedV rows = true then 0 else 20) else fitV cs rows

set_option maxHeartbeats 800000 in
theorem fit1_any (B : Nat) (SA : Option Addr) (cap n : Nat) (cs : List CD) (hn : cs.length = n) (hok : ∀ c ∈ cs, c.Ok) (hc0 : checkV cs = 0) (A : Option Addr) (c m : Nat) (vs : List VD) (hm : vs.length = m) (hvk : ∀ v ∈ vs, v.Ok 140737000000000) (w : World)
    (hB : w.cell? ⟨B, 0, none⟩ = some (.slice SA n cap)) (h : ColsAt w SA cs) (hv : ValsAt w A vs) (hl : n ≤ 140737000000000) (hl2 : m ≤ 140737000000000) :
    Calls Tryd.prog 58 #[.slice A m c, .pointer (some ⟨B, 0, none⟩)] w fun e w' => e = .returned (.bool (!fitR cs vs)) ∧ Touch [] w w' := by
  have hf := fits_any SA cap n cs hn hok A c m vs hm hvk w h hv hl hl2
  rw [hc0] at hf
  have e : (decide ((0 : Int) = 0) && fitR cs vs) = fitR cs vs := by simp
  rw [e] at hf
  have Hf := Lib.hid hf
  clear hf e
  go_enter Tryd.func58, Tryd.ntmps58
  go_wp2_with fail
  refine Hf.out.mono ?_
  rintro e w1 ⟨rfl, t1⟩
  go_wp2
  go_ret
  exact ⟨rfl, t1⟩

theorem all_fit_no {cs : List CD} {rows : List (List VD)} {k : Nat} (h : k < rows.length) (hb : fitR cs rows[k] = false) : rows.all (fitR cs) = false := by
  rw [List.all_eq_false]
  exact ⟨_, List.getElem_mem h, by rw [hb]; simp⟩

set_option maxHeartbeats 1600000 in
theorem indexRows_any (B : Nat) (SA : Option Addr) (cap n : Nat) (cs : List CD) (hn : cs.length = n) (hok : ∀ c ∈ cs, c.Ok) (hc0 : checkV cs = 0) (A : Option Addr) (c m : Nat) (rows : List (List VD)) (hm : rows.length = m) (hvk : ∀ r ∈ rows, r.length ≤ 140737000000000 ∧ ∀ v ∈ r, v.Ok 140737000000000) (w : World)
    (hB : w.cell? ⟨B, 0, none⟩ = some (.slice SA n cap)) (h : ColsAt w SA cs) (hv : RowsAt w A rows) (hl : n ≤ 140737000000000) (hl2 : m ≤ 140737000000000) :
    Calls Tryd.prog 64 #[.slice A m c, .func (.func 58) #[] #[.pointer (some ⟨B, 0, none⟩)]] w fun e w' =>
      (∃ i : Int, e = .returned (.int .i64 i) ∧ -1 ≤ i ∧ i ≤ m ∧ (decide (0 ≤ i) = !rows.all (fitR cs))) ∧ Touch [] w w' := by
  subst hm
  go_enter Tryd.func64, Tryd.ntmps64
  go_wp2
  go_loopw [8] (fun i wr => ∃ k : Nat, k ≤ rows.length ∧ i = .int .i64 k ∧ Hid ((rows.take k).all (fitR cs) = true) ∧ Touch [] w wr) (fun i _ => rows.length - (intOf i).toNat)
  case atStart => exact ⟨0, by omega, rfl, Lib.hid rfl, Touch.refl _ _⟩
  case round =>
    obtain ⟨k, hk, rfl, Hall, ht⟩ := hrel
    by_cases hlt : k < rows.length
    · obtain ⟨bd, A1, c1, rfl, e0, hr⟩ := (hv.touch0 ht).at_ k hlt
      have hvk1 := hvk _ (List.getElem_mem hlt)
      have hno := all_fit_no (cs := cs) hlt
      have hyes := all_snoc (p := fitR cs) hlt Hall.out
      obtain ⟨r, hre⟩ : ∃ r, r = rows[k] := ⟨_, rfl⟩
      rw [← hre] at e0 hr hvk1 hno hyes
      have hf := fun w' (t : Touch [] wr w') => fit1_any B SA cap n cs hn hok hc0 A1 c1 r.length r rfl hvk1.2 w' ((ht.trans0 t).cell hB (by simp)) (h.touch0 (ht.trans0 t)) (hr.touch0 t) hl hvk1.1
      have Hno := Lib.hid hno; have Hyes := Lib.hid hyes
      have hkI : (k : Int) < (rows.length : Int) := by omega
      clear hno hyes hre hr Hall
      rcases hb : fitR cs r with _ | _
      · rw [hb] at hf
        have Hf := Lib.hid hf
        have Hs := Lib.hid (Hno.out hb)
        clear hf hb
        go_wp2_with fail
        refine (Hf.out _ (by first | exact Touch.refl _ _ | exact (Touch.refl _ _).drewN _)).mono ?_
        rintro e w1 ⟨rfl, t1⟩
        go_wp2
        go_ret
        exact ⟨⟨k, rfl, by omega, by omega, by rw [Hs.out]; simp⟩, ht.trans0 t1⟩
      · rw [hb] at hf
        have Hf := Lib.hid hf
        have Hs := Lib.hid (Hyes.out hb)
        clear hf hb
        go_wp2_with fail
        refine (Hf.out _ (by first | exact Touch.refl _ _ | exact (Touch.refl _ _).drewN _)).mono ?_
        rintro e w1 ⟨rfl, t1⟩
        go_wp2
        go_roundw
        case rel => exact ⟨k + 1, by omega, by go_num, Hs, ht.trans0 t1⟩
        case measure => simp [intOf]; omega
    · obtain rfl : k = rows.length := by omega
      have hall := Hall.out
      rw [List.take_length] at hall
      have Hs := Lib.hid hall
      go_wp2
      go_ret
      exact ⟨⟨-1, rfl, by omega, by omega, by rw [Hs.out]; rfl⟩, ht⟩
end Go.Proofs.YtgpadejkmpfafaaDoor

/- Rows of values of the calls' own, in a slice of slices: how one more row comes to them. No program's function. -/
namespace Go.Proofs.YtgpadejkmpfafaaDoor
open Go.RowKit

/-- slices of the calls' own that lead to rows -/
def OwnR (t : TypeId) (base : Nat) (w : World) (B : Option Addr) (c : Nat) (rows : List (List VD)) : Prop :=
  ∃ sl, SlsAt w sl rows ∧ OwnK t 1 slE w B c sl ∧ ∀ s ∈ sl, ∀ b ∈ fpo s.A, b ∉ fpo B ∧ b < w.heap.size ∧ base ≤ b
theorem OwnR.nil (t : TypeId) (base : Nat) (w : World) : OwnR t base w none 0 [] := ⟨[], ⟨rfl, fun i h => absurd h (by simp)⟩, OwnK.nil _ _ _ _, by simp⟩
theorem OwnR.rowsAt {t base : Nat} {w : World} {B : Option Addr} {c : Nat} {rows : List (List VD)} (h : OwnR t base w B c rows) : RowsAt w B rows := by
  obtain ⟨sl, h1, h2, _⟩ := h
  exact ⟨sl, h1, h2.rd⟩
theorem OwnR.lt {t base : Nat} {w : World} {B : Option Addr} {c : Nat} {rows : List (List VD)} (h : OwnR t base w B c rows) : ∀ b ∈ fpo B, b < w.heap.size := by
  obtain ⟨sl, h1, h2, _⟩ := h
  exact h2.lt
theorem SlsAt.touch {w w' : World} {sl : List SL} {rows : List (List VD)} {fp : List Nat} (h : SlsAt w sl rows) (ht : Touch fp w w') (hn : ∀ s ∈ sl, ∀ b ∈ fpo s.A, b ∉ fp) : SlsAt w' sl rows :=
  ⟨h.1, fun i a b => ⟨(h.2 i a b).1, RdK.touch (h.2 i a b).2 ht (hn _ (List.getElem_mem a))⟩⟩
theorem OwnR.touch {t base : Nat} {w w' : World} {B : Option Addr} {c : Nat} {rows : List (List VD)} {fp : List Nat} (h : OwnR t base w B c rows) (ht : Touch fp w w') (hfp : ∀ b ∈ fp, b < base) (hB : ∀ b ∈ fpo B, base ≤ b) : OwnR t base w' B c rows := by
  obtain ⟨sl, h1, h2, h3⟩ := h
  exact ⟨sl, h1.touch ht (fun s hs b hb hm => by have := hfp b hm; have := (h3 s hs b hb).2.2; omega), h2.touch ht (fun b hb hm => by have := hfp b hm; have := hB b hb; omega), fun s hs b hb => ⟨(h3 s hs b hb).1, Nat.lt_of_lt_of_le (h3 s hs b hb).2.1 ht.size, (h3 s hs b hb).2.2⟩⟩
theorem OwnR.touch0 {t base : Nat} {w w' : World} {B : Option Addr} {c : Nat} {rows : List (List VD)} (h : OwnR t base w B c rows) (ht : Touch [] w w') : OwnR t base w' B c rows := by
  obtain ⟨sl, h1, h2, h3⟩ := h
  exact ⟨sl, h1.touch ht (fun _ _ _ _ => by simp), h2.touch0 ht, fun s hs b hb => ⟨(h3 s hs b hb).1, Nat.lt_of_lt_of_le (h3 s hs b hb).2.1 ht.size, (h3 s hs b hb).2.2⟩⟩

/-- append of one more row -/
theorem wpList_appR {w : World} {ops : Array Oper} {rest : List Oper} {o : Oper} {a : Act} {Q : Exit → Act → World → Prop} (hgd : o.guard = none) (s x : Operand) (t : TypeId)
    (ho : o.op = .call { callee := .builtin .append, args := #[s, x], argTypes := #[t, t] })
    (e : TypeId) (hinfo : (Tryd.prog.info? e).map (fun i => (i.zero, i.size, i.bytes)) = some (some (.slice none 0 0), 1, 24)) (ht : Tryd.prog.underlying t = some (.slice e))
    (base : Nat) (B : Option Addr) (m c : Nat) (rows : List (List VD)) (hm : rows.length = m) (hs : a.eval s = .slice B m c) (hown : OwnR e base w B c rows)
    (A : Option Addr) (ca : Nat) (r : List VD) (hr : ValsAt w A r) (hA : ∀ b ∈ fpo A, b ∉ fpo B ∧ b < w.heap.size ∧ base ≤ b)
    (g : Nat) (hx : a.eval x = .slice (some ⟨w.heap.size, 0, none⟩) 1 g) (h63 : m + 1 ≤ 1000000000) {cs : Array Value} (hcs : cs.toList = [.slice A r.length ca])
    (h : ∀ B' c' w', OwnR e base w' B' c' (rows ++ [r]) → Touch (fpo B) (w.alloc (.cells cs e)) w' → (∀ b ∈ fpo B', b ∈ fpo B ∨ b = w.heap.size + 1) → wpList Tryd.prog ops Q rest (a.put o.dst (.slice B' (m + 1) c')) w') :
    wpList Tryd.prog ops Q (o :: rest) a (w.alloc (.cells cs e)) := by
  obtain ⟨sl, h1, h2, h3⟩ := hown
  have ta := (Touch.refl [] w).alloc (.cells cs e)
  refine wpList_appK (enc := slE) hgd s x t ho e (.slice none 0 0) 1 24 hinfo ht rfl (by omega) slE_length slE_one B m c sl (by rw [h1.1, hm]) hs (h2.touch0 ta)
    (some ⟨w.heap.size, 0, none⟩) 1 g [⟨A, r.length, ca⟩] rfl hx (RdK.one (enc := slE) w e ⟨A, r.length, ca⟩ cs hcs) h63 (by omega) ?_
  intro B' c' w' hown' t' hf'
  rw [World.size_alloc] at hf'
  have hw := ta.size
  refine h B' c' w' ⟨sl ++ [⟨A, r.length, ca⟩], ⟨by rw [List.length_append, List.length_append, h1.1]; rfl, fun i a1 b1 => ?_⟩, hown', fun s' hs' b hb => ?_⟩ t' hf'
  · by_cases hi : i < sl.length
    · have hi2 : i < rows.length := by rw [← h1.1]; exact hi
      rw [List.getElem_append_left hi, List.getElem_append_left hi2]
      have := h1.2 i hi hi2
      exact ⟨this.1, RdK.touch (RdK.touch0 this.2 ta) t' (fun b hb => (h3 _ (List.getElem_mem hi) b hb).1)⟩
    · have hi' : i = sl.length := by rw [List.length_append] at a1; simp at a1; omega
      subst hi'
      have e1 : (sl ++ [(⟨A, r.length, ca⟩ : SL)])[sl.length] = ⟨A, r.length, ca⟩ := by rw [List.getElem_append_right (Nat.le_refl _)]; simp
      have e2 : (rows ++ [r])[sl.length] = r := by rw [List.getElem_append_right (by rw [h1.1]; exact Nat.le_refl _)]; simp [h1.1]
      rw [e1, e2]
      exact ⟨rfl, RdK.touch (RdK.touch0 hr ta) t' (fun b hb => (hA b hb).1)⟩
  · have key : b ∉ fpo B ∧ b < w.heap.size ∧ base ≤ b := by
      rcases List.mem_append.1 hs' with q | q
      · exact h3 s' q b hb
      · simp only [List.mem_singleton] at q
        subst q
        exact hA b hb
    refine ⟨fun hm' => ?_, Nat.lt_of_lt_of_le key.2.1 (Nat.le_trans hw t'.size), key.2.2⟩
    rcases hf' b hm' with q | q
    · exact key.1 q
    · have := key.2.1; omega
end Go.Proofs.YtgpadejkmpfafaaDoor

/- frame.low: the lowest bytes of a number. For every number below 2^64. -/
namespace Go.Proofs.YtgpadejkmpfafaaDoor
open Go.RowKit

/-- the lowest k bytes -/
def digs (N : Nat) : Nat → List UInt8
  | 0 => []
  | k + 1 => UInt8.ofNat N :: digs (N / 256) k
theorem digs_length (N k : Nat) : (digs N k).length = k := by
  induction k generalizing N with
  | zero => rfl
  | succ k ih => simp [digs, ih]
theorem digs_snoc (N k : Nat) : digs N (k + 1) = digs N k ++ [UInt8.ofNat (N / 256 ^ k)] := by
  induction k generalizing N with
  | zero => simp [digs]
  | succ k ih =>
    rw [digs, ih (N / 256)]
    simp only [digs, List.cons_append]
    rw [Nat.div_div_eq_div_mul, ← Nat.pow_succ']
/-- as many bytes as a number needs -/
def le (f : Nat) (N : Nat) : List UInt8 :=
  match f with
  | 0 => []
  | f + 1 => if N = 0 then [] else UInt8.ofNat N :: le f (N / 256)
theorem le_length (f N : Nat) : (le f N).length ≤ f := by
  induction f generalizing N with
  | zero => simp [le]
  | succ f ih =>
    unfold le
    split
    · simp
    · simpa using ih _
theorem digs_le (f k N : Nat) (hk : k ≤ f) (h0 : N / 256 ^ k = 0) (hp : ∀ j, j < k → 0 < N / 256 ^ j) : digs N k = le f N := by
  induction f generalizing k N with
  | zero => obtain rfl : k = 0 := by omega
            rfl
  | succ f ih =>
    cases k with
    | zero => simp at h0; simp [digs, le, h0]
    | succ k =>
      have h1 := hp 0 (by omega)
      simp only [Nat.pow_zero, Nat.div_one] at h1
      rw [digs, le, if_neg (by omega), ih k (N / 256) (by omega)]
      · rw [Nat.div_div_eq_div_mul, ← Nat.pow_succ']; exact h0
      · intro j hj
        rw [Nat.div_div_eq_div_mul, ← Nat.pow_succ']
        exact hp (j + 1) (by omega)

def IsLow (N least k : Nat) : Prop := N / 256 ^ k = 0 ∧ least ≤ k ∧ k ≤ 8 ∧ ∀ j, j < k → 0 < N / 256 ^ j ∨ j < least
theorem IsLow.zero {N k : Nat} (h : IsLow N 0 k) : digs N k = le 8 N := digs_le 8 k N h.2.2.1 h.1 fun j hj => by have := h.2.2.2 j hj; omega
theorem IsLow.four {N k : Nat} (h : IsLow N 4 k) (hN : N < 4294967296) : k = 4 := by
  have h4 : N / 256 ^ 4 = 0 := Nat.div_eq_of_lt (by simpa using hN)
  rcases Nat.lt_or_ge 4 k with hk | hk
  · have := h.2.2.2 4 hk; omega
  · have := h.2.1; omega

set_option maxHeartbeats 400000 in
theorem low_any (N least : Nat) (hN : N < 18446744073709551616) (hl : least ≤ 8) (w : World) :
    Calls Tryd.prog 39 #[.int .u64 N, .int .i64 least] w fun e w' => ∃ A c k, e = .returned (.slice A (digs N k).length c) ∧ OwnB w' A c (digs N k) ∧ Touch [] w w' ∧ (∀ b ∈ fpo A, w.heap.size ≤ b) ∧
      IsLow N least k := by
  go_enter Tryd.func39, Tryd.ntmps39
  go_wp2
  go_loopw [0, 5] (fun n out wr => ∃ k A c, k ≤ 8 ∧ n = .int .u64 (N / 256 ^ k : Nat) ∧ out = .slice A k c ∧ OwnB wr A c (digs N k) ∧ Touch [] w wr ∧ (∀ b ∈ fpo A, w.heap.size ≤ b) ∧ ∀ j, j < k → 0 < N / 256 ^ j ∨ j < least)
    (fun _ out _ => match out with | .slice _ k _ => 9 - k | _ => 0)
  case atStart => exact ⟨0, none, 0, by omega, by simp, rfl, OwnB.nil _, Touch.refl _ _, by simp [fpo], by omega⟩
  case round =>
    obtain ⟨k, A, c, hk, rfl, rfl, hown, ht, hfp, hj⟩ := hrel
    obtain ⟨q, hq⟩ : ∃ q, q = N / 256 ^ k := ⟨_, rfl⟩
    have hql : q < 18446744073709551616 := hq ▸ Nat.lt_of_le_of_lt (Nat.div_le_self _ _) hN
    rw [← hq]
    have h8 : k = 8 → q = 0 := by rintro rfl; rw [hq]; exact Nat.div_eq_of_lt (by simpa using hN)
    have H8 := Lib.hid h8; clear h8
    have Hq := Lib.hid hq; clear hq
    have hx : (q : Int) % 256 = ((UInt8.ofNat q).toNat : Int) := by simp
    have Hx := Lib.hid hx; clear hx
    by_cases hc : 0 < q ∨ k < least
    · have hk8 : k < 8 := by
        rcases Nat.lt_or_ge k 8 with h | h
        · exact h
        · have := H8.out (by omega); omega
      have hd : (decide ((0 : Int) < q) = true ∧ 0 < q) ∨ (decide ((0 : Int) < q) = false ∧ q = 0 ∧ k < least) := by
        by_cases h : 0 < q
        · exact .inl ⟨by simp; omega, h⟩
        · exact .inr ⟨by simp; omega, by omega, by omega⟩
      rcases hd with ⟨hd, hq0⟩ | ⟨hd, hq0, hkl⟩
      · go_wp2_with (at_builtin; refine wpList_appB rfl (.tmp 14) (.tmp 17) rfl A k c (digs N k) (digs_length N k) rfl (hown.touch0 ((Touch.refl _ _).alloc _)) (some ⟨wr.heap.size, 0, none⟩) 1 1 [UInt8.ofNat q] rfl rfl (RdB.one' _ _ Hx.out) (by omega) ?_; intro A1 c1 w1 hown1 ht1 hfp1)
        go_roundw
        case rel => exact ⟨k + 1, A1, c1, by omega, by rw [Nat.pow_succ, ← Nat.div_div_eq_div_mul, ← Hq.out]; go_num, rfl, by rw [digs_snoc, ← Hq.out]; exact hown1,
          (ht.alloc _).trans ht1 (fun b hb => .inr (hfp b hb)), fun b hb => (by
            rcases hfp1 b hb with h | h
            · exact hfp b h
            · have := ht.size; simp at h; omega), fun j hj' => (by
            rcases Nat.lt_or_ge j k with h | h
            · exact hj j h
            · obtain rfl : j = k := by omega
              rw [← Hq.out]; exact hc)⟩
        case measure => simp; omega
      · subst hq0
        go_wp2_with (at_builtin; refine wpList_appB rfl (.tmp 14) (.tmp 17) rfl A k c (digs N k) (digs_length N k) rfl (hown.touch0 ((Touch.refl _ _).alloc _)) (some ⟨wr.heap.size, 0, none⟩) 1 1 [UInt8.ofNat 0] rfl rfl (RdB.one' _ _ rfl) (by omega) ?_; intro A1 c1 w1 hown1 ht1 hfp1)
        go_roundw
        case rel => exact ⟨k + 1, A1, c1, by omega, by rw [Nat.pow_succ, ← Nat.div_div_eq_div_mul, ← Hq.out]; go_num, rfl, by rw [digs_snoc, ← Hq.out]; exact hown1,
          (ht.alloc _).trans ht1 (fun b hb => .inr (hfp b hb)), fun b hb => (by
            rcases hfp1 b hb with h | h
            · exact hfp b h
            · have := ht.size; simp at h; omega), fun j hj' => (by
            rcases Nat.lt_or_ge j k with h | h
            · exact hj j h
            · obtain rfl : j = k := by omega
              rw [← Hq.out]; exact hc)⟩
        case measure => simp; omega
    · obtain ⟨hq0, hl0⟩ : q = 0 ∧ least ≤ k := by omega
      subst hq0
      go_wp2
      go_ret
      exact ⟨A, c, k, ret_slice (digs_length N k).symm, hown, ht, hfp, ⟨Hq.out.symm, hl0, hk, hj⟩⟩
theorem low_zero (N : Nat) (hN : N < 18446744073709551616) (w : World) :
    Calls Tryd.prog 39 #[.int .u64 N, .int .i64 0] w fun e w' => ∃ A c, e = .returned (.slice A (le 8 N).length c) ∧ OwnB w' A c (le 8 N) ∧ Touch [] w w' ∧ (∀ b ∈ fpo A, w.heap.size ≤ b) :=
  (low_any N 0 hN (by omega) w).mono fun e w' ⟨A, c, k, he, ho, ht, hf, hk⟩ => by
    rw [hk.zero] at he ho
    exact ⟨A, c, he, ho, ht, hf⟩
theorem low_four (N : Nat) (hN : N < 4294967296) (w : World) :
    Calls Tryd.prog 39 #[.int .u64 N, .int .i64 4] w fun e w' => ∃ A c, e = .returned (.slice A 4 c) ∧ OwnB w' A c (digs N 4) ∧ Touch [] w w' ∧ (∀ b ∈ fpo A, w.heap.size ≤ b) :=
  (low_any N 4 (by omega) (by omega) w).mono fun e w' ⟨A, c, k, he, ho, ht, hf, hk⟩ => by
    obtain rfl := hk.four hN
    rw [digs_length] at he
    exact ⟨A, c, he, ho, ht, hf⟩
end Go.Proofs.YtgpadejkmpfafaaDoor

/- frame.Out.Int: a number's bytes are put behind what is there. For every number. -/
namespace Go.Proofs.YtgpadejkmpfafaaDoor
open Go.RowKit

/-- a number's bytes -/
def encI (n : Int) : List UInt8 :=
  let m := if n < 0 then (-1 - n).toNat else n.toNat
  UInt8.ofNat ((le 8 m).length + if n < 0 then 16 else 0) :: le 8 m

/-- what an Out holds: its block is of one cell, which owns these bytes -/
def OutAt (w : World) (g : Nat) (A : Option Addr) (l : List UInt8) : Prop :=
  ∃ c, w.heap[g]? = some (.cells #[.slice A l.length c] 31 (0, 0)) ∧ OwnB w A c l ∧ g ∉ fpo A

/-- the outcome of a call that puts bytes behind an Out's -/
def OutPost (g : Nat) (A : Option Addr) (l : List UInt8) (w w' : World) : Prop :=
  ∃ A', OutAt w' g A' l ∧ Touch (g :: fpo A) w w' ∧ ∀ b ∈ fpo A', b ∈ fpo A ∨ w.heap.size ≤ b

theorem outStep {w w2 : World} {g : Nat} {A A2 : Option Addr} {c c2 : Nat} {l l2 : List UInt8} (hg : w.heap[g]? = some (.cells #[.slice A l.length c] 31 (0, 0))) (hgA : g ∉ fpo A) (n : Nat) (hn : l2.length = n)
    (h2 : OwnB w2 A2 c2 l2) (ht : Touch (fpo A) w w2) (hf : ∀ b ∈ fpo A2, b ∈ fpo A ∨ b = w.heap.size) :
    (w2.setCell ⟨g, 0, none⟩ (.slice A2 n c2)).heap[g]? = some (.cells #[.slice A2 l2.length c2] 31 (0, 0)) ∧ OwnB (w2.setCell ⟨g, 0, none⟩ (.slice A2 n c2)) A2 c2 l2 ∧ g ∉ fpo A2 ∧ Touch (g :: fpo A) w (w2.setCell ⟨g, 0, none⟩ (.slice A2 n c2)) ∧
      (w2.cell? ⟨g, 0, none⟩ = some (.slice A l.length c) ∧ w2.frozen? ⟨g, 0, none⟩ = false) := by
  have hgl := lt_of_block hg
  have h2g := ht.blk hg hgA
  have hgA2 : g ∉ fpo A2 := fun hm => by
    rcases hf g hm with h | h
    · exact hgA h
    · omega
  subst hn
  refine ⟨one_setCell h2g, h2.touch ((Touch.refl [g] w2).setCell (by simp) _) (fun b hb hm => hgA2 ((by simpa using hm : b = g) ▸ hb)), hgA2, ?_, cell_of_one h2g, free_of_one h2g⟩
  exact (ht.mono (fun b hb => .inl (by simp [hb]))).setCell (.inl (by simp)) _

theorem encI_neg {n : Int} {M : Nat} (hn : n < 0) (h : (-1 - n : Int) = M) : encI n = UInt8.ofNat ((le 8 M).length + 16) :: le 8 M := by
  have : (-1 - n).toNat = M := by omega
  simp [encI, hn, this]
theorem encI_pos {M : Nat} : encI (M : Int) = UInt8.ofNat ((le 8 M).length) :: le 8 M := by
  have : ¬ ((M : Int) < 0) := by omega
  simp [encI, this]

set_option maxHeartbeats 400000 in
theorem outInt_any (g : Nat) (A : Option Addr) (l : List UInt8) (n : Int) (h1 : -9223372036854775808 ≤ n) (h2 : n ≤ 9223372036854775807) (hl : l.length ≤ 140737488000000) (w : World) (ho : OutAt w g A l) :
    Calls Tryd.prog 12 #[.pointer (some ⟨g, 0, none⟩), .int .i64 n] w fun e w' => e = .returned (.pointer (some ⟨g, 0, none⟩)) ∧ OutPost g A (l ++ encI n) w w' := by
  go_enter Tryd.func12, Tryd.ntmps12
  obtain ⟨c, hg, hown, hgA⟩ := ho
  have hcell := cell_of_one hg
  have hfree := free_of_one hg
  have hgl := lt_of_block hg
  have hAl := hown.lt
  by_cases hn : n < 0
  · obtain ⟨M, hM⟩ : ∃ M : Nat, (-1 - n : Int) = (M : Int) := ⟨(-1 - n).toNat, by omega⟩
    have hMl : M < 18446744073709551616 := by omega
    have hl8 := le_length 8 M
    have henc := Lib.hid (encI_neg hn hM)
    go_wp2_with fail
    refine (low_zero M hMl w).mono ?_
    rintro e w1 ⟨A1, c1, rfl, hown1, ht1, hf1⟩
    clear hM
    have hg1 := ht1.blk hg (by simp)
    have hcell1 := cell_of_one hg1
    have hs1 := ht1.size
    have hta := (Touch.refl [] w1).alloc (.cells #[.int .u8 (((le 8 M).length : Int) + 16)] 5)
    have hga := hta.blk hg1 (by simp)
    have hownA := (hown.touch0 ht1).touch0 hta
    have hb1 := RdB.one' w1 (UInt8.ofNat ((le 8 M).length + 16)) (z := ((le 8 M).length : Int) + 16) (by simp; omega)
    have hA1n : ∀ b ∈ fpo A1, b ∉ g :: fpo A := fun b hb hm => by
      have := hf1 b hb
      rcases List.mem_cons.1 hm with h | h
      · omega
      · have := hAl b h; omega
    go_wp2_with (first
      | (at_builtin; refine wpList_appB rfl (.tmp 18) (.tmp 24) rfl A l.length c l rfl rfl hownA (some ⟨w1.heap.size, 0, none⟩) 1 1 [UInt8.ofNat ((le 8 M).length + 16)] rfl rfl hb1 (by omega) ?_; intro A2 c2 w2 hown2 ht2 hf2; have S2 := outStep hga hgA (l.length + 1) (by simp) hown2 ht2 hf2; obtain ⟨hg2, hown2', hgA2, ht2', hcell2, hfree2⟩ := S2; have hrd2 := hown1.rd.touch ((hta.mono (fp2 := g :: fpo A) (by simp)).trans ht2' (fun b hb => .inl hb)) hA1n)
      | (at_builtin; refine wpList_appB rfl (.tmp 32) (.tmp 33) rfl A2 (l.length + 1) c2 (l ++ [UInt8.ofNat ((le 8 M).length + 16)]) (by simp) rfl hown2' A1 (le 8 M).length c1 (le 8 M) rfl rfl hrd2 (by omega) ?_; intro A3 c3 w3 hown3 ht3 hf3; have S3 := outStep hg2 hgA2 (l.length + 1 + (le 8 M).length) (by simp; omega) hown3 ht3 hf3; obtain ⟨hg3, hown3', hgA3, ht3', hcell3, hfree3⟩ := S3))
    go_ret
    refine ⟨rfl, A3, ⟨c3, ?_, ?_, hgA3⟩, ?_, ?_⟩
    · rw [henc.out]; simpa using hg3
    · rw [henc.out]; simpa using hown3'
    · exact (((ht1.mono (fp2 := g :: fpo A) (by simp)).trans0 hta).trans ht2' (fun b hb => .inl hb)).trans ht3' (fun b hb => by
        rcases List.mem_cons.1 hb with h | h
        · exact .inl (by simp [h])
        · rcases hf2 b h with h' | h'
          · exact .inl (by simp [h'])
          · exact .inr (by have := hta.size; omega))
    · intro b hb
      have := ht2'.size
      have := hta.size
      rcases hf3 b hb with h | h
      · rcases hf2 b h with h' | h'
        · exact .inl h'
        · exact .inr (by omega)
      · exact .inr (by omega)
  · obtain ⟨M, rfl⟩ : ∃ M : Nat, n = (M : Int) := ⟨n.toNat, by omega⟩
    have hMl : M < 18446744073709551616 := by omega
    have hl8 := le_length 8 M
    have henc := Lib.hid (encI_pos (M := M))
    go_wp2_with fail
    refine (low_zero M hMl w).mono ?_
    rintro e w1 ⟨A1, c1, rfl, hown1, ht1, hf1⟩
    have hg1 := ht1.blk hg (by simp)
    have hcell1 := cell_of_one hg1
    have hs1 := ht1.size
    have hta := (Touch.refl [] w1).alloc (.cells #[.int .u8 ((le 8 M).length : Int)] 5)
    have hga := hta.blk hg1 (by simp)
    have hownA := (hown.touch0 ht1).touch0 hta
    have hb1 := RdB.one' w1 (UInt8.ofNat ((le 8 M).length)) (z := ((le 8 M).length : Int)) (by simp; omega)
    have hA1n : ∀ b ∈ fpo A1, b ∉ g :: fpo A := fun b hb hm => by
      have := hf1 b hb
      rcases List.mem_cons.1 hm with h | h
      · omega
      · have := hAl b h; omega
    go_wp2_with (first
      | (at_builtin; refine wpList_appB rfl (.tmp 18) (.tmp 24) rfl A l.length c l rfl rfl hownA (some ⟨w1.heap.size, 0, none⟩) 1 1 [UInt8.ofNat ((le 8 M).length)] rfl rfl hb1 (by omega) ?_; intro A2 c2 w2 hown2 ht2 hf2; have S2 := outStep hga hgA (l.length + 1) (by simp) hown2 ht2 hf2; obtain ⟨hg2, hown2', hgA2, ht2', hcell2, hfree2⟩ := S2; have hrd2 := hown1.rd.touch ((hta.mono (fp2 := g :: fpo A) (by simp)).trans ht2' (fun b hb => .inl hb)) hA1n)
      | (at_builtin; refine wpList_appB rfl (.tmp 32) (.tmp 33) rfl A2 (l.length + 1) c2 (l ++ [UInt8.ofNat ((le 8 M).length)]) (by simp) rfl hown2' A1 (le 8 M).length c1 (le 8 M) rfl rfl hrd2 (by omega) ?_; intro A3 c3 w3 hown3 ht3 hf3; have S3 := outStep hg2 hgA2 (l.length + 1 + (le 8 M).length) (by simp; omega) hown3 ht3 hf3; obtain ⟨hg3, hown3', hgA3, ht3', hcell3, hfree3⟩ := S3))
    go_ret
    refine ⟨rfl, A3, ⟨c3, ?_, ?_, hgA3⟩, ?_, ?_⟩
    · rw [henc.out]; simpa using hg3
    · rw [henc.out]; simpa using hown3'
    · exact (((ht1.mono (fp2 := g :: fpo A) (by simp)).trans0 hta).trans ht2' (fun b hb => .inl hb)).trans ht3' (fun b hb => by
        rcases List.mem_cons.1 hb with h | h
        · exact .inl (by simp [h])
        · rcases hf2 b h with h' | h'
          · exact .inl (by simp [h'])
          · exact .inr (by have := hta.size; omega))
    · intro b hb
      have := ht2'.size
      have := hta.size
      rcases hf3 b hb with h | h
      · rcases hf2 b h with h' | h'
        · exact .inl h'
        · exact .inr (by omega)
      · exact .inr (by omega)
end Go.Proofs.YtgpadejkmpfafaaDoor

/- append([]byte, text..): onto bytes that the calls own. -/
namespace Go.Proofs.YtgpadejkmpfafaaDoor
open Go.RowKit

theorem strCells_B (s : ByteArray) : Lib.strCells s = s.data.toList.map B := by
  simp [Lib.strCells, B]

/-- a row just made: these bytes, then room -/
theorem OwnB.made (w : World) (l : List UInt8) (n c : Nat) (rest : Array Value) (hn : l.length = n) (hc : n ≤ c) (hm : c ≤ maxLen) (hr : rest.size = c - n) :
    OwnB (w.alloc (.cells ((l.map B).toArray ++ rest) 5)) (some ⟨w.heap.size, 0, none⟩) c l := by
  subst hn
  refine ⟨by simp, .inr ⟨w.heap.size, c, (l.map B).toArray ++ rest, rfl, Nat.zero_le _, heap_alloc_new w _, hc, hm, ?_, ?_⟩⟩
  · have h1 : ((l.map B).toArray).size = l.length := by rw [List.size_toArray, List.length_map]
    rw [Array.size_append, hr, h1, Nat.mul_one]
    clear hm hr; omega
  · simp only [Array.toList_append, Nat.mul_one]
    have : (l.map B).toArray.toList.length = l.length := by simp
    rw [← this, List.take_left]

theorem run_appStr (A0 : Option Addr) (c0 : Nat) (l : List UInt8) (w : World) (hown : OwnB w A0 c0 l) (s : ByteArray) (hb : l.length + s.size ≤ 140737488355328) (ty : TypeId) :
    ∃ A' c' w', (Builtin.append_ #[22, 9] ty #[.slice A0 l.length c0, .string s]).run Tryd.prog w = .ok (.slice A' (l.length + s.size) c') w' ∧ OwnB w' A' c' (l ++ s.data.toList) ∧ Touch (fpo A0) w w' ∧
      ∀ b ∈ fpo A', b ∈ fpo A0 ∨ b = w.heap.size := by
  obtain ⟨i0, hi0, hz0, hz1, hz2⟩ := info_parts info_u8
  have ht := Tryd.underlying22
  have hu := Tryd.underlying9
  have hsl : s.data.toList.length = s.size := by rw [Array.length_toList]; rfl
  rcases hown.2 with ⟨hv, hn0⟩ | ⟨g, cap, cur, hv, _, hg, hnc, hcm, hcs, htake⟩
  · injection hv with e1 _ e3
    subst e1 e3
    obtain rfl := List.eq_nil_of_length_eq_zero hn0
    by_cases h0 : s.size = 0
    · have hd : s.data.toList = [] := List.eq_nil_of_length_eq_zero (by omega)
      have hf := Lib.run_firstCells_string (P := Tryd.prog) w 1 s
      rw [h0] at hf
      have hcz : Lib.strCells s = [] := by rw [strCells_B, hd]; rfl
      rw [hcz] at hf
      refine ⟨none, 0, w, ?_, by rw [hd]; exact OwnB.nil w, Touch.refl _ _, fun b hb => .inl hb⟩
      simp [Builtin.append_, run_underlying ht, run_underlying hu, sizeOf, typeInfo, hi0, hz1, Builtin.lenOf, h0, hf]
    · have hr := run_append_nil_string (P := Tryd.prog) w 22 9 ty 5 i0 (.int .u8 0) ht hu hi0 hz0 s (by omega) (by omega) (by rw [hz2]; simp at hb; omega)
      have hge := grownCap_ge w s.size 0 5
      have hle := grownCap_le_maxLen w s.size 0 5 (by simp only [maxLen]; simp at hb; omega)
      have hmade := OwnB.made w.drew s.data.toList s.size (grownCap w s.size 0 5) (Builtin.zeroCells (Value.int .u8 0).cells (grownCap w s.size 0 5 - s.size)) hsl hge hle (by rw [size_zeroCells]; simp [Value.cells])
      have hcs : (s.data.map (fun b => Value.int .u8 b.toNat)) = (s.data.toList.map B).toArray := by
        apply Array.ext'
        simp [B]
      rw [hcs] at hr
      refine ⟨some ⟨w.heap.size, 0, none⟩, grownCap w s.size 0 5, _, ?_, hmade, ⟨rfl, rfl, rfl, by simp, fun k hk _ => Below.heap_alloc w.drew _ k hk⟩, fun b hb => .inr (by simpa [fpo] using hb)⟩
      simpa using hr
  · injection hv with e1 _ e3
    subst e1 e3
    have hcs' : cur.size = c0 := by simpa using hcs
    by_cases hroom : l.length + s.size ≤ c0
    · have hr := Lib.run_append_room_string (P := Tryd.prog) w 22 9 ty 5 i0 ht hu hi0 hz1 g l.length c0 cur hg s hroom (by omega)
      refine ⟨some ⟨g, 0, none⟩, c0, _, hr, ⟨by simp, .inr ⟨g, c0, _, ?_, Nat.zero_le _, setRow_heap w g cur _ 5 _ hg, ?_, hcm, ?_, ?_⟩⟩, ⟨rfl, rfl, rfl, by simp, fun k _ hk => setRow_other w g k _ (fun e => hk (by simp [fpo, e]))⟩, fun b hb => .inl hb⟩
      · rw [List.length_append, hsl]
      · rw [List.length_append, hsl]; exact hroom
      · simp only [List.size_toArray, List.length_append, List.length_take, List.length_drop, Array.length_toList, Lib.strCells_length]
        clear hcm; omega
      · have ht' : cur.toList.take l.length = l.map B := by simpa using htake
        rw [ht', strCells_B]
        have : (l.map B ++ s.data.toList.map B).length = (l ++ s.data.toList).length * 1 := by simp
        rw [← this, List.map_append]
        exact List.take_left
    · have holds : ∀ j u, (l.map B)[j]? = some u → w.cell? ((⟨g, 0, none⟩ : Addr).add j) = some u := World.ownsRow.cells hown (g := g) rfl
      have hr := Lib.run_append_grow_string (P := Tryd.prog) w 22 9 ty 5 i0 (.int .u8 0) ht hu hi0 hz0 ⟨g, 0, none⟩ l.length c0 (l.map B) (by rw [hz1]; simp) holds s (by omega) (by omega) (by rw [hz2]; exact growslice_fits (by omega) (by omega))
      have hge := grownCap_ge w (l.length + s.size) c0 5
      have hle := grownCap_le_maxLen w (l.length + s.size) c0 5 (by simp only [maxLen]; omega)
      have hmade := OwnB.made w.drew (l ++ s.data.toList) (l.length + s.size) (grownCap w (l.length + s.size) c0 5) (Builtin.zeroCells (Value.int .u8 0).cells (grownCap w (l.length + s.size) c0 5 - (l.length + s.size))) (by rw [List.length_append, hsl]) hge hle (by rw [size_zeroCells]; simp [Value.cells])
      have e : (l.map B).toArray ++ (Lib.strCells s).toArray = ((l ++ s.data.toList).map B).toArray := by
        rw [strCells_B]; simp
      rw [e] at hr
      exact ⟨some ⟨w.heap.size, 0, none⟩, grownCap w (l.length + s.size) c0 5, _, hr, hmade, ⟨rfl, rfl, rfl, by simp, fun k hk _ => Below.heap_alloc w.drew _ k hk⟩, fun b hb => .inr (by simpa [fpo] using hb)⟩

theorem wpList_appStr {w : World} {ops : Array Oper} {rest : List Oper} {o : Oper} {a : Act} {Q : Exit → Act → World → Prop} (hgd : o.guard = none) (s x : Operand)
    (ho : o.op = .call { callee := .builtin .append, args := #[s, x], argTypes := #[22, 9] })
    (A0 : Option Addr) (n c0 : Nat) (l : List UInt8) (hn : l.length = n) (hs : a.eval s = .slice A0 n c0) (hown : OwnB w A0 c0 l)
    (t : ByteArray) (hx : a.eval x = .string t) (hbytes : n + t.size ≤ 140737488355328)
    (h : ∀ A' c' w', OwnB w' A' c' (l ++ t.data.toList) → Touch (fpo A0) w w' → (∀ b ∈ fpo A', b ∈ fpo A0 ∨ b = w.heap.size) → wpList Tryd.prog ops Q rest (a.put o.dst (.slice A' (n + t.size) c')) w') :
    wpList Tryd.prog ops Q (o :: rest) a w := by
  subst hn
  refine wpList_plain hgd fun _ hK => ?_
  obtain ⟨A', c', w', hrun, h2, h3, h4⟩ := run_appStr A0 c0 l w hown t hbytes o.type
  unfold Oper.wp execOp
  simp only [ho, resolve, invoke, builtin, Sem.run_bind, Sem.run_pure, Result.andThen_ok, List.map_toArray, List.map_cons, List.map_nil, hs, hx, hrun]
  exact hK _ _ (h A' c' w' h2 h3 h4)
end Go.Proofs.YtgpadejkmpfafaaDoor

/- bywashref07.Int: a number's bytes, as the document says. For every number. -/
namespace Go.Proofs.YtgpadejkmpfafaaDoor
open Go.RowKit

theorem OwnB.one' (w : World) (x : UInt8) {z : Int} (h : z = x.toNat) : OwnB (w.alloc (.cells #[.int .u8 z] 5)) (some ⟨w.heap.size, 0, none⟩) 1 [x] := by
  subst h; exact OwnB.new w [x] (by simp [maxLen])

set_option maxHeartbeats 800000 in
theorem refInt_any (n : Int) (h1 : -9223372036854775808 ≤ n) (h2 : n ≤ 9223372036854775807) (w : World) :
    Calls Tryd.prog 13 #[.int .i64 n] w fun e w' => ∃ A c, e = .returned (.slice A (encI n).length c) ∧ OwnB w' A c (encI n) ∧ Touch [] w w' ∧ (∀ b ∈ fpo A, w.heap.size ≤ b) := by
  go_enter Tryd.func13, Tryd.ntmps13
  by_cases hn : n < 0
  · skip
    obtain ⟨M, hM⟩ : ∃ M : Nat, (-1 - n : Int) = (M : Int) := ⟨(-1 - n).toNat, by omega⟩
    have henc := Lib.hid (encI_neg hn hM)
    have hMl : M < 9223372036854775808 := by omega
    have hl8 := le_length 8 M
    go_wp2
    clear hM
    go_loopw [0, 4] (fun n out wr => ∃ k A c, k ≤ 8 ∧ n = .int .i64 (M / 256 ^ k : Nat) ∧ out = .slice A k c ∧ OwnB wr A c (digs M k) ∧ Touch [] w wr ∧ (∀ b ∈ fpo A, w.heap.size ≤ b) ∧ ∀ j, j < k → 0 < M / 256 ^ j)
      (fun _ out _ => match out with | .slice _ k _ => 9 - k | _ => 0)
    case atStart => exact ⟨0, none, 0, by omega, by simp, rfl, OwnB.nil _, Touch.refl _ _, by simp [fpo], by omega⟩
    case round =>
      obtain ⟨k, A, c, hk, rfl, rfl, hown, ht, hfp, hj⟩ := hrel
      obtain ⟨q, hq⟩ : ∃ q, q = M / 256 ^ k := ⟨_, rfl⟩
      have hql : q < 9223372036854775808 := hq ▸ Nat.lt_of_le_of_lt (Nat.div_le_self _ _) hMl
      rw [← hq]
      have h8 : k = 8 → q = 0 := by rintro rfl; rw [hq]; exact Nat.div_eq_of_lt (by simp; omega)
      have H8 := Lib.hid h8; clear h8
      have Hq := Lib.hid hq; clear hq
      have hx : (q : Int) % 256 = ((UInt8.ofNat q).toNat : Int) := by simp
      have Hx := Lib.hid hx; clear hx
      by_cases hq0 : 0 < q
      · have hk8 : k < 8 := by
          rcases Nat.lt_or_ge k 8 with h | h
          · exact h
          · have := H8.out (by omega); omega
        go_wp2_with (at_builtin; refine wpList_appB rfl (.tmp 11) (.tmp 15) rfl A k c (digs M k) (digs_length M k) rfl (hown.touch0 ((Touch.refl _ _).alloc _)) (some ⟨wr.heap.size, 0, none⟩) 1 1 [UInt8.ofNat q] rfl rfl (RdB.one' _ _ Hx.out) (by omega) ?_; intro A1 c1 w1 hown1 ht1 hfp1)
        go_roundw
        case rel => exact ⟨k + 1, A1, c1, by omega, by rw [Nat.pow_succ, ← Nat.div_div_eq_div_mul, ← Hq.out]; go_num, rfl, by rw [digs_snoc, ← Hq.out]; exact hown1,
          (ht.alloc _).trans ht1 (fun b hb => .inr (hfp b hb)), fun b hb => (by
            rcases hfp1 b hb with h | h
            · exact hfp b h
            · have := ht.size; simp at h; omega), fun j hj' => (by
            rcases Nat.lt_or_ge j k with h | h
            · exact hj j h
            · obtain rfl : j = k := by omega
              rw [← Hq.out]; exact hq0)⟩
        case measure => simp; omega
      · obtain rfl : q = 0 := by omega
        have hle : digs M k = le 8 M := digs_le 8 k M hk Hq.out.symm hj
        rw [hle] at hown
        have hkl : k = (le 8 M).length := by rw [← hle, digs_length]
        subst hkl
        have hz : ((16 + ((le 8 M).length : Int))) = (UInt8.ofNat ((le 8 M).length + 16)).toNat := by simp; omega
        have Hz := Lib.hid hz; clear hz
        have hlw := hown.lt
        go_wp2_with (at_builtin; refine wpList_appB rfl (.tmp 24) (.tmp 25) rfl (some ⟨wr.heap.size, 0, none⟩) 1 1 [(UInt8.ofNat ((le 8 M).length + 16))] rfl rfl (OwnB.one' _ _ Hz.out) A (le 8 M).length c (le 8 M) rfl rfl (hown.rd.touch0 ((Touch.refl _ _).alloc _)) (by omega) ?_; intro A1 c1 w1 hown1 ht1 hfp1)
        go_ret
        refine ⟨A1, c1, ?_, ?_, ?_, ?_⟩
        · rw [henc.out]; exact ret_slice (by simp; omega)
        · rw [henc.out]; exact hown1
        · exact (ht.alloc _).trans ht1 (fun b hb => .inr (by have := ht.size; simp [fpo] at hb; omega))
        · intro b hb
          have := ht.size
          rcases hfp1 b hb with h | h
          · simp [fpo] at h; omega
          · simp at h; omega
  · skip
    obtain ⟨M, rfl⟩ : ∃ M : Nat, n = (M : Int) := ⟨n.toNat, by omega⟩
    have henc := Lib.hid (encI_pos (M := M))
    have hMl : M < 9223372036854775808 := by omega
    have hl8 := le_length 8 M
    go_wp2
    go_loopw [0, 4] (fun n out wr => ∃ k A c, k ≤ 8 ∧ n = .int .i64 (M / 256 ^ k : Nat) ∧ out = .slice A k c ∧ OwnB wr A c (digs M k) ∧ Touch [] w wr ∧ (∀ b ∈ fpo A, w.heap.size ≤ b) ∧ ∀ j, j < k → 0 < M / 256 ^ j)
      (fun _ out _ => match out with | .slice _ k _ => 9 - k | _ => 0)
    case atStart => exact ⟨0, none, 0, by omega, by simp, rfl, OwnB.nil _, Touch.refl _ _, by simp [fpo], by omega⟩
    case round =>
      obtain ⟨k, A, c, hk, rfl, rfl, hown, ht, hfp, hj⟩ := hrel
      obtain ⟨q, hq⟩ : ∃ q, q = M / 256 ^ k := ⟨_, rfl⟩
      have hql : q < 9223372036854775808 := hq ▸ Nat.lt_of_le_of_lt (Nat.div_le_self _ _) hMl
      rw [← hq]
      have h8 : k = 8 → q = 0 := by rintro rfl; rw [hq]; exact Nat.div_eq_of_lt (by simp; omega)
      have H8 := Lib.hid h8; clear h8
      have Hq := Lib.hid hq; clear hq
      have hx : (q : Int) % 256 = ((UInt8.ofNat q).toNat : Int) := by simp
      have Hx := Lib.hid hx; clear hx
      by_cases hq0 : 0 < q
      · have hk8 : k < 8 := by
          rcases Nat.lt_or_ge k 8 with h | h
          · exact h
          · have := H8.out (by omega); omega
        go_wp2_with (at_builtin; refine wpList_appB rfl (.tmp 11) (.tmp 15) rfl A k c (digs M k) (digs_length M k) rfl (hown.touch0 ((Touch.refl _ _).alloc _)) (some ⟨wr.heap.size, 0, none⟩) 1 1 [UInt8.ofNat q] rfl rfl (RdB.one' _ _ Hx.out) (by omega) ?_; intro A1 c1 w1 hown1 ht1 hfp1)
        go_roundw
        case rel => exact ⟨k + 1, A1, c1, by omega, by rw [Nat.pow_succ, ← Nat.div_div_eq_div_mul, ← Hq.out]; go_num, rfl, by rw [digs_snoc, ← Hq.out]; exact hown1,
          (ht.alloc _).trans ht1 (fun b hb => .inr (hfp b hb)), fun b hb => (by
            rcases hfp1 b hb with h | h
            · exact hfp b h
            · have := ht.size; simp at h; omega), fun j hj' => (by
            rcases Nat.lt_or_ge j k with h | h
            · exact hj j h
            · obtain rfl : j = k := by omega
              rw [← Hq.out]; exact hq0)⟩
        case measure => simp; omega
      · obtain rfl : q = 0 := by omega
        have hle : digs M k = le 8 M := digs_le 8 k M hk Hq.out.symm hj
        rw [hle] at hown
        have hkl : k = (le 8 M).length := by rw [← hle, digs_length]
        subst hkl
        have hz : (((le 8 M).length : Int)) = (UInt8.ofNat ((le 8 M).length)).toNat := by simp; omega
        have Hz := Lib.hid hz; clear hz
        have hlw := hown.lt
        go_wp2_with (at_builtin; refine wpList_appB rfl (.tmp 24) (.tmp 25) rfl (some ⟨wr.heap.size, 0, none⟩) 1 1 [(UInt8.ofNat ((le 8 M).length))] rfl rfl (OwnB.one' _ _ Hz.out) A (le 8 M).length c (le 8 M) rfl rfl (hown.rd.touch0 ((Touch.refl _ _).alloc _)) (by omega) ?_; intro A1 c1 w1 hown1 ht1 hfp1)
        go_ret
        refine ⟨A1, c1, ?_, ?_, ?_, ?_⟩
        · rw [henc.out]; exact ret_slice (by simp; omega)
        · rw [henc.out]; exact hown1
        · exact (ht.alloc _).trans ht1 (fun b hb => .inr (by have := ht.size; simp [fpo] at hb; omega))
        · intro b hb
          have := ht.size
          rcases hfp1 b hb with h | h
          · simp [fpo] at h; omega
          · simp at h; omega
end Go.Proofs.YtgpadejkmpfafaaDoor

/- frame.Out.Text, bywashref07.Text: a text's bytes. For every text. -/
namespace Go.Proofs.YtgpadejkmpfafaaDoor
open Go.RowKit

/-- a text's bytes -/
def encT (s : ByteArray) : List UInt8 := encI s.size ++ s.data.toList
theorem encI_length (n : Int) : 1 ≤ (encI n).length ∧ (encI n).length ≤ 9 := by
  unfold encI
  have := le_length 8 (if n < 0 then (-1 - n).toNat else n.toNat)
  simp; omega
theorem encT_length (s : ByteArray) : (encT s).length = (encI s.size).length + s.size := by
  unfold encT; rw [List.length_append, size_toList]

set_option maxHeartbeats 400000 in
theorem refText_any (s : ByteArray) (hs : s.size ≤ 140737488000000) (w : World) :
    Calls Tryd.prog 15 #[.string s] w fun e w' => ∃ A c, e = .returned (.slice A (encT s).length c) ∧ OwnB w' A c (encT s) ∧ Touch [] w w' ∧ (∀ b ∈ fpo A, w.heap.size ≤ b) := by
  go_enter Tryd.func15, Tryd.ntmps15
  have hL := encI_length s.size
  have hT := encT_length s
  go_wp2_with fail
  refine (refInt_any s.size (by omega) (by omega) w).mono ?_
  rintro e w1 ⟨A1, c1, rfl, hown1, ht1, hf1⟩
  have Hd := Lib.hid (show encT s = encI s.size ++ s.data.toList from rfl)
  go_wp2_with (at_builtin; refine stop ?_)
  refine go ?_
  refine wpList_appStr rfl (.tmp 5) (.tmp 6) rfl A1 (encI s.size).length c1 (encI s.size) rfl rfl hown1 s rfl (by omega) ?_
  intro A2 c2 w2 hown2 ht2 hf2
  go_wp2_with fail
  go_ret
  refine ⟨A2, c2, ret_slice hT.symm, hown2, ht1.trans ht2 (fun b hb => .inr (hf1 b hb)), fun b hb => ?_⟩
  have := ht1.size
  rcases hf2 b hb with h | h
  · exact hf1 b h
  · omega

set_option maxHeartbeats 400000 in
theorem outText_any (g : Nat) (A : Option Addr) (l : List UInt8) (s : ByteArray) (hl : l.length + s.size ≤ 140737487900000) (w : World) (ho : OutAt w g A l) :
    Calls Tryd.prog 14 #[.pointer (some ⟨g, 0, none⟩), .string s] w fun e w' => e = .returned (.pointer (some ⟨g, 0, none⟩)) ∧ OutPost g A (l ++ encT s) w w' := by
  go_enter Tryd.func14, Tryd.ntmps14
  have hL := encI_length s.size
  have hT := encT_length s
  have hgl : g < w.heap.size := by obtain ⟨c, hg, _⟩ := ho; exact lt_of_block hg
  go_wp2_with fail
  refine (outInt_any g A l s.size (by omega) (by omega) (by omega) w ho).mono ?_
  rintro e w1 ⟨rfl, A1, ⟨c1, hg1, hown1, hgA1⟩, ht1, hf1⟩
  have hcell1 := cell_of_one hg1
  have hfree1 := free_of_one hg1
  have hlen1 : (l ++ encI s.size).length = l.length + (encI s.size).length := by simp
  go_wp2_with (at_builtin; refine stop ?_)
  refine go ?_
  refine wpList_appStr rfl (.tmp 13) (.tmp 14) rfl A1 (l.length + (encI s.size).length) c1 (l ++ encI s.size) hlen1 rfl hown1 s rfl (by omega) ?_
  intro A2 c2 w2 hown2 ht2 hf2
  obtain ⟨hg3, hown3, hgA3, ht3, hcell3, hfree3⟩ := outStep hg1 hgA1 (l.length + (encI s.size).length + s.size) (by rw [List.length_append, size_toList, hlen1]) hown2 ht2 hf2
  have hs1 := ht1.size
  go_wp2_with fail
  go_ret
  have he : l ++ encT s = (l ++ encI s.size) ++ s.data.toList := by unfold encT; rw [List.append_assoc]
  refine ⟨rfl, A2, ⟨c2, ?_, ?_, hgA3⟩, ht1.trans ht3 (fun b hb => ?_), fun b hb => ?_⟩
  · rw [he]; exact hg3
  · rw [he]; exact hown3
  · rcases List.mem_cons.1 hb with h | h
    · exact .inl (by simp [h])
    · rcases hf1 b h with h' | h'
      · exact .inl (by simp [h'])
      · exact .inr h'
  · rcases hf2 b hb with h | h
    · exact hf1 b h
    · exact .inr (by omega)
end Go.Proofs.YtgpadejkmpfafaaDoor

/- bytes.Clone: a copy of its own. For every slice of bytes. -/
namespace Go.Proofs.YtgpadejkmpfafaaDoor
open Go.RowKit

def CloneAt (l : List UInt8) (w w' : World) (A : Option Addr) (c : Nat) : Prop := OwnB w' A c l ∧ Touch [] w w' ∧ ∀ b ∈ fpo A, w.heap.size ≤ b

set_option maxHeartbeats 400000 in
theorem clone_any (A : Option Addr) (c : Nat) (l : List UInt8) (w : World) (h : RdB w A l) (hl : l.length ≤ 140737488000000) :
    Calls Tryd.prog 40 #[.slice A l.length c] w fun e w' => ∃ A' c', e = .returned (.slice A' l.length c') ∧ CloneAt l w w' A' c' := by
  go_enter Tryd.func40, Tryd.ntmps40
  rcases A with _ | ad
  · have h0 : l = [] := by
      rcases List.eq_nil_or_concat l with h0 | ⟨m, b, h0⟩
      · exact h0
      · obtain ⟨_, hx, _⟩ := h (by subst h0; simp)
        cases hx
    subst h0
    clear hl h
    have hnil : (binOp .eql 22 (.slice none 0 c) (.slice none 0 0)).run Tryd.prog w = .ok (.bool true) w := Lib.run_eql_slice_nil (P := Tryd.prog) w 22 5 none 0 c 0 0 Tryd.underlying22
    go_wp2
    go_ret
    exact ⟨none, 0, rfl, OwnB.nil _, Touch.refl _ _, by simp [fpo]⟩
  · have hnil : (binOp .eql 22 (.slice (some ad) l.length c) (.slice none 0 0)).run Tryd.prog w = .ok (.bool false) w := Lib.run_eql_slice_nil (P := Tryd.prog) w 22 5 (some ad) l.length c 0 0 Tryd.underlying22
    go_wp2_with (at_builtin; refine wpList_appB rfl (.tmp 5) (.tmp 6) rfl (some ⟨w.heap.size, 0, none⟩) 0 0 [] rfl rfl (OwnB.empty_new w) (some ad) l.length c l rfl rfl (h.touch0 ((Touch.refl [] w).alloc _)) (by omega) ?_; intro A1 c1 w1 hown1 ht1 hf1)
    go_ret
    exact ⟨A1, c1, ret_slice (by simp), hown1, ((Touch.refl [] w).alloc _).trans ht1 (by simp [fpo]), fun b hb => by
      rcases hf1 b hb with h | h
      · simp [fpo] at h; omega
      · simp at h; omega⟩
theorem clone_len (A : Option Addr) (n c : Nat) (l : List UInt8) (hn : l.length = n) (w : World) (h : RdB w A l) (hl : n ≤ 140737488000000) :
    Calls Tryd.prog 40 #[.slice A n c] w fun e w' => ∃ A' c', e = .returned (.slice A' n c') ∧ CloneAt l w w' A' c' := by
  subst hn
  exact clone_any A c l w h hl
theorem RdB.take {w : World} {A : Option Addr} {l : List UInt8} (h : RdB w A l) (k : Nat) : RdB w A (l.take k) := by
  have := Rd.cut h (A' := A) (k := 0) (n := k) (fun ad e _ => by rw [e]; simp [Addr.add])
  unfold RdB
  rw [List.map_take]
  simpa using this
end Go.Proofs.YtgpadejkmpfafaaDoor

/- frame.In: NewIn, take, Done, Bad. -/
namespace Go.Proofs.YtgpadejkmpfafaaDoor
open Go.RowKit

/-- what an In holds: the bytes that are left, and whether it is bad -/
structure InAt (w : World) (g : Nat) (A : Option Addr) (l : List UInt8) (bad : Bool) : Prop where
  blk : ∃ c, l.length ≤ c ∧ w.heap[g]? = some (.cells #[.slice A l.length c, .bool bad] 76 (0, 0))
  rd : RdB w A l
  ne : g ∉ fpo A
  sm : l.length ≤ 140737488000000

theorem InAt.touch {w w' : World} {g : Nat} {A : Option Addr} {l : List UInt8} {bad : Bool} {fp : List Nat} (h : InAt w g A l bad) (ht : Touch fp w w') (hg : g ∉ fp) (hA : ∀ b ∈ fpo A, b ∉ fp) : InAt w' g A l bad := by
  obtain ⟨⟨c, hc, hb⟩, hr, hn, hs⟩ := h
  exact ⟨⟨c, hc, ht.blk hb hg⟩, hr.touch ht hA, hn, hs⟩

/-- the outcome of a call that reads on -/
def InPost (g : Nat) (A : Option Addr) (l : List UInt8) (bad : Bool) (w w' : World) : Prop :=
  ∃ A', InAt w' g A' l bad ∧ Touch [g] w w' ∧ ∀ b ∈ fpo A', b ∈ fpo A

theorem InAt.mk' {w : World} {g : Nat} {A : Option Addr} {l : List UInt8} {bad : Bool} (hi : InAt w g A l bad) : ∃ c, l.length ≤ c ∧ w.heap[g]? = some (.cells #[.slice A l.length c, .bool bad] 76 (0, 0)) ∧
    g < w.heap.size ∧ w.cell? ⟨g, 0, none⟩ = some (.slice A l.length c) ∧ w.cell? ⟨g, 1, none⟩ = some (.bool bad) ∧ w.frozen? ⟨g, 0, none⟩ = false ∧ w.frozen? ⟨g, 1, none⟩ = false := by
  obtain ⟨⟨c, hc, hg⟩, hr, hne, hsm⟩ := hi
  exact ⟨c, hc, hg, lt_of_block hg, by rw [cell_of_row _ _ _ _ _ _ hg]; rfl, by rw [cell_of_row _ _ _ _ _ _ hg]; rfl, by simp [World.frozen?, hg], by simp [World.frozen?, hg]⟩

theorem InAt.spoil {w : World} {g : Nat} {A : Option Addr} {l : List UInt8} {bad : Bool} (hi : InAt w g A l bad) : InPost g A l true w (w.setCell ⟨g, 1, none⟩ (.bool true)) := by
  obtain ⟨⟨c, hc, hg⟩, hr, hne, hsm⟩ := hi
  have T1 := (Touch.refl [g] w).setCell (p := ⟨g, 1, none⟩) (.inl (by simp)) (.bool true)
  exact ⟨A, ⟨⟨c, hc, heap_setCell_same w g 1 _ _ _ hg⟩, hr.touch T1 (fun b hb hm => hne ((by simpa using hm : b = g) ▸ hb)), hne, hsm⟩, T1, fun b hb => hb⟩

theorem RdB.pre {w : World} {A : Option Addr} {l : List UInt8} (h : RdB w A l) (k : Nat) : RdB w A (l.take k) := by
  have := Rd.cut h (A' := A) (k := 0) (n := k) (fun ad e _ => by rw [e]; simp [Addr.add])
  unfold RdB
  rw [List.map_take]
  simpa using this
theorem RdB.drop {w : World} {A : Option Addr} {l : List UInt8} (h : RdB w A l) (k : Nat) : RdB w (A.map (fun x => x.add k)) (l.drop k) := by
  have := Rd.cut h (A' := A.map (fun x => x.add k)) (k := k) (n := l.length) (fun ad e _ => by rw [e]; rfl)
  unfold RdB
  rw [List.map_drop]
  rwa [List.take_of_length_le (by simp)] at this

theorem InAt.on {w : World} {g : Nat} {A : Option Addr} {l : List UInt8} {c : Nat} (hi : InAt w g A l false) (hg : w.heap[g]? = some (.cells #[.slice A l.length c, .bool false] 76 (0, 0))) (k n m : Nat) (A' : Option Addr)
    (hk : k ≤ l.length) (hn : n = l.length - k) (hm : n ≤ m) (hA : A' = A.map (fun x => x.add k) ∨ n = 0 ∧ (A' = A ∨ A' = none)) : InPost g A (l.drop k) false w (w.setCell ⟨g, 0, none⟩ (.slice A' n m)) := by
  obtain ⟨_, hr, hne, hsm⟩ := hi
  have T1 := (Touch.refl [g] w).setCell (p := ⟨g, 0, none⟩) (.inl (by simp)) (.slice A' n m)
  have hl : (l.drop k).length = n := by simp [hn]
  have hf : ∀ b ∈ fpo A', b ∈ fpo A := by
    rcases hA with rfl | ⟨_, rfl | rfl⟩
    · cases A with
      | none => simp [fpo]
      | some ad => simp [fpo, block_of_add]
    · exact fun _ h => h
    · simp [fpo]
  have hr' : RdB w A' (l.drop k) := by
    rcases hA with rfl | ⟨h0, _⟩
    · exact hr.drop k
    · rw [List.eq_nil_of_length_eq_zero (hl.trans h0)]; exact Rd.nil _ _
  refine ⟨A', ⟨⟨m, by omega, ?_⟩, hr'.touch T1 (fun b hb hm => hne ((by simpa using hm : b = g) ▸ hf b hb)), fun h => hne (hf _ h), by omega⟩, T1, hf⟩
  rw [hl]
  exact heap_setCell_same w g 0 _ _ _ hg

set_option maxHeartbeats 400000 in
theorem take_no (g : Nat) (A : Option Addr) (l : List UInt8) (bad : Bool) (n : Int) (h1 : -9223372036854775808 ≤ n) (h2 : n ≤ 9223372036854775807) (w : World) (hi : InAt w g A l bad) (hno : bad = true ∨ n < 0 ∨ l.length < n) :
    Calls Tryd.prog 41 #[.pointer (some ⟨g, 0, none⟩), .int .i64 n] w fun e w' => e = .returned (.slice none 0 0) ∧ InPost g A l true w w' := by
  obtain ⟨c, hc, hg, hgl, hc0, hc1, hfr, hfr1⟩ := hi.mk'
  have P1 := hi.spoil
  have hsm := hi.sm
  clear hi hg
  go_enter Tryd.func41, Tryd.ntmps41
  cases bad
  · by_cases hn : n < 0
    · go_wp2
      go_ret
      exact ⟨rfl, P1⟩
    · obtain ⟨k, rfl⟩ : ∃ k : Nat, n = (k : Int) := ⟨n.toNat, by omega⟩
      have hk : ¬ k ≤ l.length := by rcases hno with h | h | h <;> first | cases h | omega
      clear hno
      go_wp2
      go_ret
      exact ⟨rfl, P1⟩
  · go_wp2
    go_ret
    exact ⟨rfl, P1⟩

set_option maxHeartbeats 400000 in
theorem take_ok (g : Nat) (A : Option Addr) (l : List UInt8) (k : Nat) (hk : k ≤ l.length) (w : World) (hi : InAt w g A l false) :
    Calls Tryd.prog 41 #[.pointer (some ⟨g, 0, none⟩), .int .i64 k] w fun e w' => (∃ A0, e = .returned (.slice A0 k k) ∧ RdB w A0 (l.take k) ∧ (∀ b ∈ fpo A0, b ∈ fpo A)) ∧ InPost g A (l.drop k) false w w' := by
  obtain ⟨c, hc, hg, hgl, hc0, hc1, hfr, hfr1⟩ := hi.mk'
  have P1 := fun k n m A' => hi.on hg k n m A'
  have hsm := hi.sm
  have hr := RdB.pre hi.rd k
  clear hi hg
  go_enter Tryd.func41, Tryd.ntmps41
  by_cases hck : c = k
  · subst hck
    go_wp2
    go_ret
    exact ⟨⟨A, rfl, hr, fun b hb => hb⟩, P1 c 0 0 A hk (by omega) (by omega) (.inr ⟨rfl, .inl rfl⟩)⟩
  · go_wp2
    go_ret
    exact ⟨⟨A, rfl, hr, fun b hb => hb⟩, P1 k _ _ _ hk rfl (by omega) (.inl rfl)⟩

theorem bad_any (g : Nat) (A : Option Addr) (l : List UInt8) (bad : Bool) (w : World) (hi : InAt w g A l bad) :
    Calls Tryd.prog 21 #[.pointer (some ⟨g, 0, none⟩)] w fun e w' => e = .returned (.bool bad) ∧ w' = w := by
  obtain ⟨c, hc, hg, hgl, hc0, hc1, hfr, hfr1⟩ := hi.mk'
  clear hi hg
  go_enter Tryd.func21, Tryd.ntmps21
  go_wp2
  go_ret
  exact ⟨rfl, rfl⟩

theorem done_any (g : Nat) (A : Option Addr) (l : List UInt8) (bad : Bool) (w : World) (hi : InAt w g A l bad) :
    Calls Tryd.prog 20 #[.pointer (some ⟨g, 0, none⟩)] w fun e w' => e = .returned (.bool (!bad && decide (l.length = 0))) ∧ w' = w := by
  obtain ⟨c, hc, hg, hgl, hc0, hc1, hfr, hfr1⟩ := hi.mk'
  have hsm := hi.sm
  clear hi hg
  go_enter Tryd.func20, Tryd.ntmps20
  have hd : ((l.length : Int) == 0) = decide (l.length = 0) := by rw [Bool.eq_iff_iff]; simp
  have Hd := Lib.hid hd; clear hd
  cases bad
  · go_wp2
    go_ret
    exact ⟨ret_bool Hd.out, rfl⟩
  · go_wp2
    go_ret
    exact ⟨rfl, rfl⟩

set_option maxHeartbeats 400000 in
theorem newIn_any (A : Option Addr) (n c : Nat) (l : List UInt8) (hn : l.length = n) (hl : n ≤ 140737488000000) (w : World) (h : RdB w A l) :
    Calls Tryd.prog 17 #[.slice A n c] w fun e w' => ∃ g A', e = .returned (.pointer (some ⟨g, 0, none⟩)) ∧ InAt w' g A' l false ∧ Touch [] w w' ∧ w.heap.size ≤ g ∧ ∀ b ∈ fpo A', w.heap.size ≤ b := by
  subst hn
  go_enter Tryd.func17, Tryd.ntmps17
  go_wp2_with (go_at_call 40; refine (clone_any A c l w h hl).mono ?_; rintro e w1 ⟨A1, c1, rfl, h1⟩)
  obtain ⟨hown1, ht1, hf1⟩ := h1
  go_ret
  exact ⟨w1.heap.size, A1, rfl, ⟨⟨c1, hown1.le, heap_alloc_new w1 _⟩, hown1.rd.touch0 ((Touch.refl [] w1).alloc _), fun hm => by have := hown1.lt _ hm; omega, hl⟩, ht1.alloc _, ht1.size, hf1⟩
end Go.Proofs.YtgpadejkmpfafaaDoor
