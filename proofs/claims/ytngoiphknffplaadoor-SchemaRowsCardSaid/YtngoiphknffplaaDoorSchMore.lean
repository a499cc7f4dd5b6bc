/- bywashref02.Fits; schema.Schema.Types, Equal: for every schema and row. -/
import Derived.Test.YtngoiphknffplaaDoorSchFits
import Derived.Laws.StructEq
namespace Go.Proofs.YtngoiphknffplaaDoor
open Go.RowKit

set_option maxRecDepth 20000 in
set_option maxHeartbeats 6400000 in
theorem refFits_any (A : Option Addr) (cap n : Nat) (cs : List CD) (hn : cs.length = n) (B : Option Addr) (bcap m : Nat) (vs : List VD) (hm : vs.length = m) (hvk : ∀ v ∈ vs, v.Ok 140737000000000)
    (w : World) (h : ColsAt w A cs) (hv : ValsAt w B vs) (hl : n ≤ 140737000000000) (hl2 : m ≤ 140737000000000) :
    Calls Tryd.prog 26 #[.slice A n cap, .slice B m bcap] w fun e w' => e = .returned (.bool (fitR cs vs)) ∧ Touch [] w w' := by
  subst hn hm
  by_cases hlen : vs.length = cs.length
  · have Hlen := Lib.hid hlen
    have hq : ((cs.length : Int) == (vs.length : Int)) = true := by rw [beq_iff_eq]; omega
    have hq' : ((cs.length : Int) != (vs.length : Int)) = false := by rw [bne, hq]; rfl
    clear hlen
    go_enter Tryd.func26, Tryd.ntmps26
    go_wp2
    clear hq hq'
    go_loopw [5] (fun i wr => ∃ k : Nat, k ≤ cs.length ∧ i = .int .i64 k ∧ Hid (((List.zipWith fitC cs vs).take k).all id = true) ∧ Touch [] w wr) (fun i _ => cs.length - (intOf i).toNat)
    case atStart => exact ⟨0, by omega, rfl, Lib.hid rfl, Touch.refl _ _⟩
    case round =>
      obtain ⟨k, hk, rfl, Hall, ht⟩ := hrel
      by_cases hlt2 : k < cs.length
      · have hlt : k < vs.length := by have := Hlen.out; omega
        obtain ⟨ad, b, off, rfl, hadd, c0, c1⟩ := (h.touch0 ht).at_ k hlt2
        obtain ⟨bd, b2, off2, rfl, hadd2, d0, d1, d2⟩ := (hv.touch0 ht).at_ k hlt
        have hno := fit_no hlt2 hlt
        have hyes := fit_yes hlt2 hlt Hall.out
        have hvok := hvk _ (List.getElem_mem hlt)
        obtain ⟨c, hce⟩ : ∃ c, c = cs[k] := ⟨_, rfl⟩
        obtain ⟨v, hve⟩ : ∃ v, v = vs[k] := ⟨_, rfl⟩
        rw [← hce] at c0 c1 hno hyes
        rw [← hve] at d0 d1 d2 hno hyes hvok
        have Hno := Lib.hid hno; have Hyes := Lib.hid hyes
        obtain ⟨_, _, hvt⟩ := hvok
        obtain ⟨kd, nm, tx⟩ := v
        simp only at d0 d1 d2 hvt
        have g0 := TW.cell d0
        have g1 := TW.cell d1
        have g2 := TW.cell d2
        have g3 := TW.cell c1
        clear hce hve hno hyes Hall c0 c1 d0 d1 d2
        have hright := fun w' => refRight_any ⟨kd, nm, tx⟩ hvt w'
        simp only [VD.val] at hright
        have hkI0 : (0 : Int) ≤ (k : Int) := by omega
        have hkI : (k : Int) < (cs.length : Int) := by omega
        have hkI2 : (k : Int) < (vs.length : Int) := by omega
        rcases hvr : VD.right ⟨kd, nm, tx⟩ with _ | _
        · have Hf := Lib.hid (Hno.out (by unfold fitC; rw [hvr]; rfl))
          rw [hvr] at hright
          have Hright := Lib.hid hright; clear hright hvr
          go_wp2
          refine wp_region_tw wr (Touch.refl _ _) (by kernel_rfl) (by kernel_rfl) ?_
          repeat (go_big_quiet_step (((go_at_call 43; exact Calls.tw _ (Hright.out _)))))
          refine wpQuiet_nil ?_
          rintro _ ⟨x2, rfl⟩
          go_wp2
          go_ret
          exact ⟨ret_bool (by rw [Hf.out]), ht.trans0 x2.t⟩
        · have Hr := Lib.hid hvr
          rw [hvr] at hright
          have Hright := Lib.hid hright; clear hright hvr
          by_cases hk0 : kd = 0
          · subst hk0
            have Ha := Lib.hid (Hyes.out (by unfold fitC; rw [Hr.out]; rfl))
            go_wp2
            refine wp_region_tw wr (Touch.refl _ _) (by kernel_rfl) (by kernel_rfl) ?_
            repeat (go_big_quiet_step (((go_at_call 43; exact Calls.tw _ (Hright.out _)))))
            refine wpQuiet_nil ?_
            rintro _ ⟨x2, rfl⟩
            go_wp2
            go_roundw
            case rel => exact ⟨k + 1, by omega, by go_num, Ha, ht.trans0 x2.t⟩
            case measure => simp [intOf]; omega
          · have q0 : (kd == 0) = false := by rw [beq_eq_false_iff_ne]; exact hk0
            have q0' : (kd != 0) = true := by rw [bne, q0]; rfl
            by_cases hkt : kd = c.typ
            · have Ha := Lib.hid (Hyes.out (by unfold fitC; rw [Hr.out]; simp [hkt]))
              have q1 : (kd == c.typ) = true := by rw [beq_iff_eq]; exact hkt
              have q1' : (kd != c.typ) = false := by rw [bne, q1]; rfl
              clear hk0 hkt
              go_wp2
              refine wp_region_tw wr (Touch.refl _ _) (by kernel_rfl) (by kernel_rfl) ?_
              repeat (go_big_quiet_step (((go_at_call 43; exact Calls.tw _ (Hright.out _)))))
              refine wpQuiet_nil ?_
              rintro _ ⟨x2, rfl⟩
              go_wp2
              go_roundw
              case rel => exact ⟨k + 1, by omega, by go_num, Ha, ht.trans0 x2.t⟩
              case measure => simp [intOf]; omega
            · have Hf := Lib.hid (Hno.out (by unfold fitC; rw [Hr.out]; simp [hkt, hk0]))
              have q1 : (kd == c.typ) = false := by rw [beq_eq_false_iff_ne]; exact hkt
              have q1' : (kd != c.typ) = true := by rw [bne, q1]; rfl
              clear hk0 hkt
              go_wp2
              refine wp_region_tw wr (Touch.refl _ _) (by kernel_rfl) (by kernel_rfl) ?_
              repeat (go_big_quiet_step (((go_at_call 43; exact Calls.tw _ (Hright.out _)))))
              refine wpQuiet_nil ?_
              rintro _ ⟨x2, rfl⟩
              go_wp2
              go_ret
              exact ⟨ret_bool (by rw [Hf.out]), ht.trans0 x2.t⟩
      · obtain rfl : k = cs.length := by omega
        have hall := Hall.out
        rw [List.take_of_length_le (by rw [List.length_zipWith]; omega)] at hall
        have Hf := Lib.hid (show fitR cs vs = true by unfold fitR; rw [hall, decide_eq_true Hlen.out]; rfl)
        clear hall Hall
        go_wp2
        go_ret
        exact ⟨ret_bool (by rw [Hf.out]), ht⟩
  · have Hf := Lib.hid (show fitR cs vs = false by unfold fitR; rw [decide_eq_false hlen]; rfl)
    have hq : ((cs.length : Int) == (vs.length : Int)) = false := by rw [beq_eq_false_iff_ne]; omega
    have hq' : ((cs.length : Int) != (vs.length : Int)) = true := by rw [bne, hq]; rfl
    clear hlen
    go_enter Tryd.func26, Tryd.ntmps26
    go_wp2
    go_ret
    exact ⟨ret_bool (by rw [Hf.out]), Touch.refl _ _⟩

/-- a number's cell -/
def inE (n : Int) : List Value := [.int .i64 n]
theorem inE_length (n : Int) : (inE n).length = 1 := rfl
theorem inE_one (n : Int) : ∀ u ∈ inE n, u.oneCell' = true := by
  intro u hu
  obtain rfl : u = .int .i64 n := by simpa [inE] using hu
  rfl
theorem RdKI.at_ {w : World} {A : Option Addr} {l : List Int} (h : RdK inE w A l) (i : Nat) (hi : i < l.length) : ∃ ad, A = some ad ∧ w.cell? (ad.add i) = some (.int .i64 l[i]) := by
  obtain ⟨ad, b, off, h1, h2, _, h3⟩ := RdK.at_ h 1 inE_length (by omega) i hi
  rw [Nat.mul_one] at h2
  exact ⟨ad, h1, by rw [h2]; exact h3 0 _ rfl⟩
theorem info_int : (Tryd.prog.info? 3).map (fun i => (i.zero, i.size, i.bytes)) = some (some (.int .i64 0), 1, 8) := by kernel_rfl

set_option maxHeartbeats 1600000 in
theorem types_any (A : Option Addr) (cap n : Nat) (cs : List CD) (hn : cs.length = n) (w : World) (h : ColsAt w A cs) (hl : n ≤ 100000000) :
    Calls Tryd.prog 23 #[.slice A n cap] w fun e w' => ∃ A' c', e = .returned (.slice A' n c') ∧ Made 3 1 inE (cs.map (·.typ)) A' c' w w' := by
  subst hn
  go_enter Tryd.func23, Tryd.ntmps23
  go_wp2
  go_loopw [3, 8] (fun v i wr => ∃ (k : Nat) (A' : Option Addr) (c' : Nat), k ≤ cs.length ∧ i = .int .i64 k ∧ v = .slice A' k c' ∧ Made 3 1 inE ((cs.take k).map (·.typ)) A' c' w wr) (fun _ i _ => cs.length - (intOf i).toNat)
  case atStart => exact ⟨0, none, 0, by omega, rfl, rfl, Made.nil _ _ _ _⟩
  case round =>
    obtain ⟨k, A', c', hk, rfl, rfl, hmd⟩ := hrel
    have ht := hmd.t
    by_cases hlt : k < cs.length
    · obtain ⟨ad, b, off, rfl, hadd, c0, c1⟩ := (h.touch0 ht).at_ k hlt
      have hsn : (cs.take (k + 1)).map (·.typ) = (cs.take k).map (·.typ) ++ [cs[k].typ] := by rw [List.take_succ_eq_append_getElem hlt, List.map_append]; rfl
      obtain ⟨c, hce⟩ : ∃ c, c = cs[k] := ⟨_, rfl⟩
      rw [← hce] at c0 c1 hsn
      have Hsn := Lib.hid hsn; have Hlen := Lib.hid (show ((cs.take k).map (·.typ)).length = k by rw [List.length_map, List.length_take]; omega)
      clear hce hsn
      go_wp2_with (at_builtin; refine stop ?_)
      refine go ?_
      have tb := ((Touch.refl [] wr).alloc (.cells #[.string c.name, .int .i64 c.typ] 38)).alloc (.cells #[.int .i64 c.typ] 3)
      refine wpList_appK rfl (.tmp 12) (.tmp 15) 36 rfl 3 _ 1 8 info_int Tryd.underlying36 rfl (by omega) inE_length inE_one A' k c' _ Hlen.out rfl (hmd.own.touch0 tb)
        (some ⟨wr.heap.size + 1, 0, none⟩) 1 1 [c.typ] rfl rfl (by have := RdK.one (enc := inE) (wr.alloc (.cells #[.string c.name, .int .i64 c.typ] 38)) 3 c.typ #[.int .i64 c.typ] rfl; rwa [World.size_alloc] at this) (by omega) (by omega) ?_
      intro A3 c3 w3 hown3 ht3 hf3
      go_wp2
      go_roundw
      case rel => exact ⟨k + 1, A3, c3, by omega, by go_num, rfl, by rw [Hsn.out]; exact (hmd.touch0 tb).step hown3 ht3 hf3⟩
      case measure => simp [intOf]; omega
    · obtain rfl : k = cs.length := by omega
      rw [List.take_length] at hmd
      go_wp2
      go_ret
      exact ⟨A', c', rfl, hmd⟩

/-- are two columns one? -/
def eqC (a b : CD) : Bool := decide (a.name = b.name) && decide (a.typ = b.typ)
theorem eqC_iff (a b : CD) : eqC a b = true ↔ a = b := by
  obtain ⟨an, aty⟩ := a
  obtain ⟨bn, bty⟩ := b
  simp [eqC]
theorem eqIn_col (a b : CD) (w : World) : (Op.equalIn 10000 38 (.agg #[.string a.name, .int .i64 a.typ]) (.agg #[.string b.name, .int .i64 b.typ])).run Tryd.prog w = .ok (eqC a b) w := by
  have hS : Tryd.prog.underlying 38 = some (.struct (Tryd.prog.fieldsOf 38)) := by kernel_rfl
  have hp : Tryd.prog.stoodInHeld 38 = false := by kernel_rfl
  rw [show (10000 : Nat) = 9999 + 1 from rfl, run_equalIn_agg w 9999 38 _ _ hS hp]
  simp only [Program.fieldsOf, Tryd.underlying38]
  have hs := bs_beq a.name b.name
  go_simp
  by_cases h1 : a.name = b.name <;> by_cases h2 : a.typ = b.typ <;> simp [eqC, h1, h2]
theorem guard_col (op : BinOp) (x y : Operand) (a b : Array Value) (w : World) : (eqGuard op 38 x y (.agg a) (.agg b)).run Tryd.prog w = .ok () w := run_eqGuard_agg w op _ x y _ _ (by kernel_rfl)

/-- are two lists of columns one? -/
def eqCs : List CD → List CD → Bool
  | [], [] => true
  | a :: r, b :: s => eqC a b && eqCs r s
  | _, _ => false
theorem eqCs_iff (l r : List CD) : eqCs l r = true ↔ l = r := by
  induction l generalizing r with
  | nil => cases r <;> simp [eqCs]
  | cons a l ih => cases r with
    | nil => simp [eqCs]
    | cons b r => simp [eqCs, ih, eqC_iff]

set_option maxRecDepth 20000 in
set_option maxHeartbeats 1600000 in
theorem equalC_any (A B : Option Addr) (c1 c2 n m : Nat) (l r : List CD) (hn : l.length = n) (hm : r.length = m) (w : World) (h : ColsAt w A l) (h2 : ColsAt w B r) (hl : n ≤ 140737000000000) (hl2 : m ≤ 140737000000000) :
    Calls Tryd.prog 38 #[.slice A n c1, .slice B m c2] w fun e w' => e = .returned (.bool (eqCs l r)) ∧ Touch [] w w' := by
  subst hn hm
  by_cases hlen : l.length = r.length
  · have Hlen := Lib.hid hlen
    have hq : ((l.length : Int) == (r.length : Int)) = true := by rw [beq_iff_eq]; omega
    have hq' : ((l.length : Int) != (r.length : Int)) = false := by rw [bne, hq]; rfl
    clear hlen
    go_enter Tryd.func38, Tryd.ntmps38
    go_wp2
    clear hq hq'
    go_loopw [13] (fun i wr => ∃ k : Nat, k ≤ l.length ∧ i = .int .i64 k ∧ Hid (eqCs l r = eqCs (l.drop k) (r.drop k)) ∧ Touch [] w wr) (fun i _ => l.length - (intOf i).toNat)
    case atStart => exact ⟨0, by omega, rfl, Lib.hid rfl, Touch.refl _ _⟩
    case round =>
      obtain ⟨k, hk, rfl, He, ht⟩ := hrel
      by_cases hlt : k < l.length
      · have hlt2 : k < r.length := by have := Hlen.out; omega
        obtain ⟨ad, b, off, rfl, hadd, c0, c1⟩ := (h.touch0 ht).at_ k hlt
        obtain ⟨bd, b2, off2, rfl, hadd2, d0, d1⟩ := (h2.touch0 ht).at_ k hlt2
        have hst : eqCs l r = (eqC l[k] r[k] && eqCs (l.drop (k + 1)) (r.drop (k + 1))) := by
          rw [He.out, List.drop_eq_getElem_cons hlt, List.drop_eq_getElem_cons hlt2]; rfl
        have heq := eqIn_col l[k] r[k]
        obtain ⟨x, hx⟩ : ∃ x, x = l[k] := ⟨_, rfl⟩
        obtain ⟨y, hy⟩ : ∃ y, y = r[k] := ⟨_, rfl⟩
        rw [← hx, ← hy] at hst heq
        rw [← hx] at c0 c1
        rw [← hy] at d0 d1
        have Hst := Lib.hid hst
        have hgd := guard_col
        have g0 := TW.cell c0
        have g1 := TW.cell c1
        have g2 := TW.cell d0
        have g3 := TW.cell d1
        have hkI0 : (0 : Int) ≤ (k : Int) := by omega
        have hkI : (k : Int) < (l.length : Int) := by omega
        have hkI2 : (k : Int) < (r.length : Int) := by omega
        clear hst hx hy He c0 c1 d0 d1
        rcases hxy : eqC x y with _ | _
        · have Hf := Lib.hid (show eqCs l r = false by rw [Hst.out, hxy]; rfl)
          rw [hxy] at heq
          clear hxy
          go_wp2
          refine wp_region_tw wr (Touch.refl _ _) (by kernel_rfl) (by kernel_rfl) ?_
          repeat (go_big_quiet_step (fail))
          refine wpQuiet_nil ?_
          rintro _ ⟨x2, rfl⟩
          go_wp2
          go_ret
          exact ⟨ret_bool (by rw [Hf.out]), ht.trans0 x2.t⟩
        · have Hf := Lib.hid (show eqCs l r = eqCs (l.drop (k + 1)) (r.drop (k + 1)) by rw [Hst.out, hxy]; rfl)
          rw [hxy] at heq
          clear hxy
          go_wp2
          refine wp_region_tw wr (Touch.refl _ _) (by kernel_rfl) (by kernel_rfl) ?_
          repeat (go_big_quiet_step (fail))
          refine wpQuiet_nil ?_
          rintro _ ⟨x2, rfl⟩
          go_wp2
          go_roundw
          case rel => exact ⟨k + 1, by omega, by go_num, Hf, ht.trans0 x2.t⟩
          case measure => simp [intOf]; omega
      · obtain rfl : k = l.length := by omega
        have Hf := Lib.hid (show eqCs l r = true by rw [He.out, List.drop_length, List.drop_of_length_le (by have := Hlen.out; omega)]; rfl)
        go_wp2
        go_ret
        exact ⟨ret_bool (by rw [Hf.out]), ht⟩
  · have Hf := Lib.hid (show eqCs l r = false by
      rw [Bool.eq_false_iff]
      intro h
      rw [eqCs_iff] at h
      exact hlen (by rw [h]))
    have hq : ((l.length : Int) == (r.length : Int)) = false := by rw [beq_eq_false_iff_ne]; omega
    have hq' : ((l.length : Int) != (r.length : Int)) = true := by rw [bne, hq]; rfl
    clear hlen
    go_enter Tryd.func38, Tryd.ntmps38
    go_wp2
    go_ret
    exact ⟨ret_bool (by rw [Hf.out]), Touch.refl _ _⟩
theorem schEqual_any (A B : Option Addr) (c1 c2 n m : Nat) (l r : List CD) (hn : l.length = n) (hm : r.length = m) (w : World) (h : ColsAt w A l) (h2 : ColsAt w B r) (hl : n ≤ 140737000000000) (hl2 : m ≤ 140737000000000) :
    Calls Tryd.prog 17 #[.slice A n c1, .slice B m c2] w fun e w' => e = .returned (.bool (eqCs l r)) ∧ Touch [] w w' := by
  go_enter Tryd.func17, Tryd.ntmps17
  go_wp2_with fail
  refine (equalC_any A B c1 c2 n m l r hn hm w h h2 hl hl2).mono ?_
  rintro e w1 ⟨rfl, t1⟩
  go_wp2
  go_ret
  exact ⟨rfl, t1⟩
end Go.Proofs.YtngoiphknffplaaDoor
