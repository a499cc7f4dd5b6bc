/- Part 29 of the texts of this proof, one behind the other; each begins with its own sentence. No condition beyond those that its theorems state. -/
import Derived.Test.YtafoklilkdnepaaGreatDoorRt28
import Derived.Deep.DeepCutAuto
/- relop.Plan.Equal of a plan with itself; slices.Equal, slices.EqualFunc of rows with themselves. (gen_rleq.py) -/
namespace Go.Proofs.YtafoklilkdnepaaGreatDoor
open Go.RowKit

theorem eqSelf (f : ByteArray) : (f.toList == f.toList) = true := by simp
theorem eqIn_pr (a b : ByteArray) (w : World) : (Op.equalIn 10000 39 (.agg #[.string a, .string b]) (.agg #[.string a, .string b])).run Tryz.prog w = .ok true w := by
  have hS : Tryz.prog.underlying 39 = some (.struct (Tryz.prog.fieldsOf 39)) := by kernel_rfl
  have hp : Tryz.prog.stoodInHeld 39 = false := by kernel_rfl
  rw [show (10000 : Nat) = 9999 + 1 from rfl, run_equalIn_agg w 9999 39 _ _ hS hp]
  simp only [Program.fieldsOf, Tryz.underlying39]
  go_simp
theorem guard_pr (op : BinOp) (x y : Operand) (a b : Array Value) (w : World) : (eqGuard op 39 x y (.agg a) (.agg b)).run Tryz.prog w = .ok () w := run_eqGuard_agg w op _ x y _ _ (by kernel_rfl)
theorem eqIn_ag (a b c : ByteArray) (w : World) : (Op.equalIn 10000 79 (.agg #[.string a, .string b, .string c]) (.agg #[.string a, .string b, .string c])).run Tryz.prog w = .ok true w := by
  have hS : Tryz.prog.underlying 79 = some (.struct (Tryz.prog.fieldsOf 79)) := by kernel_rfl
  have hp : Tryz.prog.stoodInHeld 79 = false := by kernel_rfl
  rw [show (10000 : Nat) = 9999 + 1 from rfl, run_equalIn_agg w 9999 79 _ _ hS hp]
  simp only [Program.fieldsOf, Tryz.underlying79]
  go_simp
theorem guard_ag (op : BinOp) (x y : Operand) (a b : Array Value) (w : World) : (eqGuard op 79 x y (.agg a) (.agg b)).run Tryz.prog w = .ok () w := run_eqGuard_agg w op _ x y _ _ (by kernel_rfl)
theorem eqIn_od (a : ByteArray) (b : Bool) (w : World) : (Op.equalIn 10000 94 (.agg #[.string a, .bool b]) (.agg #[.string a, .bool b])).run Tryz.prog w = .ok true w := by
  have hS : Tryz.prog.underlying 94 = some (.struct (Tryz.prog.fieldsOf 94)) := by kernel_rfl
  have hp : Tryz.prog.stoodInHeld 94 = false := by kernel_rfl
  rw [show (10000 : Nat) = 9999 + 1 from rfl, run_equalIn_agg w 9999 94 _ _ hS hp]
  simp only [Program.fieldsOf, Tryz.underlying94]
  go_simp
theorem guard_od (op : BinOp) (x y : Operand) (a b : Array Value) (w : World) : (eqGuard op 94 x y (.agg a) (.agg b)).run Tryz.prog w = .ok () w := run_eqGuard_agg w op _ x y _ _ (by kernel_rfl)
set_option maxRecDepth 40000 in
set_option maxHeartbeats 6400000 in
theorem self_st (A : Option Addr) (c1 c2 n : Nat) (l : List (ByteArray)) (hn : l.length = n) (hl : n ≤ 1000000) (w : World) (h : RdK btE w A l) :
    Calls Tryz.prog 37 #[.slice A n c1, .slice A n c2] w fun e w' => e = .returned (.bool true) ∧ Touch [] w w' := by
  subst hn
  have HR := Lib.hid h
  clear h
  go_enter Tryz.func37, Tryz.ntmps37
  go_wp2
  go_loopw [13] (fun i wr => ∃ k : Nat, k ≤ l.length ∧ i = .int .i64 k ∧ Hid (Touch [] w wr)) (fun i _ => l.length - (intOf i).toNat)
  case atStart => exact ⟨0, by omega, rfl, Lib.hid (Touch.refl _ _)⟩
  case round =>
    obtain ⟨k, hk, rfl, HT⟩ := hrel
    by_cases hlt : k < l.length
    · obtain ⟨ad, b1, o1, rfl, hadd, hc⟩ := RdK.cells (HR.out.touch0 HT.out) 1 btE_length (by omega) k hlt
      obtain ⟨p, hp⟩ : ∃ p, p = l[k] := ⟨_, rfl⟩
      rw [← hp] at hc
      have hes := eqSelf p
      have e0 := hc 0 _ rfl
      rw [Nat.add_zero] at e0
      try dsimp only at e0
      have g0 := TW.cell e0
      have hkI0 : (0 : Int) ≤ (k : Int) := by omega
      have hkI : (k : Int) < (l.length : Int) := by omega
      clear hc hp e0
      rw [Nat.mul_one] at hadd
      go_wp2
      refine wp_region_tw wr (Touch.refl _ _) (by kernel_rfl) (by kernel_rfl) ?_
      repeat (go_big_quiet_step (fail))
      refine wpQuiet_nil ?_
      rintro _ ⟨x2, rfl⟩
      go_wp2
      go_roundw
      case rel => exact ⟨k + 1, by omega, by go_num, Lib.hid (HT.out.trans0 x2.t)⟩
      case measure => simp [intOf]; omega
    · obtain rfl : k = l.length := by omega
      go_wp2
      go_ret
      exact ⟨rfl, HT.out⟩

set_option maxRecDepth 40000 in
set_option maxHeartbeats 6400000 in
theorem self_pr (A : Option Addr) (c1 c2 n : Nat) (l : List (ByteArray × ByteArray)) (hn : l.length = n) (hl : n ≤ 1000000) (w : World) (h : RdK prE w A l) :
    Calls Tryz.prog 39 #[.slice A n c1, .slice A n c2] w fun e w' => e = .returned (.bool true) ∧ Touch [] w w' := by
  subst hn
  have HR := Lib.hid h
  clear h
  go_enter Tryz.func39, Tryz.ntmps39
  go_wp2
  go_loopw [13] (fun i wr => ∃ k : Nat, k ≤ l.length ∧ i = .int .i64 k ∧ Hid (Touch [] w wr)) (fun i _ => l.length - (intOf i).toNat)
  case atStart => exact ⟨0, by omega, rfl, Lib.hid (Touch.refl _ _)⟩
  case round =>
    obtain ⟨k, hk, rfl, HT⟩ := hrel
    by_cases hlt : k < l.length
    · obtain ⟨ad, b1, o1, rfl, hadd, hc⟩ := RdK.cells (HR.out.touch0 HT.out) 2 prE_length (by omega) k hlt
      obtain ⟨p, hp⟩ : ∃ p, p = l[k] := ⟨_, rfl⟩
      rw [← hp] at hc
      obtain ⟨p1, p2⟩ := p
      have e0 := hc 0 _ rfl
      have e1 := hc 1 _ rfl
      rw [Nat.add_zero] at e0
      try dsimp only at e0 e1
      have g0 := TW.cell e0
      have g1 := TW.cell e1
      have hkI0 : (0 : Int) ≤ (k : Int) := by omega
      have hkI : (k : Int) < (l.length : Int) := by omega
      have heq := eqIn_pr p1 p2
      have hgd := guard_pr
      clear hc hp e0 e1
      go_wp2
      refine wp_region_tw wr (Touch.refl _ _) (by kernel_rfl) (by kernel_rfl) ?_
      repeat (go_big_quiet_step (fail))
      refine wpQuiet_nil ?_
      rintro _ ⟨x2, rfl⟩
      go_wp2
      go_roundw
      case rel => exact ⟨k + 1, by omega, by go_num, Lib.hid (HT.out.trans0 x2.t)⟩
      case measure => simp [intOf]; omega
    · obtain rfl : k = l.length := by omega
      go_wp2
      go_ret
      exact ⟨rfl, HT.out⟩

set_option maxRecDepth 40000 in
set_option maxHeartbeats 6400000 in
theorem self_ag (A : Option Addr) (c1 c2 n : Nat) (l : List (AG)) (hn : l.length = n) (hl : n ≤ 1000000) (w : World) (h : RdK agE w A l) :
    Calls Tryz.prog 40 #[.slice A n c1, .slice A n c2] w fun e w' => e = .returned (.bool true) ∧ Touch [] w w' := by
  subst hn
  have HR := Lib.hid h
  clear h
  go_enter Tryz.func40, Tryz.ntmps40
  go_wp2
  go_loopw [13] (fun i wr => ∃ k : Nat, k ≤ l.length ∧ i = .int .i64 k ∧ Hid (Touch [] w wr)) (fun i _ => l.length - (intOf i).toNat)
  case atStart => exact ⟨0, by omega, rfl, Lib.hid (Touch.refl _ _)⟩
  case round =>
    obtain ⟨k, hk, rfl, HT⟩ := hrel
    by_cases hlt : k < l.length
    · obtain ⟨ad, b1, o1, rfl, hadd, hc⟩ := RdK.cells (HR.out.touch0 HT.out) 3 agE_length (by omega) k hlt
      obtain ⟨p, hp⟩ : ∃ p, p = l[k] := ⟨_, rfl⟩
      rw [← hp] at hc
      obtain ⟨p1, p2, p3⟩ := p
      have e0 := hc 0 _ rfl
      have e1 := hc 1 _ rfl
      have e2 := hc 2 _ rfl
      rw [Nat.add_zero] at e0
      try dsimp only at e0 e1 e2
      have g0 := TW.cell e0
      have g1 := TW.cell e1
      have g2 := TW.cell e2
      have hkI0 : (0 : Int) ≤ (k : Int) := by omega
      have hkI : (k : Int) < (l.length : Int) := by omega
      have heq := eqIn_ag p1 p2 p3
      have hgd := guard_ag
      clear hc hp e0 e1 e2
      go_wp2
      refine wp_region_tw wr (Touch.refl _ _) (by kernel_rfl) (by kernel_rfl) ?_
      repeat (go_big_quiet_step (fail))
      refine wpQuiet_nil ?_
      rintro _ ⟨x2, rfl⟩
      go_wp2
      go_roundw
      case rel => exact ⟨k + 1, by omega, by go_num, Lib.hid (HT.out.trans0 x2.t)⟩
      case measure => simp [intOf]; omega
    · obtain rfl : k = l.length := by omega
      go_wp2
      go_ret
      exact ⟨rfl, HT.out⟩

set_option maxRecDepth 40000 in
set_option maxHeartbeats 6400000 in
theorem self_od (A : Option Addr) (c1 c2 n : Nat) (l : List (ByteArray × Bool)) (hn : l.length = n) (hl : n ≤ 1000000) (w : World) (h : RdK odE w A l) :
    Calls Tryz.prog 41 #[.slice A n c1, .slice A n c2] w fun e w' => e = .returned (.bool true) ∧ Touch [] w w' := by
  subst hn
  have HR := Lib.hid h
  clear h
  go_enter Tryz.func41, Tryz.ntmps41
  go_wp2
  go_loopw [13] (fun i wr => ∃ k : Nat, k ≤ l.length ∧ i = .int .i64 k ∧ Hid (Touch [] w wr)) (fun i _ => l.length - (intOf i).toNat)
  case atStart => exact ⟨0, by omega, rfl, Lib.hid (Touch.refl _ _)⟩
  case round =>
    obtain ⟨k, hk, rfl, HT⟩ := hrel
    by_cases hlt : k < l.length
    · obtain ⟨ad, b1, o1, rfl, hadd, hc⟩ := RdK.cells (HR.out.touch0 HT.out) 2 odE_length (by omega) k hlt
      obtain ⟨p, hp⟩ : ∃ p, p = l[k] := ⟨_, rfl⟩
      rw [← hp] at hc
      obtain ⟨p1, p2⟩ := p
      have e0 := hc 0 _ rfl
      have e1 := hc 1 _ rfl
      rw [Nat.add_zero] at e0
      try dsimp only at e0 e1
      have g0 := TW.cell e0
      have g1 := TW.cell e1
      have hkI0 : (0 : Int) ≤ (k : Int) := by omega
      have hkI : (k : Int) < (l.length : Int) := by omega
      have heq := eqIn_od p1 p2
      have hgd := guard_od
      clear hc hp e0 e1
      go_wp2
      refine wp_region_tw wr (Touch.refl _ _) (by kernel_rfl) (by kernel_rfl) ?_
      repeat (go_big_quiet_step (fail))
      refine wpQuiet_nil ?_
      rintro _ ⟨x2, rfl⟩
      go_wp2
      go_roundw
      case rel => exact ⟨k + 1, by omega, by go_num, Lib.hid (HT.out.trans0 x2.t)⟩
      case measure => simp [intOf]; omega
    · obtain rfl : k = l.length := by omega
      go_wp2
      go_ret
      exact ⟨rfl, HT.out⟩

/-- a plan is itself, wherever it is asked for -/
def EqC (w : World) (x : PC) : Prop := ∀ w', Touch [] w w' → Calls Tryz.prog 20 #[x.val, x.val] w' fun e w'' => e = .returned (.bool true) ∧ Touch [] w' w''
set_option maxRecDepth 40000 in
set_option maxHeartbeats 6400000 in
theorem self_plans (A : Option Addr) (c1 c2 n : Nat) (l : List PC) (hn : l.length = n) (hl : n ≤ 1000000) (w : World) (h : RdK pcE w A l) (hE : ∀ i (hi : i < l.length), EqC w l[i]) :
    Calls Tryz.prog 35 #[.slice A n c1, .slice A n c2, .func (.func 20) #[] #[]] w fun e w' => e = .returned (.bool true) ∧ Touch [] w w' := by
  subst hn
  have HR := Lib.hid h
  have HE := Lib.hid hE
  clear h hE
  go_enter Tryz.func35, Tryz.ntmps35
  go_wp2
  go_loopw [17] (fun i wr => ∃ k : Nat, k ≤ l.length ∧ i = .int .i64 k ∧ Hid (Touch [] w wr)) (fun i _ => l.length - (intOf i).toNat)
  case atStart => exact ⟨0, by omega, rfl, Lib.hid (Touch.refl _ _)⟩
  case round =>
    obtain ⟨k, hk, rfl, HT⟩ := hrel
    by_cases hlt : k < l.length
    · obtain ⟨ad, b1, o1, rfl, hadd, hc⟩ := RdK.cells (HR.out.touch0 HT.out) 16 pcE_length (by omega) k hlt
      have he := HE.out k hlt
      obtain ⟨y, hy⟩ : ∃ y, y = l[k] := ⟨_, rfl⟩
      rw [← hy] at hc he
      obtain ⟨y0, y1, ⟨yA2, yn2, yc2⟩, ⟨⟨yck, ycn, ⟨ycvk, ycvn, ycvt⟩, ycop⟩, yCA, ycnn, ycc⟩, ⟨yNA, ynn, ync⟩, ⟨yEA, yen, yec⟩, ⟨yOA, yol, yoc⟩, ⟨yGA, ygn, ygc⟩, ⟨yBA, ybn, ybc⟩, ycount⟩ := y
      have e0 := hc 0 _ rfl; have e1 := hc 1 _ rfl; have e2 := hc 2 _ rfl; have e3 := hc 3 _ rfl; have e4 := hc 4 _ rfl; have e5 := hc 5 _ rfl; have e6 := hc 6 _ rfl; have e7 := hc 7 _ rfl
      have e8 := hc 8 _ rfl; have e9 := hc 9 _ rfl; have e10 := hc 10 _ rfl; have e11 := hc 11 _ rfl; have e12 := hc 12 _ rfl; have e13 := hc 13 _ rfl; have e14 := hc 14 _ rfl; have e15 := hc 15 _ rfl
      rw [Nat.add_zero] at e0
      dsimp only at e0 e1 e2 e3 e4 e5 e6 e7 e8 e9 e10 e11 e12 e13 e14 e15
      obtain ⟨W1, hW1⟩ : ∃ W1, W1 = wr.alloc (.cells #[.int .i64 y0, .string y1, .slice yA2 yn2 yc2, .int .i64 yck, .string ycn, .int .i64 ycvk, .int .i64 ycvn, .string ycvt, .string ycop, .slice yCA ycnn ycc, .slice yNA ynn ync, .slice yEA yen yec, .slice yOA yol yoc, .slice yGA ygn ygc, .slice yBA ybn ybc, .int .i64 ycount] 49) := ⟨_, rfl⟩
      have tA : Touch [] wr W1 := hW1 ▸ (Touch.refl [] wr).alloc _
      have hbA := hW1 ▸ heap_alloc_new wr (.cells #[.int .i64 y0, .string y1, .slice yA2 yn2 yc2, .int .i64 yck, .string ycn, .int .i64 ycvk, .int .i64 ycvn, .string ycvt, .string ycop, .slice yCA ycnn ycc, .slice yNA ynn ync, .slice yEA yen yec, .slice yOA yol yoc, .slice yGA ygn ygc, .slice yBA ybn ybc, .int .i64 ycount] 49)
      have f0 := tA.cell e0 (by simp); have f1 := tA.cell e1 (by simp); have f2 := tA.cell e2 (by simp); have f3 := tA.cell e3 (by simp); have f4 := tA.cell e4 (by simp); have f5 := tA.cell e5 (by simp); have f6 := tA.cell e6 (by simp); have f7 := tA.cell e7 (by simp); have f8 := tA.cell e8 (by simp); have f9 := tA.cell e9 (by simp); have f10 := tA.cell e10 (by simp); have f11 := tA.cell e11 (by simp); have f12 := tA.cell e12 (by simp); have f13 := tA.cell e13 (by simp); have f14 := tA.cell e14 (by simp); have f15 := tA.cell e15 (by simp)
      obtain ⟨W2, hW2⟩ : ∃ W2, W2 = W1.alloc (.cells #[.int .i64 y0, .string y1, .slice yA2 yn2 yc2, .int .i64 yck, .string ycn, .int .i64 ycvk, .int .i64 ycvn, .string ycvt, .string ycop, .slice yCA ycnn ycc, .slice yNA ynn ync, .slice yEA yen yec, .slice yOA yol yoc, .slice yGA ygn ygc, .slice yBA ybn ybc, .int .i64 ycount] 49) := ⟨_, rfl⟩
      have tB : Touch [] W1 W2 := hW2 ▸ (Touch.refl [] W1).alloc _
      have hbB := hW2 ▸ heap_alloc_new W1 (.cells #[.int .i64 y0, .string y1, .slice yA2 yn2 yc2, .int .i64 yck, .string ycn, .int .i64 ycvk, .int .i64 ycvn, .string ycvt, .string ycop, .slice yCA ycnn ycc, .slice yNA ynn ync, .slice yEA yen yec, .slice yOA yol yoc, .slice yGA ygn ygc, .slice yBA ybn ybc, .int .i64 ycount] 49)
      have hf := he W2 ((HT.out.trans0 tA).trans0 tB)
      simp only [PC.val] at hf
      have Hf := Lib.hid hf
      have HTa := Lib.hid (tA.trans0 tB)
      have HBB := Lib.hid (And.intro (tB.blk hbA (by simp)) hbB)
      have HW1 := Lib.hid hW1
      have HW2 := Lib.hid hW2
      have hkI : (k : Int) < (l.length : Int) := by omega
      clear hc hy he hf tA tB hW1 hW2 hbA hbB
      as_aux_lemma =>
      go_upto_region 6 with fail
      rw [← HW1.out]
      clear e0 e1 e2 e3 e4 e5 e6 e7 e8 e9 e10 e11 e12 e13 e14 e15
      as_aux_lemma =>
      go_upto_region 7 with fail
      rw [← HW2.out]
      clear f0 f1 f2 f3 f4 f5 f6 f7 f8 f9 f10 f11 f12 f13 f14 f15
      obtain ⟨p0, p1, p2, p3, p4, p5, p6, p7, p8, p9, p10, p11, p12, p13, p14, p15⟩ := blk16 HBB.out.1
      obtain ⟨q0, q1, q2, q3, q4, q5, q6, q7, q8, q9, q10, q11, q12, q13, q14, q15⟩ := blk16 HBB.out.2
      as_aux_lemma =>
      go_wp2_with fail
      refine Hf.out.mono ?_
      rintro e w1 ⟨rfl, t1⟩
      have HT1 := Lib.hid ((HT.out.trans0 HTa.out).trans0 t1)
      clear t1 Hf HTa HBB p0 p1 p2 p3 p4 p5 p6 p7 p8 p9 p10 p11 p12 p13 p14 p15 q0 q1 q2 q3 q4 q5 q6 q7 q8 q9 q10 q11 q12 q13 q14 q15
      as_aux_lemma =>
      go_wp2_with fail
      go_roundw
      case rel => exact ⟨k + 1, by omega, by go_num, HT1⟩
      case measure => simp [intOf]; omega
    · obtain rfl : k = l.length := by omega
      go_wp2
      go_ret
      exact ⟨rfl, HT.out⟩

set_option maxRecDepth 40000 in
set_option maxHeartbeats 6400000 in
theorem equal_self {m : Nat} (x : PC) (d : PD m) (w : World) (h : PlanAt w x d) (hsx : sumX m d.exprs ≤ 1000000) (hsc : sizeX m d.cond ≤ 1000000) (h1 : d.names.length ≤ 1000000) (h2 : d.on.length ≤ 1000000) (h3 : d.aggs.length ≤ 1000000) (h4 : d.by_.length ≤ 1000000)
    (xs : List PC) (hxs : xs.length = x.args.n) (hxl : x.args.n ≤ 1000000) (hX : RdK pcE w x.args.A xs) (hE : ∀ i (hi : i < xs.length), EqC w xs[i]) :
    Calls Tryz.prog 20 #[x.val, x.val] w fun e w' => e = .returned (.bool true) ∧ Touch [] w w' := by
  obtain ⟨-, -, hcd, hnn, hnr, hen, hex, hon, hor, han, har, hbn, hbr, -⟩ := h
  have Hc := Lib.hid fun w' (t : Touch [] w w') => equalX_any m d.cond d.cond x.cond x.cond w' (hcd.touch0 t) (hcd.touch0 t) hsc hsc
  rw [show eqX m d.cond d.cond = true from (eqX_iff m _ _).2 rfl] at Hc
  obtain ⟨k0, k1, ⟨A2, n2, c2'⟩, ⟨⟨ck, cn, ⟨cvk, cvn, cvt⟩, cop⟩, CA, cnn, cc⟩, ⟨NA, nn, nc⟩, ⟨EA, en, ec⟩, ⟨OA, ol, oc⟩, ⟨GA, gn, gc⟩, ⟨BA, bn, bc⟩, count⟩ := x
  dsimp only at hnn hnr hen hex hon hor han har hbn hbr hxs hX hxl
  subst hnn hen hon han hbn
  simp only [PC.val, XC.val] at Hc ⊢
  have Hp := Lib.hid fun w' (t : Touch [] w w') => self_plans A2 c2' c2' n2 xs hxs hxl w' (RdK.touch0 hX t) (fun i hi w'' t2 => hE i hi w'' (t.trans0 t2))
  have Hn := Lib.hid fun w' (t : Touch [] w w') => self_st NA nc nc d.names.length d.names rfl h1 w' (RdK.touch0 hnr t)
  have Hx := Lib.hid fun w' (t : Touch [] w w') => equalFuncX m (equalX_any m) EA EA ec ec d.exprs.length d.exprs.length d.exprs d.exprs rfl rfl w' (hex.touch0 t) (hex.touch0 t) hsx hsx
  rw [show eqL (eqX m) d.exprs d.exprs = true from (eqL_iff (eqX_iff m) _ _).2 rfl] at Hx
  have Ho := Lib.hid fun w' (t : Touch [] w w') => self_pr OA oc oc d.on.length d.on rfl h2 w' (RdK.touch0 hor t)
  have Ha := Lib.hid fun w' (t : Touch [] w w') => self_ag GA gc gc d.aggs.length d.aggs rfl h3 w' (RdK.touch0 har t)
  have Hb := Lib.hid fun w' (t : Touch [] w w') => self_od BA bc bc d.by_.length d.by_ rfl h4 w' (RdK.touch0 hbr t)
  have hes := eqSelf k1
  have ta := (Touch.refl [] w).alloc (.cells #[.int .i64 k0, .string k1, .slice A2 n2 c2', .int .i64 ck, .string cn, .int .i64 cvk, .int .i64 cvn, .string cvt, .string cop, .slice CA cnn cc, .slice NA d.names.length nc, .slice EA d.exprs.length ec, .slice OA d.on.length oc, .slice GA d.aggs.length gc, .slice BA d.by_.length bc, .int .i64 count] 49)
  have hb1 := (Touch.refl [] (w.alloc (.cells #[.int .i64 k0, .string k1, .slice A2 n2 c2', .int .i64 ck, .string cn, .int .i64 cvk, .int .i64 cvn, .string cvt, .string cop, .slice CA cnn cc, .slice NA d.names.length nc, .slice EA d.exprs.length ec, .slice OA d.on.length oc, .slice GA d.aggs.length gc, .slice BA d.by_.length bc, .int .i64 count] 49))).alloc (.cells #[.int .i64 k0, .string k1, .slice A2 n2 c2', .int .i64 ck, .string cn, .int .i64 cvk, .int .i64 cvn, .string cvt, .string cop, .slice CA cnn cc, .slice NA d.names.length nc, .slice EA d.exprs.length ec, .slice OA d.on.length oc, .slice GA d.aggs.length gc, .slice BA d.by_.length bc, .int .i64 count] 49) |>.blk (heap_alloc_new w (.cells #[.int .i64 k0, .string k1, .slice A2 n2 c2', .int .i64 ck, .string cn, .int .i64 cvk, .int .i64 cvn, .string cvt, .string cop, .slice CA cnn cc, .slice NA d.names.length nc, .slice EA d.exprs.length ec, .slice OA d.on.length oc, .slice GA d.aggs.length gc, .slice BA d.by_.length bc, .int .i64 count] 49)) (by simp)
  have hb2 := heap_alloc_new (w.alloc (.cells #[.int .i64 k0, .string k1, .slice A2 n2 c2', .int .i64 ck, .string cn, .int .i64 cvk, .int .i64 cvn, .string cvt, .string cop, .slice CA cnn cc, .slice NA d.names.length nc, .slice EA d.exprs.length ec, .slice OA d.on.length oc, .slice GA d.aggs.length gc, .slice BA d.by_.length bc, .int .i64 count] 49)) (.cells #[.int .i64 k0, .string k1, .slice A2 n2 c2', .int .i64 ck, .string cn, .int .i64 cvk, .int .i64 cvn, .string cvt, .string cop, .slice CA cnn cc, .slice NA d.names.length nc, .slice EA d.exprs.length ec, .slice OA d.on.length oc, .slice GA d.aggs.length gc, .slice BA d.by_.length bc, .int .i64 count] 49)
  rw [World.size_alloc] at hb2
  obtain ⟨W, hW⟩ : ∃ W, W = (w.alloc (.cells #[.int .i64 k0, .string k1, .slice A2 n2 c2', .int .i64 ck, .string cn, .int .i64 cvk, .int .i64 cvn, .string cvt, .string cop, .slice CA cnn cc, .slice NA d.names.length nc, .slice EA d.exprs.length ec, .slice OA d.on.length oc, .slice GA d.aggs.length gc, .slice BA d.by_.length bc, .int .i64 count] 49)).alloc (.cells #[.int .i64 k0, .string k1, .slice A2 n2 c2', .int .i64 ck, .string cn, .int .i64 cvk, .int .i64 cvn, .string cvt, .string cop, .slice CA cnn cc, .slice NA d.names.length nc, .slice EA d.exprs.length ec, .slice OA d.on.length oc, .slice GA d.aggs.length gc, .slice BA d.by_.length bc, .int .i64 count] 49) := ⟨_, rfl⟩
  have tb := ta.alloc (.cells #[.int .i64 k0, .string k1, .slice A2 n2 c2', .int .i64 ck, .string cn, .int .i64 cvk, .int .i64 cvn, .string cvt, .string cop, .slice CA cnn cc, .slice NA d.names.length nc, .slice EA d.exprs.length ec, .slice OA d.on.length oc, .slice GA d.aggs.length gc, .slice BA d.by_.length bc, .int .i64 count] 49)
  rw [← hW] at hb1 hb2 tb
  have HT := Lib.hid tb
  have HW := Lib.hid hW
  have HB := Lib.hid (And.intro hb1 hb2)
  clear ta tb hW hb1 hb2 hcd hnr hex hor har hbr hX hE hxs hxl h1 h2 h3 h4 hsx hsc
  go_enter Tryz.func20, Tryz.ntmps20
  go_wp2_with fail
  rw [← HW.out]
  refine (Hp.out _ HT.out).mono ?_
  rintro e w1 ⟨rfl, t1⟩
  have T1 := Lib.hid (t1)
  clear t1
  obtain ⟨p0, p1, p2, p3, p4, p5, p6, p7, p8, p9, p10, p11, p12, p13, p14, p15⟩ := blk16 (T1.out.blk HB.out.1 (by simp))
  obtain ⟨q0, q1, q2, q3, q4, q5, q6, q7, q8, q9, q10, q11, q12, q13, q14, q15⟩ := blk16 (T1.out.blk HB.out.2 (by simp))
  as_aux_lemma =>
  go_wp2_with fail
  refine (Hc.out _ (HT.out.trans0 T1.out)).mono ?_
  rintro e w2 ⟨rfl, t2⟩
  clear p0 p1 p2 p3 p4 p5 p6 p7 p8 p9 p10 p11 p12 p13 p14 p15 q0 q1 q2 q3 q4 q5 q6 q7 q8 q9 q10 q11 q12 q13 q14 q15
  have T2 := Lib.hid (T1.out.trans0 t2)
  clear t2
  obtain ⟨p0, p1, p2, p3, p4, p5, p6, p7, p8, p9, p10, p11, p12, p13, p14, p15⟩ := blk16 (T2.out.blk HB.out.1 (by simp))
  obtain ⟨q0, q1, q2, q3, q4, q5, q6, q7, q8, q9, q10, q11, q12, q13, q14, q15⟩ := blk16 (T2.out.blk HB.out.2 (by simp))
  as_aux_lemma =>
  go_wp2_with fail
  refine (Hn.out _ (HT.out.trans0 T2.out)).mono ?_
  rintro e w3 ⟨rfl, t3⟩
  clear p0 p1 p2 p3 p4 p5 p6 p7 p8 p9 p10 p11 p12 p13 p14 p15 q0 q1 q2 q3 q4 q5 q6 q7 q8 q9 q10 q11 q12 q13 q14 q15
  have T3 := Lib.hid (T2.out.trans0 t3)
  clear t3
  obtain ⟨p0, p1, p2, p3, p4, p5, p6, p7, p8, p9, p10, p11, p12, p13, p14, p15⟩ := blk16 (T3.out.blk HB.out.1 (by simp))
  obtain ⟨q0, q1, q2, q3, q4, q5, q6, q7, q8, q9, q10, q11, q12, q13, q14, q15⟩ := blk16 (T3.out.blk HB.out.2 (by simp))
  as_aux_lemma =>
  go_wp2_with fail
  refine (Hx.out _ (HT.out.trans0 T3.out)).mono ?_
  rintro e w4 ⟨rfl, t4⟩
  clear p0 p1 p2 p3 p4 p5 p6 p7 p8 p9 p10 p11 p12 p13 p14 p15 q0 q1 q2 q3 q4 q5 q6 q7 q8 q9 q10 q11 q12 q13 q14 q15
  have T4 := Lib.hid (T3.out.trans0 t4)
  clear t4
  obtain ⟨p0, p1, p2, p3, p4, p5, p6, p7, p8, p9, p10, p11, p12, p13, p14, p15⟩ := blk16 (T4.out.blk HB.out.1 (by simp))
  obtain ⟨q0, q1, q2, q3, q4, q5, q6, q7, q8, q9, q10, q11, q12, q13, q14, q15⟩ := blk16 (T4.out.blk HB.out.2 (by simp))
  as_aux_lemma =>
  go_wp2_with fail
  refine (Ho.out _ (HT.out.trans0 T4.out)).mono ?_
  rintro e w5 ⟨rfl, t5⟩
  clear p0 p1 p2 p3 p4 p5 p6 p7 p8 p9 p10 p11 p12 p13 p14 p15 q0 q1 q2 q3 q4 q5 q6 q7 q8 q9 q10 q11 q12 q13 q14 q15
  have T5 := Lib.hid (T4.out.trans0 t5)
  clear t5
  obtain ⟨p0, p1, p2, p3, p4, p5, p6, p7, p8, p9, p10, p11, p12, p13, p14, p15⟩ := blk16 (T5.out.blk HB.out.1 (by simp))
  obtain ⟨q0, q1, q2, q3, q4, q5, q6, q7, q8, q9, q10, q11, q12, q13, q14, q15⟩ := blk16 (T5.out.blk HB.out.2 (by simp))
  as_aux_lemma =>
  go_wp2_with fail
  refine (Ha.out _ (HT.out.trans0 T5.out)).mono ?_
  rintro e w6 ⟨rfl, t6⟩
  clear p0 p1 p2 p3 p4 p5 p6 p7 p8 p9 p10 p11 p12 p13 p14 p15 q0 q1 q2 q3 q4 q5 q6 q7 q8 q9 q10 q11 q12 q13 q14 q15
  have T6 := Lib.hid (T5.out.trans0 t6)
  clear t6
  obtain ⟨p0, p1, p2, p3, p4, p5, p6, p7, p8, p9, p10, p11, p12, p13, p14, p15⟩ := blk16 (T6.out.blk HB.out.1 (by simp))
  obtain ⟨q0, q1, q2, q3, q4, q5, q6, q7, q8, q9, q10, q11, q12, q13, q14, q15⟩ := blk16 (T6.out.blk HB.out.2 (by simp))
  as_aux_lemma =>
  go_wp2_with fail
  refine (Hb.out _ (HT.out.trans0 T6.out)).mono ?_
  rintro e w7 ⟨rfl, t7⟩
  clear p0 p1 p2 p3 p4 p5 p6 p7 p8 p9 p10 p11 p12 p13 p14 p15 q0 q1 q2 q3 q4 q5 q6 q7 q8 q9 q10 q11 q12 q13 q14 q15
  have T7 := Lib.hid (T6.out.trans0 t7)
  clear t7
  obtain ⟨p0, p1, p2, p3, p4, p5, p6, p7, p8, p9, p10, p11, p12, p13, p14, p15⟩ := blk16 (T7.out.blk HB.out.1 (by simp))
  obtain ⟨q0, q1, q2, q3, q4, q5, q6, q7, q8, q9, q10, q11, q12, q13, q14, q15⟩ := blk16 (T7.out.blk HB.out.2 (by simp))
  as_aux_lemma =>
  go_wp2
  go_ret
  exact ⟨rfl, HT.out.trans0 T7.out⟩
end Go.Proofs.YtafoklilkdnepaaGreatDoor

/- bywashlaw05.smallTable: what it lets by is within bounds. For every table. -/
namespace Go.Proofs.YtafoklilkdnepaaGreatDoor
open Go.RowKit

def smN (c : CD) : Bool := decide (c.name.size ≤ 50)
def smV (v : VD) : Bool := decide (v.text.size ≤ 100)
def smR (r : List VD) : Bool := decide (r.length ≤ 20) && r.all smV
def smallT (cs : List CD) (rows : List (List VD)) : Bool := cs.all smN && (rows.all smR && (decide (cs.length ≤ 16) && decide (rows.length ≤ 30)))
theorem smallT_true {cs : List CD} {rows : List (List VD)} (h : smallT cs rows = true) : (∀ c ∈ cs, c.name.size ≤ 50) ∧ (∀ r ∈ rows, r.length ≤ 20 ∧ ∀ v ∈ r, v.text.size ≤ 100) ∧ cs.length ≤ 16 ∧ rows.length ≤ 30 := by
  unfold smallT at h
  rw [Bool.and_eq_true, Bool.and_eq_true, Bool.and_eq_true, List.all_eq_true, List.all_eq_true] at h
  refine ⟨fun c hc => by simpa [smN] using h.1 c hc, fun r hr => ?_, of_decide_eq_true h.2.2.1, of_decide_eq_true h.2.2.2⟩
  have := h.2.1 r hr
  unfold smR at this
  rw [Bool.and_eq_true, List.all_eq_true] at this
  exact ⟨of_decide_eq_true this.1, fun v hv => by simpa [smV] using this.2 v hv⟩

set_option maxRecDepth 20000 in
set_option maxHeartbeats 3200000 in
theorem smallTable_any (A B : Option Addr) (c1 c2 n m : Nat) (cs : List CD) (rows : List (List VD)) (hn : cs.length = n) (hm : rows.length = m) (hc : n ≤ 9223372036854775807 ∧ ∀ c ∈ cs, c.name.size ≤ 9223372036854775807 ∧ -9223372036854775808 ≤ c.typ ∧ c.typ ≤ 9223372036854775807)
    (hr : m ≤ 9223372036854775807 ∧ ∀ r ∈ rows, r.length ≤ 9223372036854775807 ∧ ∀ v ∈ r, v.Ok 9223372036854775807) (w : World) (h : ColsAt w A cs) (h2 : RowsAt w B rows) :
    Calls Tryz.prog 13 #[.agg #[.slice A n c1, .slice B m c2]] w fun e w' => e = .returned (.bool (smallT cs rows)) ∧ Touch [] w w' := by
  obtain ⟨hc1, hc2⟩ := hc
  obtain ⟨hr1, hr2⟩ := hr
  subst hn hm
  go_enter Tryz.func13, Tryz.ntmps13
  have t0 := (Touch.refl [] w).alloc (.cells #[.slice A cs.length c1, .slice B rows.length c2] 27)
  have hbx := heap_alloc_new w (.cells #[.slice A cs.length c1, .slice B rows.length c2] 27)
  have Hbx := Lib.hid hbx
  clear hbx
  go_wp2
  go_loopw [12] (fun i wr => ∃ k : Nat, k ≤ cs.length ∧ i = .int .i64 k ∧ Hid ((cs.take k).all smN = true) ∧ Touch [] (w.alloc (.cells #[.slice A cs.length c1, .slice B rows.length c2] 27)) wr) (fun i _ => cs.length - (intOf i).toNat)
  case atStart => exact ⟨0, by omega, rfl, Lib.hid rfl, Touch.refl _ _⟩
  case round =>
    obtain ⟨k, hk, rfl, Hall, ht'⟩ := hrel
    have ht := t0.trans0 ht'
    by_cases hlt : k < cs.length
    · obtain ⟨ad, b, off, rfl, hadd, e0, e1⟩ := (h.touch0 ht).at_ k hlt
      have hcok := hc2 _ (List.getElem_mem hlt)
      have hno := all_no (p := smN) hlt
      have hyes := all_snoc (p := smN) hlt Hall.out
      obtain ⟨c, hce⟩ : ∃ c, c = cs[k] := ⟨_, rfl⟩
      rw [← hce] at e0 e1 hcok hno hyes
      obtain ⟨hcn, hct1, hct2⟩ := hcok
      have Hno := Lib.hid hno; have Hyes := Lib.hid hyes
      clear hce hno hyes Hall
      by_cases h1 : 50 < c.name.size
      · have Hs := Lib.hid (Hno.out (by simp [smN]; omega))
        go_wp2
        go_ret
        exact ⟨ret_bool (by unfold smallT; rw [Hs.out]; rfl), ht.alloc _⟩
      · have Hs := Lib.hid (Hyes.out (by simp [smN]; omega))
        go_wp2
        go_roundw
        case rel => exact ⟨k + 1, by omega, by go_num, Hs, ht'.alloc _⟩
        case measure => simp [intOf]; omega
    · obtain rfl : k = cs.length := by omega
      have hall := Hall.out
      rw [List.take_length] at hall
      have HA := Lib.hid hall
      have x1 := ht'.cell (cell_blk Hbx.out (i := 1) (v := .slice B rows.length c2) rfl) (by simp)
      clear hall Hall
      go_wp2
      clear x1
      go_loopw [24] (fun i wr2 => ∃ q : Nat, q ≤ rows.length ∧ i = .int .i64 q ∧ Hid ((rows.take q).all smR = true) ∧ Touch [] (w.alloc (.cells #[.slice A cs.length c1, .slice B rows.length c2] 27)) wr2) (fun i _ => rows.length - (intOf i).toNat)
      case atStart => exact ⟨0, by omega, rfl, Lib.hid rfl, ht'⟩
      case round =>
        clear ht' ht
        obtain ⟨q, hq, rfl, Hall, ht'⟩ := hrel
        have ht := t0.trans0 ht'
        by_cases hltq : q < rows.length
        · obtain ⟨bd, RA, rc, rfl, r0, hrv⟩ := (h2.touch0 ht).at_ q hltq
          have hro := hr2 _ (List.getElem_mem hltq)
          have hno := all_no (p := smR) hltq
          have hyes := all_snoc (p := smR) hltq Hall.out
          obtain ⟨r, hre⟩ : ∃ r, r = rows[q] := ⟨_, rfl⟩
          rw [← hre] at r0 hrv hro hno hyes
          have Hno := Lib.hid hno; have Hyes := Lib.hid hyes
          obtain ⟨hrl, hrok⟩ := hro
          clear hre hno hyes Hall
          by_cases h20 : 20 < r.length
          · have Hs := Lib.hid (Hno.out (by unfold smR; rw [decide_eq_false (by omega)]; rfl))
            go_wp2
            go_ret
            exact ⟨ret_bool (by unfold smallT; rw [HA.out, Hs.out]; rfl), ht⟩
          · have HsR := Lib.hid (show smR r = r.all smV by unfold smR; rw [decide_eq_true (by omega)]; rfl)
            go_wp2
            go_loopw [33] (fun i w3 => ∃ j : Nat, j ≤ r.length ∧ i = .int .i64 j ∧ Hid ((r.take j).all smV = true) ∧ Touch [] wr w3) (fun i _ => r.length - (intOf i).toNat)
            case atStart => exact ⟨0, by omega, rfl, Lib.hid rfl, Touch.refl _ _⟩
            case round =>
              obtain ⟨j, hj, rfl, Hall, ht3⟩ := hrel
              by_cases hltj : j < r.length
              · obtain ⟨vd, vb, voff, rfl, hvadd, f0, f1, f2⟩ := (hrv.touch0 ht3).at_ j hltj
                have hvo := hrok _ (List.getElem_mem hltj)
                have hno := all_no (p := smV) hltj
                have hyes := all_snoc (p := smV) hltj Hall.out
                obtain ⟨v, hve⟩ : ∃ v, v = r[j] := ⟨_, rfl⟩
                rw [← hve] at f0 f1 f2 hvo hno hyes
                obtain ⟨_, _, hvt⟩ := hvo
                have Hvno := Lib.hid hno; have Hvyes := Lib.hid hyes
                clear hve hno hyes Hall
                by_cases h1 : 100 < v.text.size
                · have Hs := Lib.hid (Hno.out (by rw [HsR.out]; exact Hvno.out (by simp [smV]; omega)))
                  go_wp2
                  go_ret
                  exact ⟨ret_bool (by unfold smallT; rw [HA.out, Hs.out]; rfl), (ht.trans0 ht3).alloc _⟩
                · have Hs := Lib.hid (Hvyes.out (by simp [smV]; omega))
                  go_wp2
                  go_roundw
                  case rel => exact ⟨j + 1, by omega, by go_num, Hs, ht3.alloc _⟩
                  case measure => simp [intOf]; omega
              · obtain rfl : j = r.length := by omega
                have hall := Hall.out
                rw [List.take_length] at hall
                have Hs := Lib.hid (Hyes.out (by rw [HsR.out]; exact hall))
                clear hall Hall
                go_wp2
                go_roundw
                case rel => exact ⟨q + 1, by omega, by go_num, Hs, ht'.trans0 ht3⟩
                case measure => simp [intOf]; omega
        · obtain rfl : q = rows.length := by omega
          have hall := Hall.out
          rw [List.take_length] at hall
          have Hs := Lib.hid (show smallT cs rows = (decide ((cs.length : Int) ≤ 16) && decide ((rows.length : Int) ≤ 30)) by
            unfold smallT
            rw [HA.out, hall, Bool.true_and, Bool.true_and, Bool.eq_iff_iff]
            simp
            omega)
          have x0 := ht'.cell (cell_blk Hbx.out (i := 0) (v := .slice A cs.length c1) rfl) (by simp)
          have x1 := ht'.cell (cell_blk Hbx.out (i := 1) (v := .slice B rows.length c2) rfl) (by simp)
          clear hall Hall
          by_cases h20 : (cs.length : Int) ≤ 16
          · go_wp2
            go_ret
            exact ⟨ret_bool (by rw [Hs.out, decide_eq_true h20, Bool.true_and]), ht⟩
          · go_wp2
            go_ret
            exact ⟨ret_bool (by rw [Hs.out, decide_eq_false (by omega), Bool.false_and]), ht⟩
end Go.Proofs.YtafoklilkdnepaaGreatDoor
