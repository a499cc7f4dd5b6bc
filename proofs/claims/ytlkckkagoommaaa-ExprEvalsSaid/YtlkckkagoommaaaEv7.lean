/- Part 7 of the texts of this proof, one behind the other; each begins with its own sentence. No condition beyond those that its theorems state. -/
import Derived.Test.YtlkckkagoommaaaEv6
/- expr.comparing: which way of comparing an operation is. For every text. -/
namespace Go.Proofs.Ytlkckkagoommaaa
open Go.RowKit
attribute [local go_sem ↓] Go.wp_at_zero Go.wp_at_succ

set_option maxRecDepth 20000 in
theorem comparing_any (s : ByteArray) (w : World) : Calls Try.prog 53 #[.string s] w fun e w' => e = .returned (.int .i64 (cmpI s)) ∧ Touch [] w w' := by
  have Hix := Lib.hid fun w' h => Go.Proofs.Try.slices_Index_string w.heap.size 0 7 7 [S [], S [61], S [33, 61], S [60], S [60, 61], S [62], S [62, 61]] s w' (by decide) (by decide) h
  go_enter Try.func53, Try.ntmps53
  go_wp2_with fail
  refine (Hix.out _ ?_).mono ?_
  · intro j hj
    have hj' : j < 7 := hj
    have : j = 0 ∨ j = 1 ∨ j = 2 ∨ j = 3 ∨ j = 4 ∨ j = 5 ∨ j = 6 := by omega
    rcases this with rfl | rfl | rfl | rfl | rfl | rfl | rfl <;> exact cell_blk (heap_alloc_new w _) rfl
  · rintro e w1 ⟨rfl, rfl⟩
    go_wp2_with fail
    go_ret
    exact ⟨rfl, (Touch.refl _ _).alloc _⟩
end Go.Proofs.Ytlkckkagoommaaa

/- expr.Expr.eval: an expression's value. For every expression, schema and row. -/
namespace Go.Proofs.Ytlkckkagoommaaa
open Go.RowKit
attribute [local go_sem ↓] Go.wp_at_zero Go.wp_at_succ

set_option maxRecDepth 20000 in
set_option maxHeartbeats 6400000 in
theorem eval_step (n : Nat) (ih : EvalSaid n) : EvalSaid (n + 1) := by
  intro e x CA cc cm cs hcm RB rc rm row hrm w hx hcs hrow hmb hrl hok hrt hall
  have hev1 := evalX_succ cs row n e
  have hev2 := evalX_at cs row n e
  obtain ⟨res, hres⟩ : ∃ res, res = evalX cs row (n + 1) e := ⟨_, rfl⟩
  rw [← hres] at hev1 hev2 ⊢
  clear hres
  obtain ⟨h1, h2, h3⟩ := hx.args
  obtain ⟨ha1, ha2⟩ := hall
  obtain ⟨ho1, ho2, ho3⟩ := hok
  clear hx
  generalize e.1 = nd at *
  generalize e.2 = args at *
  subst h1
  have Hlz := Lib.hid fun v w' (t : Touch [] w w') hq => lazy_any n ih x args v CA cc cm cs hcm RB rc rm row hrm w' h2 (h3.touch0 t) (hcs.touch0 t) (hrow.touch0 t) hmb hrl ho3 hrt ha2 hq
  have Hal := Lib.hid fun v w' => alone_any x v w'
  have Hfi := Lib.hid fun w' (t : Touch [] w w') => findC_any CA cc cm cs hcm x.nd.name w' (hcs.touch0 t) hmb
  have hlin := fun h1 h2 => lazy_in ho1 h1 h2
  have hbin := fun h1 h2 => both_in ho1 h1 h2
  have hfa := form_args ho1
  have htx := fun (q : Nat) (hq : q < args.length) => eval_text cs row 140737000000000 (by omega) hrt n args[q] (ha2 _ (List.getElem_mem hq))
  obtain ⟨⟨k, nm, ⟨vk, vn, vt⟩, op⟩, XA, m, c⟩ := x
  dsimp only at h2 h3 ha1 ho1 ho2 hev1 hev2 hlin hbin hfa
  simp only [XC.val] at Hlz Hal ⊢
  simp only at Hlz Hal Hfi
  have t0 := ((Touch.refl [] w).alloc (.cells #[.int .i64 k, .string nm, .int .i64 vk, .int .i64 vn, .string vt, .string op, .slice XA m c] 33)).alloc (.cells #[.int .i64 0, .int .i64 0, .string ⟨#[]⟩] 30)
  have hb1 := ((Touch.refl [] (w.alloc (.cells #[.int .i64 k, .string nm, .int .i64 vk, .int .i64 vn, .string vt, .string op, .slice XA m c] 33))).alloc (.cells #[.int .i64 0, .int .i64 0, .string ⟨#[]⟩] 30)).blk (heap_alloc_new w (.cells #[.int .i64 k, .string nm, .int .i64 vk, .int .i64 vn, .string vt, .string op, .slice XA m c] 33)) (by simp)
  have hbr := heap_alloc_new (w.alloc (.cells #[.int .i64 k, .string nm, .int .i64 vk, .int .i64 vn, .string vt, .string op, .slice XA m c] 33)) (.cells #[.int .i64 0, .int .i64 0, .string ⟨#[]⟩] 30)
  simp only [World.size_alloc] at hbr
  obtain ⟨W, hW⟩ : ∃ W, W = (w.alloc (.cells #[.int .i64 k, .string nm, .int .i64 vk, .int .i64 vn, .string vt, .string op, .slice XA m c] 33)).alloc (.cells #[.int .i64 0, .int .i64 0, .string ⟨#[]⟩] 30) := ⟨_, rfl⟩
  rw [← hW] at hb1 hbr t0
  have HW := Lib.hid hW; have Hb1 := Lib.hid hb1; have Hbr := Lib.hid hbr; have T0 := Lib.hid t0
  have H2 := Lib.hid h2
  clear hW hb1 hbr t0 h2
  by_cases hk1 : k = 1
  · have hpl := ho2 hk1
    rw [if_pos hk1] at hev1
    rcases hp : placeV cs nm with _ | q
    · rw [hp] at hpl; cases hpl
    have hql := placeV_lt hp
    have hqr : q < row.length := by omega
    rw [hp] at Hfi hev1
    simp only [Option.getD_some, Option.isSome_some] at Hfi hev1
    have hv : row.getD q zeroV = row[q] := by rw [List.getD_eq_getElem?_getD, List.getElem?_eq_getElem hqr]; rfl
    rw [hv] at hev1
    have Hf := Lib.hid hev1
    have hqI : (q : Int) < (rm : Int) := by omega
    have hqI0 : (0 : Int) ≤ (q : Int) := by omega
    subst hk1
    clear hp hv hev1 hev2 hlin hbin hfa Hlz Hal hpl htx
    go_enter Try.func34, Try.ntmps34
    go_wp2_with fail
    rw [← HW.out]
    obtain ⟨a0, a1, a2, a3, a4, a5, a6, _⟩ := blk7 Hb1.out
    go_wp2_with fail
    clear a0 a1 a2 a3 a4 a5 a6
    refine (Hfi.out _ T0.out).mono ?_
    rintro e w1 ⟨rfl, u1⟩
    obtain ⟨ad, b, off, rfl, hadd, v0, v1, v2⟩ := (hrow.touch0 (T0.out.trans0 u1)).at_ q hqr
    obtain ⟨a0, a1, a2, a3, a4, a5, a6, _⟩ := blk7 (u1.blk Hb1.out (by simp))
    obtain ⟨r0, r1, r2, f0, f1, f2⟩ := blk3 (u1.blk Hbr.out (by simp))
    go_wp2_with fail
    obtain ⟨q1, q2⟩ := out3 (u1.blk Hbr.out (by simp)) (.int .i64 row[q].kind) (.int .i64 row[q].num) (.string row[q].text)
    obtain ⟨d0, d1, d2, _⟩ := blk3 q1
    refine bodyPost_ret (v := .tuple #[.agg #[.int .i64 row[q].kind, .int .i64 row[q].num, .string row[q].text], .int .i64 (0)]) (by simp [results, Try.results34, go_sem, d0, d1, d2]) rfl ⟨?_, (T0.out.trans0 u1).trans q2 (fun b hb => .inr (by simp at hb; omega))⟩
    rw [Hf.out]; rfl
  have e1 : (k == 1) = false := by simpa using hk1
  by_cases hk2 : k = 2
  · rw [if_neg hk1, if_pos hk2] at hev1
    have Hf := Lib.hid hev1
    subst hk2
    clear hev1 hev2 hlin hbin hfa Hlz Hal htx Hfi
    go_enter Try.func34, Try.ntmps34
    go_wp2_with fail
    have q1 := heap_alloc_new (w.alloc (.cells #[.int .i64 2, .string nm, .int .i64 vk, .int .i64 vn, .string vt, .string op, .slice XA m c] 33)) (.cells #[.int .i64 vk, .int .i64 vn, .string vt] 30)
    simp only [World.size_alloc] at q1
    obtain ⟨d0, d1, d2, _⟩ := blk3 q1
    refine bodyPost_ret (v := .tuple #[.agg #[.int .i64 vk, .int .i64 vn, .string vt], .int .i64 0]) (by simp [results, Try.results34, go_sem, d0, d1, d2]) rfl ⟨?_, ((Touch.refl [] w).alloc (.cells #[.int .i64 2, .string nm, .int .i64 vk, .int .i64 vn, .string vt, .string op, .slice XA m c] 33)).alloc _⟩
    rw [Hf.out]; rfl
  have e2 : (k == 2) = false := by simpa using hk2
  have h0 := hfa hk1 hk2
  have hst := hev2 hk1 hk2 h0
  have hli := hlin hk1 hk2
  have hbi := hbin hk1 hk2
  clear hev1 hev2 hlin hbin hfa Hfi hk1 hk2 ho2 ho1 ha1
  obtain ⟨ad, b, off, y, rfl, hadd, hy, hcell⟩ := h3.at_ xcE_length 0 h0
  have Hev := Lib.hid fun w' (t : Touch [] w w') => ih args[0] y CA cc cm cs hcm RB rc rm row hrm w' (hy.touch0 t) (hcs.touch0 t) (hrow.touch0 t) hmb hrl (ho3 _ (List.getElem_mem h0)) hrt (ha2 _ (List.getElem_mem h0))
  have hfx := htx 0 h0
  obtain ⟨⟨⟨fk, fn, fs⟩, fx⟩, hfe⟩ : ∃ r, r = evalX cs row n args[0] := ⟨_, rfl⟩
  rw [← hfe] at hst Hev hfx
  obtain ⟨⟨k2, nm2, ⟨vk2, vn2, vt2⟩, op2⟩, A2, m2, c2'⟩ := y
  simp only [XC.val, VD.val] at Hev
  have c0 := hcell 0 _ rfl; have c1 := hcell 1 _ rfl; have c2 := hcell 2 _ rfl; have c3 := hcell 3 _ rfl; have c4 := hcell 4 _ rfl; have c5 := hcell 5 _ rfl; have c6 := hcell 6 _ rfl
  rw [Nat.add_zero] at c0
  simp only at c0 c1 c2 c3 c4 c5 c6 hfx
  have hqI : (0 : Int) < (m : Int) := by have := H2.out; omega
  have C0 := Lib.hid c0; have C1 := Lib.hid c1; have C2 := Lib.hid c2; have C3 := Lib.hid c3; have C4 := Lib.hid c4; have C5 := Lib.hid c5; have C6 := Lib.hid c6
  clear hcell c0 c1 c2 c3 c4 c5 c6 hy hfe
  have c0 := (((Touch.refl [] w).alloc (.cells #[.int .i64 k, .string nm, .int .i64 vk, .int .i64 vn, .string vt, .string op, .slice (some ad) m c] 33)).alloc (.cells #[.int .i64 0, .int .i64 0, .string ⟨#[]⟩] 30)).cell C0.out (by simp)
  have c1 := (((Touch.refl [] w).alloc (.cells #[.int .i64 k, .string nm, .int .i64 vk, .int .i64 vn, .string vt, .string op, .slice (some ad) m c] 33)).alloc (.cells #[.int .i64 0, .int .i64 0, .string ⟨#[]⟩] 30)).cell C1.out (by simp)
  have c2 := (((Touch.refl [] w).alloc (.cells #[.int .i64 k, .string nm, .int .i64 vk, .int .i64 vn, .string vt, .string op, .slice (some ad) m c] 33)).alloc (.cells #[.int .i64 0, .int .i64 0, .string ⟨#[]⟩] 30)).cell C2.out (by simp)
  have c3 := (((Touch.refl [] w).alloc (.cells #[.int .i64 k, .string nm, .int .i64 vk, .int .i64 vn, .string vt, .string op, .slice (some ad) m c] 33)).alloc (.cells #[.int .i64 0, .int .i64 0, .string ⟨#[]⟩] 30)).cell C3.out (by simp)
  have c4 := (((Touch.refl [] w).alloc (.cells #[.int .i64 k, .string nm, .int .i64 vk, .int .i64 vn, .string vt, .string op, .slice (some ad) m c] 33)).alloc (.cells #[.int .i64 0, .int .i64 0, .string ⟨#[]⟩] 30)).cell C4.out (by simp)
  have c5 := (((Touch.refl [] w).alloc (.cells #[.int .i64 k, .string nm, .int .i64 vk, .int .i64 vn, .string vt, .string op, .slice (some ad) m c] 33)).alloc (.cells #[.int .i64 0, .int .i64 0, .string ⟨#[]⟩] 30)).cell C5.out (by simp)
  have c6 := (((Touch.refl [] w).alloc (.cells #[.int .i64 k, .string nm, .int .i64 vk, .int .i64 vn, .string vt, .string op, .slice (some ad) m c] 33)).alloc (.cells #[.int .i64 0, .int .i64 0, .string ⟨#[]⟩] 30)).cell C6.out (by simp)
  go_enter Try.func34, Try.ntmps34
  go_wp2_with fail
  rw [← HW.out]
  clear c0 c1 c2 c3 c4 c5 c6
  refine (Hev.out _ T0.out).mono ?_
  rintro e w1 ⟨rfl, u1⟩
  have tf := (Touch.refl [] w1).alloc (.cells #[.int .i64 fk, .int .i64 fn, .string fs] 30)
  have hf := heap_alloc_new w1 (.cells #[.int .i64 fk, .int .i64 fn, .string fs] 30)
  have TT1 := Lib.hid ((T0.out.trans0 u1).trans0 tf)
  have Ha1 := Lib.hid (tf.blk (u1.blk Hb1.out (by simp)) (by simp))
  have Hr1 := Lib.hid (tf.blk (u1.blk Hbr.out (by simp)) (by simp))
  have Hf1 := Lib.hid hf
  clear Hev
  by_cases hfx0 : fx ≠ 0
  · rw [if_pos hfx0] at hst
    have Hf := Lib.hid hst
    have q6 : (fx != 0) = true := by simpa using hfx0
    clear hst hfx0 Hlz Hal
    obtain ⟨a0, a1, a2, a3, a4, a5, a6, _⟩ := blk7 Ha1.out
    obtain ⟨r0, r1, r2, f0, f1, f2⟩ := blk3 Hr1.out
    obtain ⟨f0, f1, f2, _⟩ := blk3 Hf1.out
    go_wp2_with fail
    obtain ⟨q1, q2⟩ := out3 Hr1.out (.int .i64 0) (.int .i64 0) (.string ⟨#[]⟩)
    obtain ⟨d0, d1, d2, _⟩ := blk3 q1
    refine bodyPost_ret (v := .tuple #[.agg #[.int .i64 0, .int .i64 0, .string ⟨#[]⟩], .int .i64 (fx)]) (by simp [results, Try.results34, go_sem, d0, d1, d2]) rfl ⟨?_, TT1.out.trans q2 (fun b hb => .inr (by simp at hb; omega))⟩
    rw [Hf.out]; rfl
  have hfx1 : fx = 0 := by omega
  rw [if_neg hfx0] at hst
  subst hfx1
  clear hfx0
  have hlz := fun w' t => Hlz.out ⟨fk, fn, fs⟩ w' t (hli ⟨fk, fn, fs⟩)
  obtain ⟨lz, hlze⟩ : ∃ r, r = lazyX (evalX cs row n) ⟨k, nm, ⟨vk, vn, vt⟩, op⟩ args ⟨fk, fn, fs⟩ := ⟨_, rfl⟩
  rw [← hlze] at hst hlz
  simp only [VD.val] at hlz
  clear Hlz hli
  obtain ⟨a0, a1, a2, a3, a4, a5, a6, _⟩ := blk7 Ha1.out
  obtain ⟨f0, f1, f2, _⟩ := blk3 Hf1.out
  go_wp2_with fail
  clear a0 a1 a2 a3 a4 a5 a6 f0 f1 f2
  rcases lz with _ | ⟨⟨zk, zn, zs⟩, zx⟩
  rotate_left
  · simp only at hst
    have Hf := Lib.hid hst
    simp only [toldV, VD.val] at hlz
    clear hst hbi hlze Hal
    refine (hlz _ TT1.out).mono ?_
    rintro e w2 ⟨rfl, u2⟩
    have tz := (Touch.refl [] w2).alloc (.cells #[.int .i64 zk, .int .i64 zn, .string zs] 30)
    have hz := heap_alloc_new w2 (.cells #[.int .i64 zk, .int .i64 zn, .string zs] 30)
    obtain ⟨a0, a1, a2, a3, a4, a5, a6, _⟩ := blk7 (tz.blk (u2.blk Ha1.out (by simp)) (by simp))
    obtain ⟨r0, r1, r2, f0, f1, f2⟩ := blk3 (tz.blk (u2.blk Hr1.out (by simp)) (by simp))
    obtain ⟨z0, z1, z2, _⟩ := blk3 hz
    go_wp2_with fail
    obtain ⟨q1, q2⟩ := out3 (tz.blk (u2.blk Hr1.out (by simp)) (by simp)) (.int .i64 zk) (.int .i64 zn) (.string zs)
    obtain ⟨d0, d1, d2, _⟩ := blk3 q1
    refine bodyPost_ret (v := .tuple #[.agg #[.int .i64 zk, .int .i64 zn, .string zs], .int .i64 (zx)]) (by simp [results, Try.results34, go_sem, d0, d1, d2]) rfl ⟨?_, ((TT1.out.trans0 u2).trans0 tz).trans q2 (fun b hb => .inr (by simp at hb; omega))⟩
    rw [Hf.out]; rfl
  have hlv : lazyV ⟨k, nm, ⟨vk, vn, vt⟩, op⟩ ⟨fk, fn, fs⟩ = none := by
    unfold lazyX at hlze
    rcases hv : lazyV ⟨k, nm, ⟨vk, vn, vt⟩, op⟩ ⟨fk, fn, fs⟩ with _ | u
    · rfl
    · rw [hv] at hlze
      cases u with
      | inl u => cases hlze
      | inr q => simp only at hlze; split at hlze <;> cases hlze
  have hbi2 := fun h => hbi ⟨fk, fn, fs⟩ h hlv
  simp only at hst
  simp only [toldV, VD.val, zeroV, S] at hlz
  clear hlze hlv hbi
  refine (hlz _ TT1.out).mono ?_
  rintro e w2 ⟨rfl, u2⟩
  have tz := (Touch.refl [] w2).alloc (.cells #[.int .i64 0, .int .i64 0, .string ⟨#[]⟩] 30)
  have hz := heap_alloc_new w2 (.cells #[.int .i64 0, .int .i64 0, .string ⟨#[]⟩] 30)
  have TT2 := Lib.hid ((TT1.out.trans0 u2).trans0 tz)
  have Ha2 := Lib.hid (tz.blk (u2.blk Ha1.out (by simp)) (by simp))
  have Hr2 := Lib.hid (tz.blk (u2.blk Hr1.out (by simp)) (by simp))
  have Hf2 := Lib.hid (tz.blk (u2.blk Hf1.out (by simp)) (by simp))
  have Hz2 := Lib.hid hz
  clear hlz
  by_cases hm1 : m = 1
  · rw [dif_neg (by have := H2.out; omega)] at hst
    have hal := fun w' => Hal.out ⟨fk, fn, fs⟩ w'
    have q7 : ((m : Int) == 1) = true := by rw [hm1]; rfl
    obtain ⟨⟨⟨gk, gn, gs⟩, gx⟩, hge⟩ : ∃ r, r = aloneV ⟨k, nm, ⟨vk, vn, vt⟩, op⟩ ⟨fk, fn, fs⟩ := ⟨_, rfl⟩
    rw [← hge] at hst hal
    simp only [VD.val] at hal
    have Hf := Lib.hid hst
    clear hst hbi2 hge Hal hm1
    obtain ⟨a0, a1, a2, a3, a4, a5, a6, _⟩ := blk7 Ha2.out
    obtain ⟨f0, f1, f2, _⟩ := blk3 Hf2.out
    obtain ⟨z0, z1, z2, _⟩ := blk3 Hz2.out
    go_wp2_with fail
    clear a0 a1 a2 a3 a4 a5 a6 f0 f1 f2 z0 z1 z2
    refine (hal _).mono ?_
    rintro e w3 ⟨rfl, u3⟩
    obtain ⟨r0, r1, r2, f0, f1, f2⟩ := blk3 (u3.blk Hr2.out (by simp))
    go_wp2_with fail
    obtain ⟨q1, q2⟩ := out3 (u3.blk Hr2.out (by simp)) (.int .i64 gk) (.int .i64 gn) (.string gs)
    obtain ⟨d0, d1, d2, _⟩ := blk3 q1
    refine bodyPost_ret (v := .tuple #[.agg #[.int .i64 gk, .int .i64 gn, .string gs], .int .i64 (gx)]) (by simp [results, Try.results34, go_sem, d0, d1, d2]) rfl ⟨?_, (TT2.out.trans0 u3).trans q2 (fun b hb => .inr (by simp at hb; omega))⟩
    rw [Hf.out]; rfl
  have hbi := hbi2 (by have := H2.out; omega)
  have q7 : ((m : Int) == 1) = false := by simp; omega
  have h1 : 1 < args.length := by have := H2.out; omega
  rw [dif_pos h1] at hst
  obtain ⟨ad', b', off', y', hade, hadd', hy', hcell⟩ := h3.at_ xcE_length 1 h1
  obtain rfl : ad = ad' := Option.some.inj hade
  have Hev := Lib.hid fun w' (t : Touch [] w w') => ih args[1] y' CA cc cm cs hcm RB rc rm row hrm w' (hy'.touch0 t) (hcs.touch0 t) (hrow.touch0 t) hmb hrl (ho3 _ (List.getElem_mem h1)) hrt (ha2 _ (List.getElem_mem h1))
  have hgx := htx 1 h1
  obtain ⟨⟨⟨gk, gn, gs⟩, gx⟩, hge⟩ : ∃ r, r = evalX cs row n args[1] := ⟨_, rfl⟩
  rw [← hge] at hst Hev hgx
  obtain ⟨⟨k3, nm3, ⟨vk3, vn3, vt3⟩, op3⟩, A3, m3, c3'⟩ := y'
  simp only [XC.val, VD.val] at Hev
  have c0 := hcell 0 _ rfl; have c1 := hcell 1 _ rfl; have c2 := hcell 2 _ rfl; have c3 := hcell 3 _ rfl; have c4 := hcell 4 _ rfl; have c5 := hcell 5 _ rfl; have c6 := hcell 6 _ rfl
  rw [Nat.add_zero] at c0
  simp only at c0 c1 c2 c3 c4 c5 c6 hgx
  have hqI1 : (1 : Int) < (m : Int) := by have := H2.out; omega
  have hcmp0 := fun w' => comparing_any op w'
  obtain ⟨cm', hcme⟩ : ∃ r, r = cmpI op := ⟨_, rfl⟩
  rw [← hcme] at hcmp0
  have Hcmp := Lib.hid hcmp0
  have Hcme := Lib.hid hcme
  clear hcmp0 hcme
  clear hcell hy' hge Hal hbi2 hade hadd htx hm1 hqI h0 C0 C1 C2 C3 C4 C5 C6
  replace c0 := TT2.out.cell c0 (by simp); replace c1 := TT2.out.cell c1 (by simp); replace c2 := TT2.out.cell c2 (by simp); replace c3 := TT2.out.cell c3 (by simp); replace c4 := TT2.out.cell c4 (by simp); replace c5 := TT2.out.cell c5 (by simp); replace c6 := TT2.out.cell c6 (by simp)
  obtain ⟨a0, a1, a2, a3, a4, a5, a6, _⟩ := blk7 Ha2.out
  obtain ⟨f0, f1, f2, _⟩ := blk3 Hf2.out
  obtain ⟨z0, z1, z2, _⟩ := blk3 Hz2.out
  go_wp2_with fail
  clear a0 a1 a2 a3 a4 a5 a6 f0 f1 f2 z0 z1 z2
  clear c0 c1 c2 c3 c4 c5 c6
  refine (Hev.out _ TT2.out).mono ?_
  rintro e w3 ⟨rfl, u3⟩
  have tg := (Touch.refl [] w3).alloc (.cells #[.int .i64 gk, .int .i64 gn, .string gs] 30)
  have hg := heap_alloc_new w3 (.cells #[.int .i64 gk, .int .i64 gn, .string gs] 30)
  obtain ⟨a0, a1, a2, a3, a4, a5, a6, _⟩ := blk7 (tg.blk (u3.blk Ha2.out (by simp)) (by simp))
  go_wp2_with fail
  clear a0 a1 a2 a3 a4 a5 a6
  refine (Hcmp.out _).mono ?_
  rintro e w4 ⟨rfl, u4⟩
  have TT3 := Lib.hid (((TT2.out.trans0 u3).trans0 tg).trans0 u4)
  have Ha3 := Lib.hid (u4.blk (tg.blk (u3.blk Ha2.out (by simp)) (by simp)) (by simp))
  have Hr3 := Lib.hid (u4.blk (tg.blk (u3.blk Hr2.out (by simp)) (by simp)) (by simp))
  have Hf3 := Lib.hid (u4.blk (tg.blk (u3.blk Hf2.out (by simp)) (by simp)) (by simp))
  have Hz3 := Lib.hid (u4.blk (tg.blk (u3.blk Hz2.out (by simp)) (by simp)) (by simp))
  have Hg3 := Lib.hid (u4.blk hg (by simp))
  clear Hev Hcmp
  by_cases hgx0 : gx ≠ 0
  · rw [if_pos hgx0] at hst
    have Hf := Lib.hid hst
    have q6 : (gx != 0) = true := by simpa using hgx0
    clear hst hgx0 hbi
    obtain ⟨a0, a1, a2, a3, a4, a5, a6, _⟩ := blk7 Ha3.out
    obtain ⟨r0, r1, r2, f0, f1, f2⟩ := blk3 Hr3.out
    go_wp2_with fail
    obtain ⟨q1, q2⟩ := out3 Hr3.out (.int .i64 0) (.int .i64 0) (.string ⟨#[]⟩)
    obtain ⟨d0, d1, d2, _⟩ := blk3 q1
    refine bodyPost_ret (v := .tuple #[.agg #[.int .i64 0, .int .i64 0, .string ⟨#[]⟩], .int .i64 (gx)]) (by simp [results, Try.results34, go_sem, d0, d1, d2]) rfl ⟨?_, TT3.out.trans q2 (fun b hb => .inr (by simp at hb; omega))⟩
    rw [Hf.out]; rfl
  have hgx1 : gx = 0 := by omega
  rw [if_neg hgx0] at hst
  subst hgx1
  clear hgx0
  have q8 := beq_S nm [99, 97, 116]
  try dsimp only at hbi
  have hcme := Hcme.out
  rcases hbi with hb | ⟨hb, hb1, hb2⟩ | ⟨hb, hb1, o, hop, hb2⟩
  · rw [decide_eq_true (p := nm = S [99, 97, 116]) hb] at q8
    rw [show bothV ⟨k, nm, ⟨vk, vn, vt⟩, op⟩ ⟨fk, fn, fs⟩ ⟨gk, gn, gs⟩ = catV ⟨fk, fn, fs⟩ ⟨gk, gn, gs⟩ from if_pos hb] at hst
    have hca := fun w' => cat_any ⟨fk, fn, fs⟩ ⟨gk, gn, gs⟩ hfx hgx w'
    obtain ⟨⟨⟨jk, jn, js⟩, jx⟩, hje⟩ : ∃ r, r = catV ⟨fk, fn, fs⟩ ⟨gk, gn, gs⟩ := ⟨_, rfl⟩
    rw [← hje] at hst hca
    simp only [VD.val] at hca
    have Hf := Lib.hid hst
    clear hst hje hb hcme
    obtain ⟨a0, a1, a2, a3, a4, a5, a6, _⟩ := blk7 Ha3.out
    obtain ⟨f0, f1, f2, _⟩ := blk3 Hf3.out
    obtain ⟨g0, g1, g2, _⟩ := blk3 Hg3.out
    go_wp2_with fail
    clear a0 a1 a2 a3 a4 a5 a6 f0 f1 f2 g0 g1 g2
    refine (hca _).mono ?_
    rintro e w5 ⟨rfl, u5⟩
    obtain ⟨r0, r1, r2, f0, f1, f2⟩ := blk3 (u5.blk Hr3.out (by simp))
    go_wp2_with fail
    obtain ⟨q1, q2⟩ := out3 (u5.blk Hr3.out (by simp)) (.int .i64 jk) (.int .i64 jn) (.string js)
    obtain ⟨d0, d1, d2, _⟩ := blk3 q1
    refine bodyPost_ret (v := .tuple #[.agg #[.int .i64 jk, .int .i64 jn, .string js], .int .i64 (jx)]) (by simp [results, Try.results34, go_sem, d0, d1, d2]) rfl ⟨?_, (TT3.out.trans0 u5).trans q2 (fun b hb => .inr (by simp at hb; omega))⟩
    rw [Hf.out]; rfl
  · rw [decide_eq_false (p := nm = S [99, 97, 116]) hb] at q8
    rw [show bothV ⟨k, nm, ⟨vk, vn, vt⟩, op⟩ ⟨fk, fn, fs⟩ ⟨gk, gn, gs⟩ = (compareV (cmpI op) ⟨fk, fn, fs⟩ ⟨gk, gn, gs⟩, 0) by unfold bothV; rw [if_neg hb, if_pos (by dsimp only; omega)]] at hst
    have hca := fun w' => compare_any (cmpI op) ⟨hb1, hb2⟩ ⟨fk, fn, fs⟩ ⟨gk, gn, gs⟩ w'
    have hb3 : 0 < cmpI op := by omega
    rw [← hcme] at hst hca hb3
    obtain ⟨⟨jk, jn, js⟩, hje⟩ : ∃ r, r = compareV cm' ⟨fk, fn, fs⟩ ⟨gk, gn, gs⟩ := ⟨_, rfl⟩
    rw [← hje] at hst hca
    simp only [VD.val] at hca
    have Hf := Lib.hid hst
    clear hst hje hb hb1 hb2 hcme
    obtain ⟨a0, a1, a2, a3, a4, a5, a6, _⟩ := blk7 Ha3.out
    obtain ⟨f0, f1, f2, _⟩ := blk3 Hf3.out
    obtain ⟨g0, g1, g2, _⟩ := blk3 Hg3.out
    go_wp2_with fail
    clear a0 a1 a2 a3 a4 a5 a6 f0 f1 f2 g0 g1 g2
    refine (hca _).mono ?_
    rintro e w5 ⟨rfl, u5⟩
    obtain ⟨r0, r1, r2, f0, f1, f2⟩ := blk3 (u5.blk Hr3.out (by simp))
    go_wp2_with fail
    obtain ⟨q1, q2⟩ := out3 (u5.blk Hr3.out (by simp)) (.int .i64 jk) (.int .i64 jn) (.string js)
    obtain ⟨d0, d1, d2, _⟩ := blk3 q1
    refine bodyPost_ret (v := .tuple #[.agg #[.int .i64 jk, .int .i64 jn, .string js], .int .i64 (0)]) (by simp [results, Try.results34, go_sem, d0, d1, d2]) rfl ⟨?_, (TT3.out.trans0 u5).trans q2 (fun b hb => .inr (by simp at hb; omega))⟩
    rw [Hf.out]; rfl
  · rw [decide_eq_false (p := nm = S [99, 97, 116]) hb] at q8
    subst hop
    rw [show bothV ⟨k, nm, ⟨vk, vn, vt⟩, S [o]⟩ ⟨fk, fn, fs⟩ ⟨gk, gn, gs⟩ = arithV (o.toNat : Int) ⟨fk, fn, fs⟩ ⟨gk, gn, gs⟩ by unfold bothV; rw [if_neg hb, if_neg (by dsimp only; omega)]; rfl] at hst
    have Har := Lib.hid fun w' => arith_any (o.toNat : Int) hb2 ⟨fk, fn, fs⟩ ⟨gk, gn, gs⟩ w'
    have hb3 : ¬ 0 < cmpI (S [o]) := by omega
    rw [← hcme] at hb3
    obtain ⟨⟨⟨jk, jn, js⟩, jx⟩, hje⟩ : ∃ r, r = arithV (o.toNat : Int) ⟨fk, fn, fs⟩ ⟨gk, gn, gs⟩ := ⟨_, rfl⟩
    rw [← hje] at hst Har
    simp only [VD.val] at Har
    have Hf := Lib.hid hst
    clear hst hje hb hb1 hb2 hcme
    obtain ⟨a0, a1, a2, a3, a4, a5, a6, _⟩ := blk7 Ha3.out
    obtain ⟨f0, f1, f2, _⟩ := blk3 Hf3.out
    obtain ⟨g0, g1, g2, _⟩ := blk3 Hg3.out
    go_wp2_with fail
    clear a0 a1 a2 a3 a4 a5 a6 f0 f1 f2 g0 g1 g2
    have td := (Touch.refl [] w4).drew
    have hdr := td.blk Hr3.out (by simp)
    obtain ⟨_, _, _, _, _, a5, _, _⟩ := blk7 (td.blk Ha3.out (by simp))
    obtain ⟨f0, f1, f2, _⟩ := blk3 (td.blk Hf3.out (by simp))
    obtain ⟨g0, g1, g2, _⟩ := blk3 (td.blk Hg3.out (by simp))
    have hzf := (Array.getElem?_eq_some_iff.1 Hf3.out).1
    have hzg := (Array.getElem?_eq_some_iff.1 Hg3.out).1
    have hzr := (Array.getElem?_eq_some_iff.1 Hbr.out).1
    have hz1 := u1.size
    have hz3 := u3.size
    have hzr2 := (Array.getElem?_eq_some_iff.1 Hr2.out).1
    refine wp_region_held_drew (S := fun w' => w'.cell? ⟨w.heap.size, 5, none⟩ = some (.string (S [o])) ∧ w'.cell? ⟨w1.heap.size, 0, none⟩ = some (.int .i64 fk) ∧ w'.cell? ⟨w1.heap.size, 1, none⟩ = some (.int .i64 fn) ∧ w'.cell? ⟨w1.heap.size, 2, none⟩ = some (.string fs) ∧ w'.cell? ⟨w3.heap.size, 0, none⟩ = some (.int .i64 gk) ∧ w'.cell? ⟨w3.heap.size, 1, none⟩ = some (.int .i64 gn) ∧ w'.cell? ⟨w3.heap.size, 2, none⟩ = some (.string gs)) (by kernel_rfl) ⟨a5, f0, f1, f2, g0, g1, g2⟩ (fun hHeld => ?_)
    refine take_d (i := 0) (d := 105) (v := ?_) rfl rfl (by kernel_rfl) (by kernel_rfl) (by kernel_rfl) (fun _ _ _ h => h) (Or.inl ⟨by rfl, ?_⟩) (by assumption) ?_
    rotate_left
    · intro w hSw; (try dsimp only at hSw); go_simp; (try with_reducible rfl)
    try simp only [Act.put, List.setIfInBounds_toArray, List.set_cons_zero, List.set_cons_succ]
    refine take_d (i := 1) (d := 106) (v := ?_) rfl rfl (by kernel_rfl) (by kernel_rfl) (by kernel_rfl) (fun _ _ _ h => h) (Or.inl ⟨by rfl, ?_⟩) (by assumption) ?_
    rotate_left
    · intro w hSw; (try dsimp only at hSw); go_simp; (try with_reducible rfl)
    try simp only [Act.put, List.setIfInBounds_toArray, List.set_cons_zero, List.set_cons_succ]
    refine take_d (i := 2) (d := 107) (v := .int .u8 (o.toNat : Int)) rfl rfl (by kernel_rfl) (by kernel_rfl) (by kernel_rfl) (fun _ _ _ h => h) (Or.inl ⟨by rfl, ?_⟩) (by assumption) ?_
    · intro w hSw; (try dsimp only at hSw); go_simp; rw [dif_pos (show 0 < (S [o]).size from Nat.one_pos)]; rfl
    try simp only [Act.put, List.setIfInBounds_toArray, List.set_cons_zero, List.set_cons_succ]
    refine take_d (i := 3) (d := 108) (v := ?_) rfl rfl (by kernel_rfl) (by kernel_rfl) (by kernel_rfl) (fun _ _ _ h => h) (Or.inl ⟨by rfl, ?_⟩) (by assumption) ?_
    rotate_left
    · intro w hSw; (try dsimp only at hSw); go_simp; (try with_reducible rfl)
    try simp only [Act.put, List.setIfInBounds_toArray, List.set_cons_zero, List.set_cons_succ]
    refine take_d (i := 4) (d := 109) (v := ?_) rfl rfl (by kernel_rfl) (by kernel_rfl) (by kernel_rfl) (fun _ _ _ h => h) (Or.inl ⟨by rfl, ?_⟩) (by assumption) ?_
    rotate_left
    · intro w hSw; (try dsimp only at hSw); go_simp; (try with_reducible rfl)
    try simp only [Act.put, List.setIfInBounds_toArray, List.set_cons_zero, List.set_cons_succ]
    refine wpAnyH_ready (rs := [5]) (by kernel_rfl) (by simp) ?_
    refine AllReadyH.cons rfl (fun K hK => ?_) AllReadyH.nil
    go_simp
    go_at_call 56
    refine (Har.out _).mono ?_
    rintro e w5 ⟨rfl, u5⟩
    have a5' := u5.cell a5 (by simp)
    have f0' := u5.cell f0 (by simp)
    have f1' := u5.cell f1 (by simp)
    have f2' := u5.cell f2 (by simp)
    have g0' := u5.cell g0 (by simp)
    have g1' := u5.cell g1 (by simp)
    have g2' := u5.cell g2 (by simp)
    (try go_wp2_with fail)
    refine hK.out _ _ ⟨a5', f0', f1', f2', g0', g1', g2'⟩ (fun _hH => ?_)
    clear hK K
    try simp only [Act.put, List.setIfInBounds_toArray, List.set_cons_zero, List.set_cons_succ]
    refine take_d (i := 6) (d := 111) (v := ?_) rfl rfl (by kernel_rfl) (by kernel_rfl) (by kernel_rfl) (fun _ _ _ h => h) (Or.inl ⟨by rfl, ?_⟩) (by assumption) ?_
    rotate_left
    · intro w hSw; (try dsimp only at hSw); go_simp; (try with_reducible rfl)
    try simp only [Act.put, List.setIfInBounds_toArray, List.set_cons_zero, List.set_cons_succ]
    refine take_d (i := 7) (d := 112) (v := ?_) rfl rfl (by kernel_rfl) (by kernel_rfl) (by kernel_rfl) (fun _ _ _ h => h) (Or.inl ⟨by rfl, ?_⟩) (by assumption) ?_
    rotate_left
    · intro w hSw; (try dsimp only at hSw); go_simp; (try with_reducible rfl)
    try simp only [Act.put, List.setIfInBounds_toArray, List.set_cons_zero, List.set_cons_succ]
    have hbr2 := u5.blk hdr (by simp)
    obtain ⟨r0, r1, r2, f0r, f1r, f2r⟩ := blk3 hbr2
    obtain ⟨q1, q2⟩ := out3 hbr2 (.int .i64 jk) (.int .i64 jn) (.string js)
    have a5'' := q2.cell a5' (by simp only [List.mem_singleton]; omega)
    have f0'' := q2.cell f0' (by simp only [List.mem_singleton]; omega)
    have f1'' := q2.cell f1' (by simp only [List.mem_singleton]; omega)
    have f2'' := q2.cell f2' (by simp only [List.mem_singleton]; omega)
    have g0'' := q2.cell g0' (by simp only [List.mem_singleton]; omega)
    have g1'' := q2.cell g1' (by simp only [List.mem_singleton]; omega)
    have g2'' := q2.cell g2' (by simp only [List.mem_singleton]; omega)
    refine wpAnyH_ready (rs := [8]) (by kernel_rfl) (by simp) ?_
    refine AllReadyH.cons rfl (fun K hK => ?_) AllReadyH.nil
    go_simp
    (try go_wp2_with fail)
    refine hK.out _ _ ⟨a5'', f0'', f1'', f2'', g0'', g1'', g2''⟩ (fun _hH => ?_)
    clear hK K
    try simp only [Act.put, List.setIfInBounds_toArray, List.set_cons_zero, List.set_cons_succ]
    refine take_d (i := 9) (d := 7) (v := ?_) rfl rfl (by kernel_rfl) (by kernel_rfl) (by kernel_rfl) (fun _ _ _ h => h) (Or.inl ⟨by rfl, ?_⟩) (by assumption) ?_
    rotate_left
    · intro w hSw; (try dsimp only at hSw); go_simp; (try with_reducible rfl)
    try simp only [Act.put, List.setIfInBounds_toArray, List.set_cons_zero, List.set_cons_succ]
    refine wpAnyH_done (by kernel_rfl) ?_ _
    go_wp2_with fail
    obtain ⟨d0, d1, d2, _⟩ := blk3 q1
    refine bodyPost_ret (v := .tuple #[.agg #[.int .i64 jk, .int .i64 jn, .string js], .int .i64 jx]) (by simp [results, Try.results34, go_sem, d0, d1, d2]) rfl ⟨?_, ((TT3.out.trans0 td).trans0 u5).trans q2 (fun b hb => .inr (by simp at hb; omega))⟩
    rw [Hf.out]; rfl
theorem eval_any : ∀ n, EvalSaid n
  | 0 => fun e => e.elim
  | n + 1 => eval_step n (eval_any n)
end Go.Proofs.Ytlkckkagoommaaa

/- expr.Expr.Type, expr.Expr.Eval. For every expression, schema and row. -/
namespace Go.Proofs.Ytlkckkagoommaaa
open Go.RowKit
attribute [local go_sem ↓] Go.wp_at_zero Go.wp_at_succ

set_option maxRecDepth 20000 in
set_option maxHeartbeats 3200000 in
theorem typeX_any (n : Nat) (e : TX n) (x : XC) (A : Option Addr) (cap m : Nat) (cs : List CD) (hm : cs.length = m) (hok : ∀ c ∈ cs, c.Ok) (w : World) (hx : ExP xcE anyB n w x e) (hcs : ColsAt w A cs) (hmb : m ≤ 140737000000000)
    (hs : sizeX n e ≤ 1000000) (hall : allX (fun q => q.v.text.size ≤ 140737000000000) n e) :
    Calls Try.prog 25 #[x.val, .slice A m cap] w fun r w' => r = .returned (.tuple #[.int .i64 (typeX cs n e).1, .int .i64 (typeX cs n e).2]) ∧ Touch [] w w' := by
  have Hchk := Lib.hid fun w' (t : Touch [] w w') => check_any A cap m cs hm hok w' (hcs.touch0 t) (by omega)
  have Hsz := Lib.hid fun w' (t : Touch [] w w') => sizeX_any n e x w' (hx.touch0 t) hs
  have Hty := Lib.hid fun w' (t : Touch [] w w') => typed_any n e x A cap m cs hm 1 w' (hx.touch0 t) (hcs.touch0 t) hmb hs hall (by omega)
  obtain ⟨res, hres⟩ : ∃ res, res = typeX cs n e := ⟨_, rfl⟩
  rw [← hres]
  unfold typeX at hres
  obtain ⟨⟨k, nm, ⟨vk, vn, vt⟩, op⟩, XA, xm, c⟩ := x
  simp only [XC.val] at Hchk Hsz Hty ⊢
  clear hx hall hs
  have t0 := (Touch.refl [] w).alloc (.cells #[.int .i64 k, .string nm, .int .i64 vk, .int .i64 vn, .string vt, .string op, .slice XA xm c] 33)
  have hb := heap_alloc_new w (.cells #[.int .i64 k, .string nm, .int .i64 vk, .int .i64 vn, .string vt, .string op, .slice XA xm c] 33)
  have Hb := Lib.hid hb
  clear hb
  obtain ⟨cv, hcv⟩ : ∃ r, r = checkV cs := ⟨_, rfl⟩
  rw [← hcv] at Hchk hres
  clear hcv
  by_cases h0 : cv = 0
  rotate_left
  · rw [if_neg h0] at hres
    have Hf := Lib.hid hres
    have q0 : (cv != 0) = true := by simpa using h0
    clear h0 hres
    go_enter Try.func25, Try.ntmps25
    go_wp2_with fail
    refine (Hchk.out _ t0).mono ?_
    rintro e w1 ⟨rfl, t1⟩
    go_wp2_with fail
    go_ret2
    exact ⟨by rw [Hf.out]; rfl, t0.trans0 t1⟩
  subst h0
  rw [if_pos rfl] at hres
  obtain ⟨sz, hsz⟩ : ∃ r, r = sizeX n e := ⟨_, rfl⟩
  rw [← hsz] at Hsz hres
  clear hsz
  by_cases h1 : 256 < sz
  · rw [if_pos h1] at hres
    have Hf := Lib.hid hres
    have q1 : (256 : Int) < (sz : Int) := by omega
    clear h1 hres
    go_enter Try.func25, Try.ntmps25
    go_wp2_with fail
    refine (Hchk.out _ t0).mono ?_
    rintro e w1 ⟨rfl, t1⟩
    obtain ⟨c0, c1, c2, c3, c4, c5, c6, _⟩ := blk7 (t1.blk Hb.out (by simp))
    go_wp2_with fail
    refine (Hsz.out _ (t0.trans0 t1)).mono ?_
    rintro e w2 ⟨rfl, t2⟩
    go_wp2_with fail
    go_ret2
    exact ⟨by rw [Hf.out]; rfl, (t0.trans0 t1).trans0 t2⟩
  · rw [if_neg h1] at hres
    have Hf := Lib.hid hres
    have q1 : ¬ (256 : Int) < (sz : Int) := by omega
    clear h1 hres
    go_enter Try.func25, Try.ntmps25
    go_wp2_with fail
    refine (Hchk.out _ t0).mono ?_
    rintro e w1 ⟨rfl, t1⟩
    obtain ⟨c0, c1, c2, c3, c4, c5, c6, _⟩ := blk7 (t1.blk Hb.out (by simp))
    go_wp2_with fail
    refine (Hsz.out _ (t0.trans0 t1)).mono ?_
    rintro e w2 ⟨rfl, t2⟩
    obtain ⟨c0, c1, c2, c3, c4, c5, c6, _⟩ := blk7 (t2.blk (t1.blk Hb.out (by simp)) (by simp))
    go_wp2_with fail
    refine (Hty.out _ ((t0.trans0 t1).trans0 t2)).mono ?_
    rintro e w3 ⟨rfl, t3⟩
    go_wp2_with fail
    go_ret2
    exact ⟨by rw [Hf.out]; rfl, ((t0.trans0 t1).trans0 t2).trans0 t3⟩

/-- as the program reckons from any row -/
def topX (cs : List CD) (row : List VD) (n : Nat) (e : TX n) : VD × Int :=
  if (typeX cs n e).2 ≠ 0 then (zeroV, (typeX cs n e).2) else if fitR cs row = true then evalX cs row n e else (zeroV, 12)
theorem typeX_ok {cs : List CD} {n : Nat} {e : TX n} (h : (typeX cs n e).2 = 0) : checkV cs = 0 ∧ sizeX n e ≤ 256 ∧ (typedX cs n 1 e).2 = 0 ∧ typeX cs n e = typedX cs n 1 e := by
  unfold typeX at h ⊢
  by_cases h0 : checkV cs = 0
  · rw [if_pos h0] at h ⊢
    by_cases h1 : 256 < sizeX n e
    · rw [if_pos h1] at h; cases h
    · rw [if_neg h1] at h ⊢; exact ⟨h0, by omega, h, rfl⟩
  · rw [if_neg h0] at h; exact absurd h h0
theorem fitR_len {cs : List CD} {row : List VD} (h : fitR cs row = true) : row.length = cs.length := by
  unfold fitR at h
  rw [Bool.and_eq_true] at h
  exact of_decide_eq_true h.1

set_option maxRecDepth 20000 in
set_option maxHeartbeats 3200000 in
theorem topX_any (n : Nat) (e : TX n) (x : XC) (A : Option Addr) (cap m : Nat) (cs : List CD) (hm : cs.length = m) (hok : ∀ c ∈ cs, c.Ok) (B : Option Addr) (rc rm : Nat) (row : List VD) (hrm : row.length = rm) (hvk : ∀ v ∈ row, v.Ok 140737000000000)
    (w : World) (hx : ExP xcE anyB n w x e) (hcs : ColsAt w A cs) (hrow : ValsAt w B row) (hmb : m ≤ 140737000000000) (hrb : rm ≤ 140737000000000) (hs : sizeX n e ≤ 1000000) (hall : allX (fun q => q.v.text.size ≤ 140737000000000) n e) :
    Calls Try.prog 13 #[x.val, .slice A m cap, .slice B rm rc] w fun r w' => r = .returned (.tuple #[(topX cs row n e).1.val, .int .i64 (topX cs row n e).2]) ∧ Touch [] w w' := by
  have Hty := Lib.hid fun w' (t : Touch [] w w') => typeX_any n e x A cap m cs hm hok w' (hx.touch0 t) (hcs.touch0 t) hmb hs hall
  have Hfit := Lib.hid fun w' (t : Touch [] w w') => fits_any A cap m cs hm hok B rc rm row hrm hvk w' (hcs.touch0 t) (hrow.touch0 t) hmb hrb
  have Hev := Lib.hid fun w' (t : Touch [] w w') h1 h2 => eval_any n e x A cap m cs hm B rc rm row hrm w' (hx.touch0 t) (hcs.touch0 t) (hrow.touch0 t) hmb h1 h2 (fun v hv => (hvk v hv).t) hall
  obtain ⟨res, hres⟩ : ∃ res, res = topX cs row n e := ⟨_, rfl⟩
  rw [← hres]
  unfold topX at hres
  obtain ⟨⟨k, nm, ⟨vk, vn, vt⟩, op⟩, XA, xm, c⟩ := x
  simp only [XC.val] at Hty Hfit Hev ⊢
  clear hx hall hs
  have t0 := ((Touch.refl [] w).alloc (.cells #[.int .i64 k, .string nm, .int .i64 vk, .int .i64 vn, .string vt, .string op, .slice XA xm c] 33)).alloc (.cells #[.int .i64 0, .int .i64 0, .string ⟨#[]⟩] 30)
  have hb1 := ((Touch.refl [] (w.alloc (.cells #[.int .i64 k, .string nm, .int .i64 vk, .int .i64 vn, .string vt, .string op, .slice XA xm c] 33))).alloc (.cells #[.int .i64 0, .int .i64 0, .string ⟨#[]⟩] 30)).blk (heap_alloc_new w (.cells #[.int .i64 k, .string nm, .int .i64 vk, .int .i64 vn, .string vt, .string op, .slice XA xm c] 33)) (by simp)
  have hbr := heap_alloc_new (w.alloc (.cells #[.int .i64 k, .string nm, .int .i64 vk, .int .i64 vn, .string vt, .string op, .slice XA xm c] 33)) (.cells #[.int .i64 0, .int .i64 0, .string ⟨#[]⟩] 30)
  simp only [World.size_alloc] at hbr
  obtain ⟨W, hW⟩ : ∃ W, W = (w.alloc (.cells #[.int .i64 k, .string nm, .int .i64 vk, .int .i64 vn, .string vt, .string op, .slice XA xm c] 33)).alloc (.cells #[.int .i64 0, .int .i64 0, .string ⟨#[]⟩] 30) := ⟨_, rfl⟩
  rw [← hW] at hb1 hbr t0
  have HW := Lib.hid hW; have Hb1 := Lib.hid hb1; have Hbr := Lib.hid hbr; have T0 := Lib.hid t0
  have Ho := Lib.hid fun h : (typeX cs n e).2 = 0 => typeX_ok h
  clear hW hb1 hbr t0 hcs hrow
  obtain ⟨⟨ty, er⟩, hte⟩ : ∃ r, r = typeX cs n e := ⟨_, rfl⟩
  rw [← hte] at Hty hres Ho
  simp only at Hty hres Ho
  clear hte
  by_cases h0 : er ≠ 0
  · rw [if_pos h0] at hres
    have Hf := Lib.hid hres
    have q0 : (er != 0) = true := by simpa using h0
    clear h0 hres Ho Hev Hfit
    go_enter Try.func13, Try.ntmps13
    go_wp2_with fail
    rw [← HW.out]
    obtain ⟨a0, a1, a2, a3, a4, a5, a6, _⟩ := blk7 Hb1.out
    go_wp2_with fail
    clear a0 a1 a2 a3 a4 a5 a6
    refine (Hty.out _ T0.out).mono ?_
    rintro e w1 ⟨rfl, u1⟩
    obtain ⟨r0, r1, r2, f0, f1, f2⟩ := blk3 (u1.blk Hbr.out (by simp))
    go_wp2_with fail
    obtain ⟨q1, q2⟩ := out3 (u1.blk Hbr.out (by simp)) (.int .i64 0) (.int .i64 0) (.string ⟨#[]⟩)
    obtain ⟨d0, d1, d2, _⟩ := blk3 q1
    refine bodyPost_ret (v := .tuple #[.agg #[.int .i64 0, .int .i64 0, .string ⟨#[]⟩], .int .i64 er]) (by simp [results, Try.results13, go_sem, d0, d1, d2]) rfl ⟨?_, (T0.out.trans0 u1).trans q2 (fun b hb => .inr (by simp at hb; omega))⟩
    rw [Hf.out]; rfl
  have h0' : er = 0 := by omega
  rw [if_neg h0] at hres
  subst h0'
  obtain ⟨o1, o2, o3, _⟩ := Ho.out rfl
  clear h0 Ho
  rw [o1] at Hfit
  have o4 := okX_of cs n 1 e o3
  rcases hfr : fitR cs row with _ | _
  · rw [hfr, if_neg (by simp)] at hres
    rw [hfr] at Hfit
    have Hf := Lib.hid hres
    clear hres hfr Hev o1 o2 o3 o4
    simp only [decide_true, Bool.and_false] at Hfit
    go_enter Try.func13, Try.ntmps13
    go_wp2_with fail
    rw [← HW.out]
    obtain ⟨a0, a1, a2, a3, a4, a5, a6, _⟩ := blk7 Hb1.out
    go_wp2_with fail
    clear a0 a1 a2 a3 a4 a5 a6
    refine (Hty.out _ T0.out).mono ?_
    rintro e w1 ⟨rfl, u1⟩
    go_wp2_with fail
    refine (Hfit.out _ (T0.out.trans0 u1)).mono ?_
    rintro e w2 ⟨rfl, u2⟩
    obtain ⟨r0, r1, r2, f0, f1, f2⟩ := blk3 (u2.blk (u1.blk Hbr.out (by simp)) (by simp))
    go_wp2_with fail
    obtain ⟨q1, q2⟩ := out3 (u2.blk (u1.blk Hbr.out (by simp)) (by simp)) (.int .i64 0) (.int .i64 0) (.string ⟨#[]⟩)
    obtain ⟨d0, d1, d2, _⟩ := blk3 q1
    refine bodyPost_ret (v := .tuple #[.agg #[.int .i64 0, .int .i64 0, .string ⟨#[]⟩], .int .i64 12]) (by simp [results, Try.results13, go_sem, d0, d1, d2]) rfl ⟨?_, ((T0.out.trans0 u1).trans0 u2).trans q2 (fun b hb => .inr (by simp at hb; omega))⟩
    rw [Hf.out]; rfl
  · rw [hfr, if_pos rfl] at hres
    rw [hfr] at Hfit
    have hev := fun w' t => Hev.out w' t (fitR_len hfr) o4
    rw [← hres] at hev
    obtain ⟨⟨rk, rn, rs⟩, rx⟩ := res
    simp only [VD.val] at hev
    have Hev2 := Lib.hid hev
    clear hres hfr Hev o1 o2 o3 o4 hev
    simp only [decide_true, Bool.and_true] at Hfit
    go_enter Try.func13, Try.ntmps13
    go_wp2_with fail
    rw [← HW.out]
    obtain ⟨a0, a1, a2, a3, a4, a5, a6, _⟩ := blk7 Hb1.out
    go_wp2_with fail
    clear a0 a1 a2 a3 a4 a5 a6
    refine (Hty.out _ T0.out).mono ?_
    rintro e w1 ⟨rfl, u1⟩
    go_wp2_with fail
    refine (Hfit.out _ (T0.out.trans0 u1)).mono ?_
    rintro e w2 ⟨rfl, u2⟩
    obtain ⟨a0, a1, a2, a3, a4, a5, a6, _⟩ := blk7 (u2.blk (u1.blk Hb1.out (by simp)) (by simp))
    go_wp2_with fail
    clear a0 a1 a2 a3 a4 a5 a6
    refine (Hev2.out _ ((T0.out.trans0 u1).trans0 u2)).mono ?_
    rintro e w3 ⟨rfl, u3⟩
    obtain ⟨r0, r1, r2, f0, f1, f2⟩ := blk3 (u3.blk (u2.blk (u1.blk Hbr.out (by simp)) (by simp)) (by simp))
    go_wp2_with fail
    obtain ⟨q1, q2⟩ := out3 (u3.blk (u2.blk (u1.blk Hbr.out (by simp)) (by simp)) (by simp)) (.int .i64 rk) (.int .i64 rn) (.string rs)
    obtain ⟨d0, d1, d2, _⟩ := blk3 q1
    exact bodyPost_ret (v := .tuple #[.agg #[.int .i64 rk, .int .i64 rn, .string rs], .int .i64 rx]) (by simp [results, Try.results13, go_sem, d0, d1, d2]) rfl ⟨rfl, (((T0.out.trans0 u1).trans0 u2).trans0 u3).trans q2 (fun b hb => .inr (by simp at hb; omega))⟩
end Go.Proofs.Ytlkckkagoommaaa

/- What an expression that fits comes to is of its type, or null; how its value hangs on those of its Args. No walk. -/
namespace Go.Proofs.Ytlkckkagoommaaa
open Go.RowKit

/-- a right value of a type, or null; or the null value with an error of reckoning -/
def Snd (t : Int) (r : VD × Int) : Prop := (r.2 = 0 → r.1.right = true ∧ (r.1.kind = 0 ∨ r.1.kind = t)) ∧ (r.2 ≠ 0 → r.1 = zeroV ∧ (r.2 = 10 ∨ r.2 = 11))
theorem empty_S : (S []).toList.isEmpty = true := by rw [isEmpty_S]; simp
theorem right0 (n : Int) (t : ByteArray) : VD.right ⟨0, n, t⟩ = (decide (n = 0) && t.toList.isEmpty) := rfl
theorem right1 (n : Int) (t : ByteArray) : VD.right ⟨1, n, t⟩ = t.toList.isEmpty := rfl
theorem right2 (n : Int) (t : ByteArray) : VD.right ⟨2, n, t⟩ = (decide (n = 0) && plainV t.data.toList) := rfl
theorem right_of (n : Int) : (ofV n).right = true := (right1 n (S [])).trans empty_S
theorem right_zero : zeroV.right = true := (right0 0 (S [])).trans (by rw [empty_S]; rfl)
theorem right_bit (b : Bool) : (bitV b).right = true := by
  cases b
  · exact right_of 0
  · exact right_of 1
theorem bit_kind (b : Bool) : (bitV b).kind = 1 := by cases b <;> rfl
theorem zero_of {v : VD} (h : v.right = true) (h0 : v.kind = 0) : v = zeroV := by
  obtain ⟨k, n, t⟩ := v
  have h0 : k = 0 := h0
  subst h0
  rw [right0, Bool.and_eq_true, isEmpty_S] at h
  rw [of_decide_eq_true h.1, of_decide_eq_true h.2]; rfl
theorem right_kinds {v : VD} (h : v.right = true) : v.kind = 0 ∨ v.kind = 1 ∨ v.kind = 2 := by
  unfold VD.right at h
  split at h
  · exact .inl ‹_›
  · split at h
    · exact .inr (.inl ‹_›)
    · split at h
      · exact .inr (.inr ‹_›)
      · cases h
theorem Snd.ok {t : Int} {v : VD} (h : v.right = true) (hk : v.kind = 0 ∨ v.kind = t) : Snd t (v, 0) := ⟨fun _ => ⟨h, hk⟩, fun h => absurd rfl h⟩
theorem Snd.zero (t : Int) : Snd t (zeroV, 0) := Snd.ok right_zero (.inl rfl)
theorem Snd.num (n : Int) : Snd 1 (ofV n, 0) := Snd.ok (right_of n) (.inr rfl)
theorem Snd.bit (b : Bool) : Snd 1 (bitV b, 0) := Snd.ok (right_bit b) (.inr (bit_kind b))
theorem Snd.err {t t' : Int} {r : VD × Int} (h : Snd t r) (he : r.2 ≠ 0) : Snd t' (zeroV, r.2) := ⟨fun h0 => absurd h0 he, fun _ => ⟨rfl, (h.2 he).2⟩⟩
theorem snd_arith (o : Int) (ho : o = 43 ∨ o = 45 ∨ o = 42 ∨ o = 47 ∨ o = 37) (a b : VD) (ha : a.kind ≠ 2) (hb : b.kind ≠ 2) : Snd 1 (arithV o a b) := by
  unfold arithV
  rw [if_neg (by omega), if_neg (by omega)]
  split
  · exact Snd.zero 1
  · split
    · exact ⟨fun h => (by cases h), fun _ => ⟨rfl, .inr rfl⟩⟩
    · split
      · exact Snd.num _
      · exact ⟨fun h => (by cases h), fun _ => ⟨rfl, .inl rfl⟩⟩
theorem snd_compare (o : Int) (a b : VD) : Snd 1 (compareV o a b, 0) := by
  unfold compareV
  split
  · exact Snd.zero 1
  · exact Snd.bit _
theorem right_text {t : ByteArray} : (VD.right ⟨2, 0, t⟩) = plainV t.data.toList := (right2 0 t).trans (by simp)
theorem plain_of {v : VD} (hv : v.right = true) (hk : v.kind = 2) : v.text.data.toList.all okB = true := by
  obtain ⟨k, n, t⟩ := v
  have hk : k = 2 := hk
  subst hk
  rw [right2, Bool.and_eq_true] at hv
  have h2 := hv.2
  unfold plainV at h2
  rw [Bool.and_eq_true] at h2
  exact h2.1
theorem snd_cat {a b : VD} (ha : a.right = true) (hb : b.right = true) (ka : a.kind = 0 ∨ a.kind = 2) (kb : b.kind = 0 ∨ b.kind = 2) : Snd 2 (catV a b) := by
  unfold catV
  split
  · exact Snd.zero 2
  · rename_i h0
    split
    · exact ⟨fun h => (by cases h), fun _ => ⟨rfl, .inl rfl⟩⟩
    · rename_i h64
      refine Snd.ok ?_ (.inr rfl)
      rw [right_text]
      unfold plainV
      rw [ByteArray.data_append, Array.toList_append, List.all_append, plain_of ha (by omega), plain_of hb (by omega), List.length_append, size_toList, size_toList]
      simp
      omega

section
variable (cs : List CD) (row : List VD) (n : Nat)
theorem ev1 (d : ND) (a : TX n) (h1 : d.kind ≠ 1) (h2 : d.kind ≠ 2) (hl : ∀ f, lazyV d f = none) : evalX cs row (n + 1) (d, [a]) = if (evalX cs row n a).2 ≠ 0 then (zeroV, (evalX cs row n a).2) else aloneV d (evalX cs row n a).1 := by
  rw [evalX_at cs row n ((d, [a]) : TX (n + 1)) h1 h2 (by simp)]
  have hx : lazyX (evalX cs row n) d [a] (evalX cs row n a).1 = none := by unfold lazyX; rw [hl]
  show (if (evalX cs row n a).2 ≠ 0 then _ else match lazyX (evalX cs row n) d [a] (evalX cs row n a).1 with | some z => z | none => _) = _
  rw [hx]; rfl
theorem ev2 (d : ND) (a b : TX n) (h1 : d.kind ≠ 1) (h2 : d.kind ≠ 2) (hl : ∀ f, lazyV d f = none) : evalX cs row (n + 1) (d, [a, b]) = if (evalX cs row n a).2 ≠ 0 then (zeroV, (evalX cs row n a).2) else if (evalX cs row n b).2 ≠ 0 then (zeroV, (evalX cs row n b).2) else bothV d (evalX cs row n a).1 (evalX cs row n b).1 := by
  rw [evalX_at cs row n ((d, [a, b]) : TX (n + 1)) h1 h2 (by simp)]
  have hx : lazyX (evalX cs row n) d [a, b] (evalX cs row n a).1 = none := by unfold lazyX; rw [hl]
  show (if (evalX cs row n a).2 ≠ 0 then _ else match lazyX (evalX cs row n) d [a, b] (evalX cs row n a).1 with | some z => z | none => _) = _
  rw [hx]; rfl
theorem evL (d : ND) (a : TX n) (r : List (TX n)) (h1 : d.kind ≠ 1) (h2 : d.kind ≠ 2) (z : VD × Int) (hl : lazyX (evalX cs row n) d (a :: r) (evalX cs row n a).1 = some z) : evalX cs row (n + 1) (d, a :: r) = if (evalX cs row n a).2 ≠ 0 then (zeroV, (evalX cs row n a).2) else z := by
  rw [evalX_at cs row n ((d, a :: r) : TX (n + 1)) h1 h2 (by simp)]
  show (if (evalX cs row n a).2 ≠ 0 then _ else match lazyX (evalX cs row n) d (a :: r) (evalX cs row n a).1 with | some z => z | none => _) = _
  rw [hl]; rfl
theorem lazyX_val {α : Type} (ev : α → VD × Int) (d : ND) (args : List α) (f v : VD) (h : lazyV d f = some (.inl v)) : lazyX ev d args f = some (v, 0) := by unfold lazyX; rw [h]
theorem lazyX_arg {α : Type} (ev : α → VD × Int) (d : ND) (args : List α) (f : VD) (q : Nat) (a : α) (h : lazyV d f = some (.inr q)) (hq : args[q]? = some a) : lazyX ev d args f = some (bitIf d.kind (ev a)) := by
  unfold lazyX; rw [h]; simp only; rw [hq]
theorem ev_and (v : VD) (a b : TX n) : evalX cs row (n + 1) (⟨4, S [], v, wAnd⟩, [a, b]) = if (evalX cs row n a).2 ≠ 0 then (zeroV, (evalX cs row n a).2) else if (evalX cs row n a).1.tru = true then bitIf 4 (evalX cs row n b) else (ofV 0, 0) := by
  by_cases ht : (evalX cs row n a).1.tru = true
  · rw [evL cs row n ⟨4, S [], v, wAnd⟩ a [b] (show (4 : Int) ≠ 1 by decide) (show (4 : Int) ≠ 2 by decide) _ (lazyX_arg _ _ _ _ 1 b (by unfold lazyV; rw [if_pos rfl, if_pos ht]) rfl), if_pos ht]
  · rw [evL cs row n ⟨4, S [], v, wAnd⟩ a [b] (show (4 : Int) ≠ 1 by decide) (show (4 : Int) ≠ 2 by decide) _ (lazyX_val _ _ _ _ (ofV 0) (by unfold lazyV; rw [if_pos rfl, if_neg ht])), if_neg ht]
theorem ev_or (v : VD) (a b : TX n) : evalX cs row (n + 1) (⟨4, S [], v, wOr⟩, [a, b]) = if (evalX cs row n a).2 ≠ 0 then (zeroV, (evalX cs row n a).2) else if (evalX cs row n a).1.tru = true then (ofV 1, 0) else bitIf 4 (evalX cs row n b) := by
  have h0 : wOr ≠ wAnd := S_ne (by decide)
  by_cases ht : (evalX cs row n a).1.tru = true
  · rw [evL cs row n ⟨4, S [], v, wOr⟩ a [b] (show (4 : Int) ≠ 1 by decide) (show (4 : Int) ≠ 2 by decide) _ (lazyX_val _ _ _ _ (ofV 1) (by unfold lazyV; rw [if_neg h0, if_pos rfl, if_pos ht])), if_pos ht]
  · rw [evL cs row n ⟨4, S [], v, wOr⟩ a [b] (show (4 : Int) ≠ 1 by decide) (show (4 : Int) ≠ 2 by decide) _ (lazyX_arg _ _ _ _ 1 b (by unfold lazyV; rw [if_neg h0, if_pos rfl, if_neg ht]) rfl), if_neg ht]
theorem ev_either (v : VD) (a b : TX n) : evalX cs row (n + 1) (⟨5, wEither, v, S []⟩, [a, b]) = if (evalX cs row n a).2 ≠ 0 then (zeroV, (evalX cs row n a).2) else if (evalX cs row n a).1.kind = 0 then evalX cs row n b else ((evalX cs row n a).1, 0) := by
  have h0 : S [] ≠ wAnd := S_ne (by decide)
  have h1 : S [] ≠ wOr := S_ne (by decide)
  have hb : ∀ r : VD × Int, bitIf 5 r = r := fun r => by unfold bitIf; rw [if_neg (fun h => absurd h.2 (by decide))]
  by_cases ht : (evalX cs row n a).1.kind = 0
  · rw [evL cs row n ⟨5, wEither, v, S []⟩ a [b] (show (5 : Int) ≠ 1 by decide) (show (5 : Int) ≠ 2 by decide) _ (lazyX_arg _ _ _ _ 1 b (by unfold lazyV; rw [if_neg h0, if_neg h1, if_pos rfl, if_pos ht]) rfl), if_pos ht]
    simp only [hb]
  · rw [evL cs row n ⟨5, wEither, v, S []⟩ a [b] (show (5 : Int) ≠ 1 by decide) (show (5 : Int) ≠ 2 by decide) _ (lazyX_val _ _ _ _ _ (by unfold lazyV; rw [if_neg h0, if_neg h1, if_pos rfl, if_neg ht])), if_neg ht]
theorem ev_if (v : VD) (a b c : TX n) : evalX cs row (n + 1) (⟨5, wIf, v, S []⟩, [a, b, c]) = if (evalX cs row n a).2 ≠ 0 then (zeroV, (evalX cs row n a).2) else if (evalX cs row n a).1.tru = true then evalX cs row n b else evalX cs row n c := by
  have h0 : S [] ≠ wAnd := S_ne (by decide)
  have h1 : S [] ≠ wOr := S_ne (by decide)
  have h2 : wIf ≠ wEither := S_ne (by decide)
  have hb : ∀ r : VD × Int, bitIf 5 r = r := fun r => by unfold bitIf; rw [if_neg (fun h => absurd h.2 (by decide))]
  by_cases ht : (evalX cs row n a).1.tru = true
  · rw [evL cs row n ⟨5, wIf, v, S []⟩ a [b, c] (show (5 : Int) ≠ 1 by decide) (show (5 : Int) ≠ 2 by decide) _ (lazyX_arg _ _ _ _ 1 b (by unfold lazyV; rw [if_neg h0, if_neg h1, if_neg h2, if_pos rfl, if_pos ht]) rfl), if_pos ht]
    simp only [hb]
  · rw [evL cs row n ⟨5, wIf, v, S []⟩ a [b, c] (show (5 : Int) ≠ 1 by decide) (show (5 : Int) ≠ 2 by decide) _ (lazyX_arg _ _ _ _ 2 c (by unfold lazyV; rw [if_neg h0, if_neg h1, if_neg h2, if_pos rfl, if_neg ht]) rfl), if_neg ht]
    simp only [hb]
end
/-- how a right type comes about -/
theorem typed_inv {cs : List CD} {n d : Nat} {e : TX (n + 1)} (h : (typedX cs (n + 1) d e).2 = 0) : formV e.1 e.2.length = true ∧
    ((e.1.kind = 2 ∧ (typedX cs (n + 1) d e).1 = e.1.v.kind) ∨ (e.1.kind = 1 ∧ ∃ k, placeV cs e.1.name = some k ∧ ∃ hk : k < cs.length, (typedX cs (n + 1) d e).1 = cs[k].typ) ∨
      (e.1.kind ≠ 1 ∧ e.1.kind ≠ 2 ∧ (∀ a ∈ e.2, (typedX cs n (d + 1) a).2 = 0) ∧ typedX cs (n + 1) d e = refTail e.1.kind e.1.name e.1.op (e.2.map fun a => (typedX cs n (d + 1) a).1))) := by
  rw [typedX_succ] at h ⊢
  by_cases h1 : 32 < d
  · rw [if_pos h1] at h; cases h
  rw [if_neg h1] at h ⊢
  by_cases h2 : formV e.1 e.2.length = false
  · rw [if_pos h2] at h; cases h
  rw [if_neg h2] at h ⊢
  have h2' : formV e.1 e.2.length = true := by simpa using h2
  refine ⟨h2', ?_⟩
  by_cases h3 : e.1.kind = 2
  · rw [if_pos h3]; exact .inl ⟨h3, rfl⟩
  rw [if_neg h3] at h ⊢
  by_cases h4 : e.1.kind = 1
  · rw [if_pos h4] at h ⊢
    refine .inr (.inl ⟨h4, ?_⟩)
    rcases hp : placeV cs e.1.name with _ | q
    · unfold colT at h; rw [hp] at h; cases h
    · refine ⟨q, rfl, placeV_lt hp, ?_⟩
      unfold colT
      rw [hp]
      simp only
      rw [List.getElem?_eq_getElem (placeV_lt hp)]
      rfl
  rw [if_neg h4] at h ⊢
  refine .inr (.inr ⟨h4, h3, ?_⟩)
  rcases hf : e.2.find? (fun a => decide ((typedX cs n (d + 1) a).2 ≠ 0)) with _ | b
  · rw [hf] at h
    refine ⟨fun a ha => ?_, ?_⟩
    · have := List.find?_eq_none.1 hf a ha
      simpa using this
    · exact tail_eq (ts := e.2.map fun a => (typedX cs n (d + 1) a).1) (by rw [List.length_map]; exact h2') h4 h3
  · rw [hf] at h
    have := List.find?_some hf
    simp only [decide_eq_true_eq] at this
    exact absurd h this
end Go.Proofs.Ytlkckkagoommaaa

/- What an expression that fits comes to is of its type, or null: for every expression. No walk. -/
namespace Go.Proofs.Ytlkckkagoommaaa
open Go.RowKit

theorem Snd.to {t t' : Int} {r : VD × Int} (h : Snd t r) (ht : t = t' ∨ t = 0) : Snd t' r := by
  refine ⟨fun h0 => ⟨(h.1 h0).1, ?_⟩, fun h0 => ⟨(h.2 h0).1, (h.2 h0).2⟩⟩
  rcases (h.1 h0).2 with q | q
  · exact .inl q
  · rcases ht with rfl | rfl
    · exact .inr q
    · exact .inl q
theorem Snd.pair {t : Int} {r : VD × Int} (h : Snd t r) (h0 : r.2 = 0) : Snd t (r.1, 0) := Snd.ok (h.1 h0).1 (h.1 h0).2
theorem snd_bitIf {t : Int} {r : VD × Int} (h : Snd t r) : Snd 1 (bitIf 4 r) := by
  unfold bitIf
  by_cases h0 : r.2 = 0
  · rw [if_pos ⟨h0, rfl⟩]; exact Snd.bit _
  · rw [if_neg (fun q => h0 q.1)]
    exact ⟨fun q => absurd q h0, fun _ => ⟨(h.2 h0).1, (h.2 h0).2⟩⟩
theorem snd_if {t : Int} {r z : VD × Int} (h : Snd t r) {t' : Int} (hz : r.2 = 0 → Snd t' z) : Snd t' (if r.2 ≠ 0 then (zeroV, r.2) else z) := by
  by_cases h0 : r.2 = 0
  · rw [if_neg (by simpa using h0)]; exact hz h0
  · rw [if_pos h0]; exact h.err h0
theorem misfit_no {nd t : Int} (h : misfit nd t = false) (hn : nd ≠ 0) : t = 0 ∨ t = nd := by
  unfold misfit at h
  rw [decide_eq_true hn, Bool.true_and, Bool.and_eq_false_iff] at h
  rcases h with h | h
  · left; simpa using h
  · right; simpa using h
theorem need1 {k : Int} {nm op : ByteArray} {nd a : Int} (h1 : ¬ (k = 5 ∧ inL nm nEI = true)) (h2 : ¬ (k = 4 ∧ inL op nCMP = true)) (h3 : needV k nm op = nd) (h : (refTail k nm op [a]).2 = 0) : misfit nd a = false ∧ refTail k nm op [a] = if k = 5 ∧ nm = S [99, 97, 116] then (2, 0) else (1, 0) := by
  rw [refTail_need h1 h2 h3] at h ⊢
  simp only [List.any_cons, List.any_nil, Bool.or_false] at h ⊢
  cases hm : misfit nd a
  · rw [hm] at h; exact ⟨rfl, if_neg (by simp)⟩
  · rw [hm, if_pos rfl] at h; cases h
theorem need2 {k : Int} {nm op : ByteArray} {nd a b : Int} (h1 : ¬ (k = 5 ∧ inL nm nEI = true)) (h2 : ¬ (k = 4 ∧ inL op nCMP = true)) (h3 : needV k nm op = nd) (h : (refTail k nm op [a, b]).2 = 0) : misfit nd a = false ∧ misfit nd b = false ∧ refTail k nm op [a, b] = if k = 5 ∧ nm = S [99, 97, 116] then (2, 0) else (1, 0) := by
  rw [refTail_need h1 h2 h3] at h ⊢
  simp only [List.any_cons, List.any_nil, Bool.or_false] at h ⊢
  cases hm : misfit nd a
  · cases hm2 : misfit nd b
    · exact ⟨rfl, rfl, if_neg (by simp)⟩
    · rw [hm, hm2] at h; exact absurd h (by simp)
  · rw [hm] at h; exact absurd h (by simp)
theorem alone_neg (v f : VD) : aloneV ⟨3, S [], v, S [45]⟩ f = if f.kind = 0 then (f, 0) else arithV 45 (ofV 0) f := by
  have w1 : S [45] ≠ wNot := S_ne (by decide)
  have w2 : S [] ≠ wIsnull := S_ne (by decide)
  have w3 : S [] ≠ wLen := S_ne (by decide)
  have w4 : S [] ≠ wAbs := S_ne (by decide)
  unfold aloneV
  rw [if_neg w1, if_neg w2, if_neg w3, if_neg (show ¬ (S [] = wAbs ∧ 0 ≤ f.num) from fun q => w4 q.1)]
theorem alone_not (v f : VD) : aloneV ⟨3, S [], v, wNot⟩ f = (bitV (!f.tru), 0) := by unfold aloneV; rw [if_pos (show wNot = wNot from rfl)]
theorem alone_len (v f : VD) : aloneV ⟨5, wLen, v, S []⟩ f = if f.kind = 0 then (f, 0) else (ofV f.text.size, 0) := by
  have w1 : S [] ≠ wNot := S_ne (by decide)
  have w2 : wLen ≠ wIsnull := S_ne (by decide)
  unfold aloneV
  rw [if_neg w1, if_neg w2, if_pos (show wLen = wLen from rfl)]
theorem alone_abs (v f : VD) : aloneV ⟨5, wAbs, v, S []⟩ f = if f.kind = 0 then (f, 0) else if 0 ≤ f.num then (f, 0) else arithV 45 (ofV 0) f := by
  have w1 : S [] ≠ wNot := S_ne (by decide)
  have w2 : wAbs ≠ wIsnull := S_ne (by decide)
  have w3 : wAbs ≠ wLen := S_ne (by decide)
  unfold aloneV
  rw [if_neg w1, if_neg w2, if_neg w3]
  by_cases h : 0 ≤ f.num
  · rw [if_pos (show wAbs = wAbs ∧ 0 ≤ f.num from ⟨rfl, h⟩), if_pos h]
  · rw [if_neg (show ¬ (wAbs = wAbs ∧ 0 ≤ f.num) from fun q => h q.2), if_neg h]
theorem alone_isnull (v f : VD) : aloneV ⟨5, wIsnull, v, S []⟩ f = (bitV (decide (f.kind = 0)), 0) := by
  have w1 : S [] ≠ wNot := S_ne (by decide)
  unfold aloneV
  rw [if_neg w1, if_pos (show wIsnull = wIsnull from rfl)]
theorem both_cat (v f s : VD) : bothV ⟨5, wCat, v, S []⟩ f s = catV f s := by unfold bothV; rw [if_pos (show wCat = wCat from rfl)]
theorem both_cmp (op : ByteArray) (v f s : VD) (h : 0 < cmpI op) : bothV ⟨4, S [], v, op⟩ f s = (compareV (cmpI op) f s, 0) := by
  have w1 : S [] ≠ wCat := S_ne (by decide)
  unfold bothV
  rw [if_neg w1, if_pos h]
theorem both_ari (o : UInt8) (v f s : VD) (h : ¬ 0 < cmpI (S [o])) : bothV ⟨4, S [], v, S [o]⟩ f s = arithV (o.toNat : Int) f s := by
  have w1 : S [] ≠ wCat := S_ne (by decide)
  unfold bothV
  rw [if_neg w1, if_neg h]
  rfl
theorem lazy_none (k : Int) (nm op : ByteArray) (v : VD) (h1 : op ≠ wAnd) (h2 : op ≠ wOr) (h3 : nm ≠ wEither) (h4 : nm ≠ wIf) : ∀ f, lazyV ⟨k, nm, v, op⟩ f = none := fun f => by
  unfold lazyV
  rw [if_neg h1, if_neg h2, if_neg h3, if_neg h4]
theorem fitR_at {cs : List CD} {row : List VD} (h : fitR cs row = true) (k : Nat) (h1 : k < cs.length) (h2 : k < row.length) : fitC cs[k] row[k] = true := by
  unfold fitR at h
  rw [Bool.and_eq_true, List.all_eq_true] at h
  have hk : k < (List.zipWith fitC cs row).length := by rw [List.length_zipWith]; omega
  have := h.2 _ (List.getElem_mem hk)
  rw [List.getElem_zipWith] at this
  exact this
theorem snd_alone {t : Int} {f : VD} (h : Snd t (f, 0)) (ht : t = 0 ∨ t = 1) : Snd 1 (if f.kind = 0 then (f, 0) else arithV 45 (ofV 0) f) := by
  obtain ⟨hr, hk⟩ := h.1 rfl
  by_cases h0 : f.kind = 0
  · rw [if_pos h0]; exact Snd.ok hr (.inl h0)
  · rw [if_neg h0]
    exact snd_arith 45 (by decide) _ _ (by decide) (fun q => by have hk : f.kind = 0 ∨ f.kind = t := hk; omega)
/-- the value of an operation whose Args are sound -/
def AllS (cs : List CD) (row : List VD) (n d : Nat) (args : List (TX n)) : Prop := ∀ a ∈ args, Snd (typedX cs n d a).1 (evalX cs row n a)
theorem snd_neg {cs : List CD} {row : List VD} {n d : Nat} (v : VD) (a : TX n) (ih : AllS cs row n d [a]) (h : (refTail 3 (S []) (S [45]) [(typedX cs n d a).1]).2 = 0) : Snd (refTail 3 (S []) (S [45]) [(typedX cs n d a).1]).1 (evalX cs row (n + 1) (⟨3, S [], v, S [45]⟩, [a])) := by
  have ha := ih a List.mem_cons_self
  obtain ⟨h1, h2⟩ := need1 (nd := 1) (fun q => absurd (show (3 : Int) = 5 from q.1) (by decide)) (fun q => absurd (show (3 : Int) = 4 from q.1) (by decide)) rfl h
  rw [h2, if_neg (fun q => absurd (show (3 : Int) = 5 from q.1) (by decide)), ev1 cs row n ⟨3, S [], v, S [45]⟩ a (show (3 : Int) ≠ 1 by decide) (show (3 : Int) ≠ 2 by decide) (lazy_none _ _ _ _ (S_ne (by decide)) (S_ne (by decide)) (S_ne (by decide)) (S_ne (by decide)))]
  refine snd_if ha fun h0 => ?_
  rw [alone_neg]
  exact snd_alone (ha.pair h0) (misfit_no h1 (by decide))
theorem snd_not {cs : List CD} {row : List VD} {n d : Nat} (v : VD) (a : TX n) (ih : AllS cs row n d [a]) (h : (refTail 3 (S []) (wNot) [(typedX cs n d a).1]).2 = 0) : Snd (refTail 3 (S []) (wNot) [(typedX cs n d a).1]).1 (evalX cs row (n + 1) (⟨3, S [], v, wNot⟩, [a])) := by
  have ha := ih a List.mem_cons_self
  obtain ⟨h1, h2⟩ := need1 (nd := 0) (fun q => absurd (show (3 : Int) = 5 from q.1) (by decide)) (fun q => absurd (show (3 : Int) = 4 from q.1) (by decide)) rfl h
  rw [h2, if_neg (fun q => absurd (show (3 : Int) = 5 from q.1) (by decide)), ev1 cs row n ⟨3, S [], v, wNot⟩ a (show (3 : Int) ≠ 1 by decide) (show (3 : Int) ≠ 2 by decide) (lazy_none _ _ _ _ (S_ne (by decide)) (S_ne (by decide)) (S_ne (by decide)) (S_ne (by decide)))]
  refine snd_if ha fun h0 => ?_
  rw [alone_not]
  exact Snd.bit _
theorem snd_len {cs : List CD} {row : List VD} {n d : Nat} (v : VD) (a : TX n) (ih : AllS cs row n d [a]) (h : (refTail 5 (wLen) (S []) [(typedX cs n d a).1]).2 = 0) : Snd (refTail 5 (wLen) (S []) [(typedX cs n d a).1]).1 (evalX cs row (n + 1) (⟨5, wLen, v, S []⟩, [a])) := by
  have ha := ih a List.mem_cons_self
  obtain ⟨h1, h2⟩ := need1 (nd := 2) (fun q => absurd (show inL (wLen) nEI = true from q.2) (by decide)) (fun q => absurd (show (5 : Int) = 4 from q.1) (by decide)) rfl h
  rw [h2, if_neg (fun q => absurd (show wLen = S [99, 97, 116] from q.2) (S_ne (by decide))), ev1 cs row n ⟨5, wLen, v, S []⟩ a (show (5 : Int) ≠ 1 by decide) (show (5 : Int) ≠ 2 by decide) (lazy_none _ _ _ _ (S_ne (by decide)) (S_ne (by decide)) (S_ne (by decide)) (S_ne (by decide)))]
  refine snd_if ha fun h0 => ?_
  rw [alone_len]
  split
  · rename_i q; exact Snd.ok (ha.1 h0).1 (.inl q)
  · exact Snd.num _
theorem snd_abs {cs : List CD} {row : List VD} {n d : Nat} (v : VD) (a : TX n) (ih : AllS cs row n d [a]) (h : (refTail 5 (wAbs) (S []) [(typedX cs n d a).1]).2 = 0) : Snd (refTail 5 (wAbs) (S []) [(typedX cs n d a).1]).1 (evalX cs row (n + 1) (⟨5, wAbs, v, S []⟩, [a])) := by
  have ha := ih a List.mem_cons_self
  obtain ⟨h1, h2⟩ := need1 (nd := 1) (fun q => absurd (show inL (wAbs) nEI = true from q.2) (by decide)) (fun q => absurd (show (5 : Int) = 4 from q.1) (by decide)) rfl h
  rw [h2, if_neg (fun q => absurd (show wAbs = S [99, 97, 116] from q.2) (S_ne (by decide))), ev1 cs row n ⟨5, wAbs, v, S []⟩ a (show (5 : Int) ≠ 1 by decide) (show (5 : Int) ≠ 2 by decide) (lazy_none _ _ _ _ (S_ne (by decide)) (S_ne (by decide)) (S_ne (by decide)) (S_ne (by decide)))]
  refine snd_if ha fun h0 => ?_
  rw [alone_abs]
  have hs := snd_alone (ha.pair h0) (misfit_no h1 (by decide))
  by_cases q : (evalX cs row n a).1.kind = 0
  · rw [if_pos q]; exact Snd.ok (ha.1 h0).1 (.inl q)
  rw [if_neg q] at hs ⊢
  split
  · exact Snd.ok (ha.1 h0).1 (.inr (by have h5 := (ha.1 h0).2; have h6 := misfit_no h1 (by decide); omega))
  · exact hs
theorem snd_isnull {cs : List CD} {row : List VD} {n d : Nat} (v : VD) (a : TX n) (ih : AllS cs row n d [a]) (h : (refTail 5 (wIsnull) (S []) [(typedX cs n d a).1]).2 = 0) : Snd (refTail 5 (wIsnull) (S []) [(typedX cs n d a).1]).1 (evalX cs row (n + 1) (⟨5, wIsnull, v, S []⟩, [a])) := by
  have ha := ih a List.mem_cons_self
  obtain ⟨h1, h2⟩ := need1 (nd := 0) (fun q => absurd (show inL (wIsnull) nEI = true from q.2) (by decide)) (fun q => absurd (show (5 : Int) = 4 from q.1) (by decide)) rfl h
  rw [h2, if_neg (fun q => absurd (show wIsnull = S [99, 97, 116] from q.2) (S_ne (by decide))), ev1 cs row n ⟨5, wIsnull, v, S []⟩ a (show (5 : Int) ≠ 1 by decide) (show (5 : Int) ≠ 2 by decide) (lazy_none _ _ _ _ (S_ne (by decide)) (S_ne (by decide)) (S_ne (by decide)) (S_ne (by decide)))]
  refine snd_if ha fun h0 => ?_
  rw [alone_isnull]
  exact Snd.bit _
theorem snd_ari0 {cs : List CD} {row : List VD} {n d : Nat} (v : VD) (a b : TX n) (ih : AllS cs row n d [a, b]) (h : (refTail 4 (S []) (S [43]) [(typedX cs n d a).1, (typedX cs n d b).1]).2 = 0) : Snd (refTail 4 (S []) (S [43]) [(typedX cs n d a).1, (typedX cs n d b).1]).1 (evalX cs row (n + 1) (⟨4, S [], v, S [43]⟩, [a, b])) := by
  have ha := ih a List.mem_cons_self
  have hb := ih b (List.mem_cons_of_mem _ List.mem_cons_self)
  obtain ⟨h1, h3, h2⟩ := need2 (nd := 1) (fun q => absurd (show (4 : Int) = 5 from q.1) (by decide)) (fun q => absurd (show inL (S [43]) nCMP = true from q.2) (by decide)) rfl h
  rw [h2, if_neg (fun q => absurd (show (4 : Int) = 5 from q.1) (by decide)), ev2 cs row n ⟨4, S [], v, S [43]⟩ a b (show (4 : Int) ≠ 1 by decide) (show (4 : Int) ≠ 2 by decide) (lazy_none _ _ _ _ (S_ne (by decide)) (S_ne (by decide)) (S_ne (by decide)) (S_ne (by decide)))]
  refine snd_if ha fun h0 => snd_if hb fun h5 => ?_
  rw [both_ari 43 _ _ _ (by decide)]
  have ka := (ha.1 h0).2; have kb := (hb.1 h5).2; have ma := misfit_no h1 (by decide); have mb := misfit_no h3 (by decide)
  exact snd_arith _ (by decide) _ _ (by omega) (by omega)
theorem snd_ari1 {cs : List CD} {row : List VD} {n d : Nat} (v : VD) (a b : TX n) (ih : AllS cs row n d [a, b]) (h : (refTail 4 (S []) (S [45]) [(typedX cs n d a).1, (typedX cs n d b).1]).2 = 0) : Snd (refTail 4 (S []) (S [45]) [(typedX cs n d a).1, (typedX cs n d b).1]).1 (evalX cs row (n + 1) (⟨4, S [], v, S [45]⟩, [a, b])) := by
  have ha := ih a List.mem_cons_self
  have hb := ih b (List.mem_cons_of_mem _ List.mem_cons_self)
  obtain ⟨h1, h3, h2⟩ := need2 (nd := 1) (fun q => absurd (show (4 : Int) = 5 from q.1) (by decide)) (fun q => absurd (show inL (S [45]) nCMP = true from q.2) (by decide)) rfl h
  rw [h2, if_neg (fun q => absurd (show (4 : Int) = 5 from q.1) (by decide)), ev2 cs row n ⟨4, S [], v, S [45]⟩ a b (show (4 : Int) ≠ 1 by decide) (show (4 : Int) ≠ 2 by decide) (lazy_none _ _ _ _ (S_ne (by decide)) (S_ne (by decide)) (S_ne (by decide)) (S_ne (by decide)))]
  refine snd_if ha fun h0 => snd_if hb fun h5 => ?_
  rw [both_ari 45 _ _ _ (by decide)]
  have ka := (ha.1 h0).2; have kb := (hb.1 h5).2; have ma := misfit_no h1 (by decide); have mb := misfit_no h3 (by decide)
  exact snd_arith _ (by decide) _ _ (by omega) (by omega)
theorem snd_ari2 {cs : List CD} {row : List VD} {n d : Nat} (v : VD) (a b : TX n) (ih : AllS cs row n d [a, b]) (h : (refTail 4 (S []) (S [42]) [(typedX cs n d a).1, (typedX cs n d b).1]).2 = 0) : Snd (refTail 4 (S []) (S [42]) [(typedX cs n d a).1, (typedX cs n d b).1]).1 (evalX cs row (n + 1) (⟨4, S [], v, S [42]⟩, [a, b])) := by
  have ha := ih a List.mem_cons_self
  have hb := ih b (List.mem_cons_of_mem _ List.mem_cons_self)
  obtain ⟨h1, h3, h2⟩ := need2 (nd := 1) (fun q => absurd (show (4 : Int) = 5 from q.1) (by decide)) (fun q => absurd (show inL (S [42]) nCMP = true from q.2) (by decide)) rfl h
  rw [h2, if_neg (fun q => absurd (show (4 : Int) = 5 from q.1) (by decide)), ev2 cs row n ⟨4, S [], v, S [42]⟩ a b (show (4 : Int) ≠ 1 by decide) (show (4 : Int) ≠ 2 by decide) (lazy_none _ _ _ _ (S_ne (by decide)) (S_ne (by decide)) (S_ne (by decide)) (S_ne (by decide)))]
  refine snd_if ha fun h0 => snd_if hb fun h5 => ?_
  rw [both_ari 42 _ _ _ (by decide)]
  have ka := (ha.1 h0).2; have kb := (hb.1 h5).2; have ma := misfit_no h1 (by decide); have mb := misfit_no h3 (by decide)
  exact snd_arith _ (by decide) _ _ (by omega) (by omega)
theorem snd_ari3 {cs : List CD} {row : List VD} {n d : Nat} (v : VD) (a b : TX n) (ih : AllS cs row n d [a, b]) (h : (refTail 4 (S []) (S [47]) [(typedX cs n d a).1, (typedX cs n d b).1]).2 = 0) : Snd (refTail 4 (S []) (S [47]) [(typedX cs n d a).1, (typedX cs n d b).1]).1 (evalX cs row (n + 1) (⟨4, S [], v, S [47]⟩, [a, b])) := by
  have ha := ih a List.mem_cons_self
  have hb := ih b (List.mem_cons_of_mem _ List.mem_cons_self)
  obtain ⟨h1, h3, h2⟩ := need2 (nd := 1) (fun q => absurd (show (4 : Int) = 5 from q.1) (by decide)) (fun q => absurd (show inL (S [47]) nCMP = true from q.2) (by decide)) rfl h
  rw [h2, if_neg (fun q => absurd (show (4 : Int) = 5 from q.1) (by decide)), ev2 cs row n ⟨4, S [], v, S [47]⟩ a b (show (4 : Int) ≠ 1 by decide) (show (4 : Int) ≠ 2 by decide) (lazy_none _ _ _ _ (S_ne (by decide)) (S_ne (by decide)) (S_ne (by decide)) (S_ne (by decide)))]
  refine snd_if ha fun h0 => snd_if hb fun h5 => ?_
  rw [both_ari 47 _ _ _ (by decide)]
  have ka := (ha.1 h0).2; have kb := (hb.1 h5).2; have ma := misfit_no h1 (by decide); have mb := misfit_no h3 (by decide)
  exact snd_arith _ (by decide) _ _ (by omega) (by omega)
theorem snd_ari4 {cs : List CD} {row : List VD} {n d : Nat} (v : VD) (a b : TX n) (ih : AllS cs row n d [a, b]) (h : (refTail 4 (S []) (S [37]) [(typedX cs n d a).1, (typedX cs n d b).1]).2 = 0) : Snd (refTail 4 (S []) (S [37]) [(typedX cs n d a).1, (typedX cs n d b).1]).1 (evalX cs row (n + 1) (⟨4, S [], v, S [37]⟩, [a, b])) := by
  have ha := ih a List.mem_cons_self
  have hb := ih b (List.mem_cons_of_mem _ List.mem_cons_self)
  obtain ⟨h1, h3, h2⟩ := need2 (nd := 1) (fun q => absurd (show (4 : Int) = 5 from q.1) (by decide)) (fun q => absurd (show inL (S [37]) nCMP = true from q.2) (by decide)) rfl h
  rw [h2, if_neg (fun q => absurd (show (4 : Int) = 5 from q.1) (by decide)), ev2 cs row n ⟨4, S [], v, S [37]⟩ a b (show (4 : Int) ≠ 1 by decide) (show (4 : Int) ≠ 2 by decide) (lazy_none _ _ _ _ (S_ne (by decide)) (S_ne (by decide)) (S_ne (by decide)) (S_ne (by decide)))]
  refine snd_if ha fun h0 => snd_if hb fun h5 => ?_
  rw [both_ari 37 _ _ _ (by decide)]
  have ka := (ha.1 h0).2; have kb := (hb.1 h5).2; have ma := misfit_no h1 (by decide); have mb := misfit_no h3 (by decide)
  exact snd_arith _ (by decide) _ _ (by omega) (by omega)
theorem snd_cmp0 {cs : List CD} {row : List VD} {n d : Nat} (v : VD) (a b : TX n) (ih : AllS cs row n d [a, b]) (h : (refTail 4 (S []) (S [61]) [(typedX cs n d a).1, (typedX cs n d b).1]).2 = 0) : Snd (refTail 4 (S []) (S [61]) [(typedX cs n d a).1, (typedX cs n d b).1]).1 (evalX cs row (n + 1) (⟨4, S [], v, S [61]⟩, [a, b])) := by
  have ha := ih a List.mem_cons_self
  have hb := ih b (List.mem_cons_of_mem _ List.mem_cons_self)
  have h2 := refTail_cmp (k := 4) (nm := S []) (op := S [61]) (ts := [(typedX cs n d a).1, (typedX cs n d b).1]) (a := (typedX cs n d a).1) (b := (typedX cs n d b).1) ⟨rfl, show inL (S [61]) nCMP = true by decide⟩ rfl rfl
  rw [h2] at h ⊢
  by_cases hm : (typedX cs n d a).1 ≠ 0 ∧ (typedX cs n d b).1 ≠ 0 ∧ (typedX cs n d a).1 ≠ (typedX cs n d b).1
  · rw [if_pos hm] at h; cases h
  rw [if_neg hm, ev2 cs row n ⟨4, S [], v, S [61]⟩ a b (show (4 : Int) ≠ 1 by decide) (show (4 : Int) ≠ 2 by decide) (lazy_none _ _ _ _ (S_ne (by decide)) (S_ne (by decide)) (S_ne (by decide)) (S_ne (by decide)))]
  refine snd_if ha fun h0 => snd_if hb fun h5 => ?_
  rw [both_cmp _ _ _ _ (by decide)]
  exact snd_compare _ _ _
theorem snd_cmp1 {cs : List CD} {row : List VD} {n d : Nat} (v : VD) (a b : TX n) (ih : AllS cs row n d [a, b]) (h : (refTail 4 (S []) (S [33, 61]) [(typedX cs n d a).1, (typedX cs n d b).1]).2 = 0) : Snd (refTail 4 (S []) (S [33, 61]) [(typedX cs n d a).1, (typedX cs n d b).1]).1 (evalX cs row (n + 1) (⟨4, S [], v, S [33, 61]⟩, [a, b])) := by
  have ha := ih a List.mem_cons_self
  have hb := ih b (List.mem_cons_of_mem _ List.mem_cons_self)
  have h2 := refTail_cmp (k := 4) (nm := S []) (op := S [33, 61]) (ts := [(typedX cs n d a).1, (typedX cs n d b).1]) (a := (typedX cs n d a).1) (b := (typedX cs n d b).1) ⟨rfl, show inL (S [33, 61]) nCMP = true by decide⟩ rfl rfl
  rw [h2] at h ⊢
  by_cases hm : (typedX cs n d a).1 ≠ 0 ∧ (typedX cs n d b).1 ≠ 0 ∧ (typedX cs n d a).1 ≠ (typedX cs n d b).1
  · rw [if_pos hm] at h; cases h
  rw [if_neg hm, ev2 cs row n ⟨4, S [], v, S [33, 61]⟩ a b (show (4 : Int) ≠ 1 by decide) (show (4 : Int) ≠ 2 by decide) (lazy_none _ _ _ _ (S_ne (by decide)) (S_ne (by decide)) (S_ne (by decide)) (S_ne (by decide)))]
  refine snd_if ha fun h0 => snd_if hb fun h5 => ?_
  rw [both_cmp _ _ _ _ (by decide)]
  exact snd_compare _ _ _
theorem snd_cmp2 {cs : List CD} {row : List VD} {n d : Nat} (v : VD) (a b : TX n) (ih : AllS cs row n d [a, b]) (h : (refTail 4 (S []) (S [60]) [(typedX cs n d a).1, (typedX cs n d b).1]).2 = 0) : Snd (refTail 4 (S []) (S [60]) [(typedX cs n d a).1, (typedX cs n d b).1]).1 (evalX cs row (n + 1) (⟨4, S [], v, S [60]⟩, [a, b])) := by
  have ha := ih a List.mem_cons_self
  have hb := ih b (List.mem_cons_of_mem _ List.mem_cons_self)
  have h2 := refTail_cmp (k := 4) (nm := S []) (op := S [60]) (ts := [(typedX cs n d a).1, (typedX cs n d b).1]) (a := (typedX cs n d a).1) (b := (typedX cs n d b).1) ⟨rfl, show inL (S [60]) nCMP = true by decide⟩ rfl rfl
  rw [h2] at h ⊢
  by_cases hm : (typedX cs n d a).1 ≠ 0 ∧ (typedX cs n d b).1 ≠ 0 ∧ (typedX cs n d a).1 ≠ (typedX cs n d b).1
  · rw [if_pos hm] at h; cases h
  rw [if_neg hm, ev2 cs row n ⟨4, S [], v, S [60]⟩ a b (show (4 : Int) ≠ 1 by decide) (show (4 : Int) ≠ 2 by decide) (lazy_none _ _ _ _ (S_ne (by decide)) (S_ne (by decide)) (S_ne (by decide)) (S_ne (by decide)))]
  refine snd_if ha fun h0 => snd_if hb fun h5 => ?_
  rw [both_cmp _ _ _ _ (by decide)]
  exact snd_compare _ _ _
theorem snd_cmp3 {cs : List CD} {row : List VD} {n d : Nat} (v : VD) (a b : TX n) (ih : AllS cs row n d [a, b]) (h : (refTail 4 (S []) (S [60, 61]) [(typedX cs n d a).1, (typedX cs n d b).1]).2 = 0) : Snd (refTail 4 (S []) (S [60, 61]) [(typedX cs n d a).1, (typedX cs n d b).1]).1 (evalX cs row (n + 1) (⟨4, S [], v, S [60, 61]⟩, [a, b])) := by
  have ha := ih a List.mem_cons_self
  have hb := ih b (List.mem_cons_of_mem _ List.mem_cons_self)
  have h2 := refTail_cmp (k := 4) (nm := S []) (op := S [60, 61]) (ts := [(typedX cs n d a).1, (typedX cs n d b).1]) (a := (typedX cs n d a).1) (b := (typedX cs n d b).1) ⟨rfl, show inL (S [60, 61]) nCMP = true by decide⟩ rfl rfl
  rw [h2] at h ⊢
  by_cases hm : (typedX cs n d a).1 ≠ 0 ∧ (typedX cs n d b).1 ≠ 0 ∧ (typedX cs n d a).1 ≠ (typedX cs n d b).1
  · rw [if_pos hm] at h; cases h
  rw [if_neg hm, ev2 cs row n ⟨4, S [], v, S [60, 61]⟩ a b (show (4 : Int) ≠ 1 by decide) (show (4 : Int) ≠ 2 by decide) (lazy_none _ _ _ _ (S_ne (by decide)) (S_ne (by decide)) (S_ne (by decide)) (S_ne (by decide)))]
  refine snd_if ha fun h0 => snd_if hb fun h5 => ?_
  rw [both_cmp _ _ _ _ (by decide)]
  exact snd_compare _ _ _
theorem snd_cmp4 {cs : List CD} {row : List VD} {n d : Nat} (v : VD) (a b : TX n) (ih : AllS cs row n d [a, b]) (h : (refTail 4 (S []) (S [62]) [(typedX cs n d a).1, (typedX cs n d b).1]).2 = 0) : Snd (refTail 4 (S []) (S [62]) [(typedX cs n d a).1, (typedX cs n d b).1]).1 (evalX cs row (n + 1) (⟨4, S [], v, S [62]⟩, [a, b])) := by
  have ha := ih a List.mem_cons_self
  have hb := ih b (List.mem_cons_of_mem _ List.mem_cons_self)
  have h2 := refTail_cmp (k := 4) (nm := S []) (op := S [62]) (ts := [(typedX cs n d a).1, (typedX cs n d b).1]) (a := (typedX cs n d a).1) (b := (typedX cs n d b).1) ⟨rfl, show inL (S [62]) nCMP = true by decide⟩ rfl rfl
  rw [h2] at h ⊢
  by_cases hm : (typedX cs n d a).1 ≠ 0 ∧ (typedX cs n d b).1 ≠ 0 ∧ (typedX cs n d a).1 ≠ (typedX cs n d b).1
  · rw [if_pos hm] at h; cases h
  rw [if_neg hm, ev2 cs row n ⟨4, S [], v, S [62]⟩ a b (show (4 : Int) ≠ 1 by decide) (show (4 : Int) ≠ 2 by decide) (lazy_none _ _ _ _ (S_ne (by decide)) (S_ne (by decide)) (S_ne (by decide)) (S_ne (by decide)))]
  refine snd_if ha fun h0 => snd_if hb fun h5 => ?_
  rw [both_cmp _ _ _ _ (by decide)]
  exact snd_compare _ _ _
theorem snd_cmp5 {cs : List CD} {row : List VD} {n d : Nat} (v : VD) (a b : TX n) (ih : AllS cs row n d [a, b]) (h : (refTail 4 (S []) (S [62, 61]) [(typedX cs n d a).1, (typedX cs n d b).1]).2 = 0) : Snd (refTail 4 (S []) (S [62, 61]) [(typedX cs n d a).1, (typedX cs n d b).1]).1 (evalX cs row (n + 1) (⟨4, S [], v, S [62, 61]⟩, [a, b])) := by
  have ha := ih a List.mem_cons_self
  have hb := ih b (List.mem_cons_of_mem _ List.mem_cons_self)
  have h2 := refTail_cmp (k := 4) (nm := S []) (op := S [62, 61]) (ts := [(typedX cs n d a).1, (typedX cs n d b).1]) (a := (typedX cs n d a).1) (b := (typedX cs n d b).1) ⟨rfl, show inL (S [62, 61]) nCMP = true by decide⟩ rfl rfl
  rw [h2] at h ⊢
  by_cases hm : (typedX cs n d a).1 ≠ 0 ∧ (typedX cs n d b).1 ≠ 0 ∧ (typedX cs n d a).1 ≠ (typedX cs n d b).1
  · rw [if_pos hm] at h; cases h
  rw [if_neg hm, ev2 cs row n ⟨4, S [], v, S [62, 61]⟩ a b (show (4 : Int) ≠ 1 by decide) (show (4 : Int) ≠ 2 by decide) (lazy_none _ _ _ _ (S_ne (by decide)) (S_ne (by decide)) (S_ne (by decide)) (S_ne (by decide)))]
  refine snd_if ha fun h0 => snd_if hb fun h5 => ?_
  rw [both_cmp _ _ _ _ (by decide)]
  exact snd_compare _ _ _
theorem snd_and {cs : List CD} {row : List VD} {n d : Nat} (v : VD) (a b : TX n) (ih : AllS cs row n d [a, b]) (h : (refTail 4 (S []) (wAnd) [(typedX cs n d a).1, (typedX cs n d b).1]).2 = 0) : Snd (refTail 4 (S []) (wAnd) [(typedX cs n d a).1, (typedX cs n d b).1]).1 (evalX cs row (n + 1) (⟨4, S [], v, wAnd⟩, [a, b])) := by
  have ha := ih a List.mem_cons_self
  have hb := ih b (List.mem_cons_of_mem _ List.mem_cons_self)
  obtain ⟨_, _, h2⟩ := need2 (nd := 0) (fun q => absurd (show (4 : Int) = 5 from q.1) (by decide)) (fun q => absurd (show inL (wAnd) nCMP = true from q.2) (by decide)) rfl h
  rw [h2, if_neg (fun q => absurd (show (4 : Int) = 5 from q.1) (by decide)), ev_and]
  refine snd_if ha fun h0 => ?_
  split
  · exact snd_bitIf hb
  · exact Snd.num 0
theorem snd_or {cs : List CD} {row : List VD} {n d : Nat} (v : VD) (a b : TX n) (ih : AllS cs row n d [a, b]) (h : (refTail 4 (S []) (wOr) [(typedX cs n d a).1, (typedX cs n d b).1]).2 = 0) : Snd (refTail 4 (S []) (wOr) [(typedX cs n d a).1, (typedX cs n d b).1]).1 (evalX cs row (n + 1) (⟨4, S [], v, wOr⟩, [a, b])) := by
  have ha := ih a List.mem_cons_self
  have hb := ih b (List.mem_cons_of_mem _ List.mem_cons_self)
  obtain ⟨_, _, h2⟩ := need2 (nd := 0) (fun q => absurd (show (4 : Int) = 5 from q.1) (by decide)) (fun q => absurd (show inL (wOr) nCMP = true from q.2) (by decide)) rfl h
  rw [h2, if_neg (fun q => absurd (show (4 : Int) = 5 from q.1) (by decide)), ev_or]
  refine snd_if ha fun h0 => ?_
  split
  · exact Snd.num 1
  · exact snd_bitIf hb
theorem snd_catX {cs : List CD} {row : List VD} {n d : Nat} (v : VD) (a b : TX n) (ih : AllS cs row n d [a, b]) (h : (refTail 5 (wCat) (S []) [(typedX cs n d a).1, (typedX cs n d b).1]).2 = 0) : Snd (refTail 5 (wCat) (S []) [(typedX cs n d a).1, (typedX cs n d b).1]).1 (evalX cs row (n + 1) (⟨5, wCat, v, S []⟩, [a, b])) := by
  have ha := ih a List.mem_cons_self
  have hb := ih b (List.mem_cons_of_mem _ List.mem_cons_self)
  obtain ⟨h1, h3, h2⟩ := need2 (nd := 2) (fun q => absurd (show inL (wCat) nEI = true from q.2) (by decide)) (fun q => absurd (show (5 : Int) = 4 from q.1) (by decide)) rfl h
  rw [h2, if_pos ⟨rfl, rfl⟩, ev2 cs row n ⟨5, wCat, v, S []⟩ a b (show (5 : Int) ≠ 1 by decide) (show (5 : Int) ≠ 2 by decide) (lazy_none _ _ _ _ (S_ne (by decide)) (S_ne (by decide)) (S_ne (by decide)) (S_ne (by decide)))]
  refine snd_if ha fun h0 => snd_if hb fun h5 => ?_
  rw [both_cat]
  have ka := (ha.1 h0).2; have kb := (hb.1 h5).2; have ma := misfit_no h1 (by decide); have mb := misfit_no h3 (by decide)
  exact snd_cat (ha.1 h0).1 (hb.1 h5).1 (by omega) (by omega)
theorem one_types {a b : Int} (h : (if a ≠ 0 ∧ b ≠ 0 ∧ a ≠ b then ((0, 12) : Int × Int) else if a = 0 then (b, 0) else (a, 0)).2 = 0) :
    (a = (if a ≠ 0 ∧ b ≠ 0 ∧ a ≠ b then ((0, 12) : Int × Int) else if a = 0 then (b, 0) else (a, 0)).1 ∨ a = 0) ∧ (b = (if a ≠ 0 ∧ b ≠ 0 ∧ a ≠ b then ((0, 12) : Int × Int) else if a = 0 then (b, 0) else (a, 0)).1 ∨ b = 0) := by
  by_cases hm : a ≠ 0 ∧ b ≠ 0 ∧ a ≠ b
  · rw [if_pos hm] at h; cases h
  · rw [if_neg hm]
    by_cases h0 : a = 0
    · rw [if_pos h0]; exact ⟨.inr h0, .inl rfl⟩
    · rw [if_neg h0]
      refine ⟨.inl rfl, ?_⟩
      show b = a ∨ b = 0
      by_cases hb : b = 0
      · exact .inr hb
      · left
        by_cases hab : a = b
        · exact hab.symm
        · exact absurd ⟨h0, hb, hab⟩ hm
theorem snd_either {cs : List CD} {row : List VD} {n d : Nat} (v : VD) (a b : TX n) (ih : AllS cs row n d [a, b]) (h : (refTail 5 (wEither) (S []) [(typedX cs n d a).1, (typedX cs n d b).1]).2 = 0) : Snd (refTail 5 (wEither) (S []) [(typedX cs n d a).1, (typedX cs n d b).1]).1 (evalX cs row (n + 1) (⟨5, wEither, v, S []⟩, [a, b])) := by
  have ha := ih a List.mem_cons_self
  have hb := ih b (List.mem_cons_of_mem _ List.mem_cons_self)
  have h2 := refTail_one (k := 5) (nm := wEither) (op := S []) (ts := [(typedX cs n d a).1, (typedX cs n d b).1]) (a := (typedX cs n d a).1) (b := (typedX cs n d b).1) ⟨rfl, show inL wEither nEI = true by decide⟩ rfl rfl
  rw [h2] at h ⊢
  obtain ⟨h3, h4⟩ := one_types h
  rw [ev_either]
  refine snd_if ha fun h0 => ?_
  by_cases q : (evalX cs row n a).1.kind = 0
  · rw [if_pos q]; exact hb.to h4
  · rw [if_neg q]; exact (ha.pair h0).to h3
theorem snd_ifX {cs : List CD} {row : List VD} {n d : Nat} (v : VD) (a b c : TX n) (ih : AllS cs row n d [a, b, c]) (h : (refTail 5 wIf (S []) [(typedX cs n d a).1, (typedX cs n d b).1, (typedX cs n d c).1]).2 = 0) : Snd (refTail 5 wIf (S []) [(typedX cs n d a).1, (typedX cs n d b).1, (typedX cs n d c).1]).1 (evalX cs row (n + 1) (⟨5, wIf, v, S []⟩, [a, b, c])) := by
  have ha := ih a List.mem_cons_self
  have hb := ih b (List.mem_cons_of_mem _ List.mem_cons_self)
  have hc := ih c (List.mem_cons_of_mem _ (List.mem_cons_of_mem _ List.mem_cons_self))
  have h2 := refTail_one (k := 5) (nm := wIf) (op := S []) (ts := [(typedX cs n d a).1, (typedX cs n d b).1, (typedX cs n d c).1]) (a := (typedX cs n d b).1) (b := (typedX cs n d c).1) ⟨rfl, show inL wIf nEI = true by decide⟩ rfl rfl
  rw [h2] at h ⊢
  obtain ⟨h3, h4⟩ := one_types h
  rw [ev_if]
  refine snd_if ha fun h0 => ?_
  by_cases q : (evalX cs row n a).1.tru = true
  · rw [if_pos q]; exact hb.to h3
  · rw [if_neg q]; exact hc.to h4
/-- what it comes to is sound -/
theorem eval_sound {cs : List CD} {row : List VD} (hfit : fitR cs row = true) : ∀ (n d : Nat) (e : TX n), (typedX cs n d e).2 = 0 → Snd (typedX cs n d e).1 (evalX cs row n e)
  | 0, _, e => e.elim
  | n + 1, d, e => fun h => by
    obtain ⟨hf, ht⟩ := typed_inv h
    rcases ht with ⟨hk, ht⟩ | ⟨hk, k, hp, hkl, ht⟩ | ⟨hk1, hk2, hall, ht⟩
    · rw [ht, evalX_succ, if_neg (by omega), if_pos hk]
      refine Snd.ok ?_ (.inr rfl)
      unfold formV at hf
      rw [if_neg (by omega), if_pos hk, Bool.and_eq_true, Bool.and_eq_true, Bool.and_eq_true] at hf
      exact hf.2.2.2
    · rw [ht, evalX_succ, if_pos hk, hp]
      have hlen := fitR_len hfit
      have hkr : k < row.length := by omega
      have hfc := fitR_at hfit k hkl hkr
      rw [Option.getD_some, List.getD_eq_getElem?_getD, List.getElem?_eq_getElem hkr, Option.getD_some]
      unfold fitC at hfc
      rw [Bool.and_eq_true] at hfc
      exact Snd.ok hfc.1 (by simpa using hfc.2)
    · have ih : AllS cs row n (d + 1) e.2 := fun a ha => eval_sound hfit n (d + 1) a (hall a ha)
      rw [ht] at h ⊢
      have hs := shape hf hk1 hk2
      clear ht hall hf hk1 hk2
      obtain ⟨⟨k, nm, v, op⟩, args⟩ := e
      simp only at hs h ih ⊢
      rcases hs with ⟨hk, hl, hn, ho⟩ | ⟨hk, hl, hn, ho⟩ | ⟨hk, ho, hn⟩
      · obtain ⟨a, rfl⟩ := list1 hl
        subst hk hn
        rcases ho with rfl | rfl
        · exact snd_neg v a ih h
        · exact snd_not v a ih h
      · obtain ⟨a, b, rfl⟩ := list2 hl
        subst hk hn
        rcases ho with rfl | rfl | rfl | rfl | rfl | rfl | rfl | rfl | rfl | rfl | rfl | rfl | rfl
        · exact snd_ari0 v a b ih h
        · exact snd_ari1 v a b ih h
        · exact snd_ari2 v a b ih h
        · exact snd_ari3 v a b ih h
        · exact snd_ari4 v a b ih h
        · exact snd_cmp0 v a b ih h
        · exact snd_cmp1 v a b ih h
        · exact snd_cmp2 v a b ih h
        · exact snd_cmp3 v a b ih h
        · exact snd_cmp4 v a b ih h
        · exact snd_cmp5 v a b ih h
        · exact snd_and v a b ih h
        · exact snd_or v a b ih h
      · subst hk ho
        rcases hn with ⟨hl, hn⟩ | ⟨hl, hn⟩ | ⟨hl, rfl⟩
        · obtain ⟨a, rfl⟩ := list1 hl
          rcases hn with rfl | rfl | rfl
          · exact snd_len v a ih h
          · exact snd_abs v a ih h
          · exact snd_isnull v a ih h
        · obtain ⟨a, b, rfl⟩ := list2 hl
          rcases hn with rfl | rfl
          · exact snd_catX v a b ih h
          · exact snd_either v a b ih h
        · obtain ⟨a, b, c, rfl⟩ := list3 hl
          exact snd_ifX v a b c ih h
end Go.Proofs.Ytlkckkagoommaaa
