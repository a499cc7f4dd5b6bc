/- Part 6 of the texts of this proof, one behind the other; each begins with its own sentence. No condition beyond those that its theorems state. -/
import Derived.Test.YtlkckkagoommaaaCo5
/- expr.comparing: which way of comparing an operation is. For every text. -/
namespace Go.Proofs.Ytlkckkagoommaaa
open Go.RowKit
attribute [local go_sem ↓] Go.wp_at_zero Go.wp_at_succ

set_option maxRecDepth 20000 in
theorem comparing_any (s : ByteArray) (w : World) : Calls Try.prog 53 #[.string s] w fun e w' => e = .returned (.int .i64 (cmpI s)) ∧ Touch [] w w' := by
  have Hix := Lib.hid fun w' h => Go.Proofs.Try.slices_Index_string w.heap.size 0 7 7 [S [], S [61], S [33, 61], S [60], S [60, 61], S [62], S [62, 61]] s w' (by decide) (by decide) h
  go_enter Try.func53, Try.ntmps53
  go_wp2_with fail
  refine (Hix.out _ ?_).mono ?_
  · intro j hj
    have hj' : j < 7 := hj
    have : j = 0 ∨ j = 1 ∨ j = 2 ∨ j = 3 ∨ j = 4 ∨ j = 5 ∨ j = 6 := by omega
    rcases this with rfl | rfl | rfl | rfl | rfl | rfl | rfl <;> exact cell_blk (heap_alloc_new w _) rfl
  · rintro e w1 ⟨rfl, rfl⟩
    go_wp2_with fail
    go_ret
    exact ⟨rfl, (Touch.refl _ _).alloc _⟩
end Go.Proofs.Ytlkckkagoommaaa

/- A right form's operations, one by one. No walk. -/
namespace Go.Proofs.Ytlkckkagoommaaa
open Go.RowKit

theorem evalX_at (cs : List CD) (row : List VD) (n : Nat) (e : TX (n + 1)) (h1 : e.1.kind ≠ 1) (h2 : e.1.kind ≠ 2) (h0 : 0 < e.2.length) : evalX cs row (n + 1) e =
    if (evalX cs row n e.2[0]).2 ≠ 0 then (zeroV, (evalX cs row n e.2[0]).2)
    else match lazyX (evalX cs row n) e.1 e.2 (evalX cs row n e.2[0]).1 with
      | some z => z
      | none => if h : 1 < e.2.length then (if (evalX cs row n e.2[1]).2 ≠ 0 then (zeroV, (evalX cs row n e.2[1]).2) else bothV e.1 (evalX cs row n e.2[0]).1 (evalX cs row n e.2[1]).1) else aloneV e.1 (evalX cs row n e.2[0]).1 := by
  rw [evalX_succ, if_neg h1, if_neg h2]
  revert h0
  generalize e.2 = args
  intro h0
  cases args with
  | nil => exact absurd h0 (by simp)
  | cons a r =>
    simp only [List.getElem_cons_zero]
    split
    · rfl
    · rcases hl : lazyX (evalX cs row n) e.1 (a :: r) (evalX cs row n a).1 with _ | z
      · cases r with
        | nil => rfl
        | cons b r => rfl
      · rfl
theorem S_ne {a b : List UInt8} (h : a ≠ b) : S a ≠ S b := fun q => h (S_inj q)
/-- which Arg is asked for is there -/
theorem lazy_in {d : ND} {n : Nat} (h : formV d n = true) (h1 : d.kind ≠ 1) (h2 : d.kind ≠ 2) (v : VD) (q : Nat) (hq : lazyV d v = some (.inr q)) : q < n := by
  have w1 : S [45] ≠ wAnd := S_ne (by decide)
  have w2 : S [45] ≠ wOr := S_ne (by decide)
  have w3 : wNot ≠ wAnd := S_ne (by decide)
  have w4 : wNot ≠ wOr := S_ne (by decide)
  have w5 : S [] ≠ wEither := S_ne (by decide)
  have w6 : S [] ≠ wIf := S_ne (by decide)
  have w7 : S [] ≠ wAnd := S_ne (by decide)
  have w8 : S [] ≠ wOr := S_ne (by decide)
  have hq2 : q ≤ 2 := by
    unfold lazyV at hq
    (repeat' split at hq) <;> simp at hq <;> (try omega)
  have hq1 : q = 2 → d.op ≠ wAnd ∧ d.op ≠ wOr ∧ d.name = wIf := by
    intro h2
    unfold lazyV at hq
    split at hq
    · (split at hq <;> simp at hq <;> omega)
    · split at hq
      · (split at hq <;> simp at hq <;> omega)
      · split at hq
        · (split at hq <;> simp at hq <;> omega)
        · split at hq
          · exact ⟨‹_›, ‹_›, ‹_›⟩
          · cases hq
  have hq0 : q ≠ 0 := by
    intro h0
    subst h0
    unfold lazyV at hq
    (repeat' split at hq) <;> simp at hq
  rcases shape h h1 h2 with ⟨_, hn, hnm, ho⟩ | ⟨_, hn, hnm, ho⟩ | ⟨_, ho, hh⟩
  · exfalso
    unfold lazyV at hq
    rcases ho with ho | ho <;> rw [ho, hnm] at hq
    · rw [if_neg w1, if_neg w2, if_neg w5, if_neg w6] at hq; cases hq
    · rw [if_neg w3, if_neg w4, if_neg w5, if_neg w6] at hq; cases hq
  · rcases Nat.lt_or_ge q 2 with h | h
    · omega
    · have := (hq1 (by omega)).2.2
      rw [hnm] at this; exact absurd this w6
  · rcases hh with ⟨hn, hm⟩ | ⟨hn, hm⟩ | ⟨hn, hm⟩
    · exfalso
      unfold lazyV at hq
      rw [ho, if_neg w7, if_neg w8] at hq
      rcases hm with hm | hm | hm <;> rw [hm] at hq <;> simp [wEither, wIf, wLen, wAbs, wIsnull, S_eq] at hq
    · rcases Nat.lt_or_ge q 2 with h | h
      · omega
      · have := (hq1 (by omega)).2.2
        rw [this] at hm
        rcases hm with hm | hm <;> exact absurd hm (S_ne (by decide))
    · omega
/-- what asks for two -/
theorem both_in {d : ND} {n : Nat} (h : formV d n = true) (h1 : d.kind ≠ 1) (h2 : d.kind ≠ 2) (v : VD) (hn : n ≠ 1) (hq : lazyV d v = none) :
    d.name = wCat ∨ (d.name ≠ wCat ∧ 1 ≤ cmpI d.op ∧ cmpI d.op ≤ 6) ∨ (d.name ≠ wCat ∧ cmpI d.op ≤ 0 ∧ ∃ o : UInt8, d.op = S [o] ∧ ((o.toNat : Int) = 43 ∨ (o.toNat : Int) = 45 ∨ (o.toNat : Int) = 42 ∨ (o.toNat : Int) = 47 ∨ (o.toNat : Int) = 37)) := by
  have c0 : S [] ≠ wCat := S_ne (by decide)
  rcases shape h h1 h2 with ⟨_, hn', _⟩ | ⟨_, _, hnm, ho⟩ | ⟨_, ho, hh⟩
  · exact absurd hn' hn
  · right
    rcases ho with ho | ho | ho | ho | ho | ho | ho | ho | ho | ho | ho | ho | ho
    · right; rw [ho, hnm]; exact ⟨c0, by decide, 43, rfl, by decide⟩
    · right; rw [ho, hnm]; exact ⟨c0, by decide, 45, rfl, by decide⟩
    · right; rw [ho, hnm]; exact ⟨c0, by decide, 42, rfl, by decide⟩
    · right; rw [ho, hnm]; exact ⟨c0, by decide, 47, rfl, by decide⟩
    · right; rw [ho, hnm]; exact ⟨c0, by decide, 37, rfl, by decide⟩
    · left; rw [ho, hnm]; exact ⟨c0, by decide, by decide⟩
    · left; rw [ho, hnm]; exact ⟨c0, by decide, by decide⟩
    · left; rw [ho, hnm]; exact ⟨c0, by decide, by decide⟩
    · left; rw [ho, hnm]; exact ⟨c0, by decide, by decide⟩
    · left; rw [ho, hnm]; exact ⟨c0, by decide, by decide⟩
    · left; rw [ho, hnm]; exact ⟨c0, by decide, by decide⟩
    · unfold lazyV at hq; rw [if_pos ho] at hq; split at hq <;> cases hq
    · unfold lazyV at hq; rw [ho] at hq; simp [wOr, wAnd, S_eq] at hq; split at hq <;> cases hq
  · rcases hh with ⟨hn', _⟩ | ⟨_, hm⟩ | ⟨_, hm⟩
    · exact absurd hn' hn
    · rcases hm with hm | hm
      · exact .inl hm
      · unfold lazyV at hq
        rw [ho, hm] at hq; simp [wAnd, wOr, S_eq] at hq; split at hq <;> cases hq
    · unfold lazyV at hq
      rw [ho, hm] at hq; simp [wAnd, wOr, wEither, wIf, S_eq] at hq
theorem form_args {d : ND} {n : Nat} (h : formV d n = true) (h1 : d.kind ≠ 1) (h2 : d.kind ≠ 2) : 0 < n := by
  rcases shape h h1 h2 with ⟨_, hn, _⟩ | ⟨_, hn, _⟩ | ⟨_, _, ⟨hn, _⟩ | ⟨hn, _⟩ | ⟨hn, _⟩⟩ <;> omega
end Go.Proofs.Ytlkckkagoommaaa

/- expr.Expr.eval: an expression's value. For every expression, schema and row. -/
namespace Go.Proofs.Ytlkckkagoommaaa
open Go.RowKit
attribute [local go_sem ↓] Go.wp_at_zero Go.wp_at_succ

set_option maxRecDepth 20000 in
set_option maxHeartbeats 6400000 in
theorem eval_step (n : Nat) (ih : EvalSaid n) : EvalSaid (n + 1) := by
  intro e x CA cc cm cs hcm RB rc rm row hrm w hx hcs hrow hmb hrl hok hrt hall
  have hev1 := evalX_succ cs row n e
  have hev2 := evalX_at cs row n e
  obtain ⟨res, hres⟩ : ∃ res, res = evalX cs row (n + 1) e := ⟨_, rfl⟩
  rw [← hres] at hev1 hev2 ⊢
  clear hres
  obtain ⟨h1, h2, h3⟩ := hx.args
  obtain ⟨ha1, ha2⟩ := hall
  obtain ⟨ho1, ho2, ho3⟩ := hok
  clear hx
  generalize e.1 = nd at *
  generalize e.2 = args at *
  subst h1
  have Hlz := Lib.hid fun v w' (t : Touch [] w w') hq => lazy_any n ih x args v CA cc cm cs hcm RB rc rm row hrm w' h2 (h3.touch0 t) (hcs.touch0 t) (hrow.touch0 t) hmb hrl ho3 hrt ha2 hq
  have Hal := Lib.hid fun v w' => alone_any x v w'
  have Hfi := Lib.hid fun w' (t : Touch [] w w') => findC_any CA cc cm cs hcm x.nd.name w' (hcs.touch0 t) hmb
  have hlin := fun h1 h2 => lazy_in ho1 h1 h2
  have hbin := fun h1 h2 => both_in ho1 h1 h2
  have hfa := form_args ho1
  have htx := fun (q : Nat) (hq : q < args.length) => eval_text cs row 140737000000000 (by omega) hrt n args[q] (ha2 _ (List.getElem_mem hq))
  obtain ⟨⟨k, nm, ⟨vk, vn, vt⟩, op⟩, XA, m, c⟩ := x
  dsimp only at h2 h3 ha1 ho1 ho2 hev1 hev2 hlin hbin hfa
  simp only [XC.val] at Hlz Hal ⊢
  simp only at Hlz Hal Hfi
  have t0 := ((Touch.refl [] w).alloc (.cells #[.int .i64 k, .string nm, .int .i64 vk, .int .i64 vn, .string vt, .string op, .slice XA m c] 33)).alloc (.cells #[.int .i64 0, .int .i64 0, .string ⟨#[]⟩] 30)
  have hb1 := ((Touch.refl [] (w.alloc (.cells #[.int .i64 k, .string nm, .int .i64 vk, .int .i64 vn, .string vt, .string op, .slice XA m c] 33))).alloc (.cells #[.int .i64 0, .int .i64 0, .string ⟨#[]⟩] 30)).blk (heap_alloc_new w (.cells #[.int .i64 k, .string nm, .int .i64 vk, .int .i64 vn, .string vt, .string op, .slice XA m c] 33)) (by simp)
  have hbr := heap_alloc_new (w.alloc (.cells #[.int .i64 k, .string nm, .int .i64 vk, .int .i64 vn, .string vt, .string op, .slice XA m c] 33)) (.cells #[.int .i64 0, .int .i64 0, .string ⟨#[]⟩] 30)
  simp only [World.size_alloc] at hbr
  obtain ⟨W, hW⟩ : ∃ W, W = (w.alloc (.cells #[.int .i64 k, .string nm, .int .i64 vk, .int .i64 vn, .string vt, .string op, .slice XA m c] 33)).alloc (.cells #[.int .i64 0, .int .i64 0, .string ⟨#[]⟩] 30) := ⟨_, rfl⟩
  rw [← hW] at hb1 hbr t0
  have HW := Lib.hid hW; have Hb1 := Lib.hid hb1; have Hbr := Lib.hid hbr; have T0 := Lib.hid t0
  have H2 := Lib.hid h2
  clear hW hb1 hbr t0 h2
  by_cases hk1 : k = 1
  · have hpl := ho2 hk1
    rw [if_pos hk1] at hev1
    rcases hp : placeV cs nm with _ | q
    · rw [hp] at hpl; cases hpl
    have hql := placeV_lt hp
    have hqr : q < row.length := by omega
    rw [hp] at Hfi hev1
    simp only [Option.getD_some, Option.isSome_some] at Hfi hev1
    have hv : row.getD q zeroV = row[q] := by rw [List.getD_eq_getElem?_getD, List.getElem?_eq_getElem hqr]; rfl
    rw [hv] at hev1
    have Hf := Lib.hid hev1
    have hqI : (q : Int) < (rm : Int) := by omega
    have hqI0 : (0 : Int) ≤ (q : Int) := by omega
    subst hk1
    clear hp hv hev1 hev2 hlin hbin hfa Hlz Hal hpl htx
    go_enter Try.func34, Try.ntmps34
    go_wp2_with fail
    rw [← HW.out]
    obtain ⟨a0, a1, a2, a3, a4, a5, a6, _⟩ := blk7 Hb1.out
    go_wp2_with fail
    clear a0 a1 a2 a3 a4 a5 a6
    refine (Hfi.out _ T0.out).mono ?_
    rintro e w1 ⟨rfl, u1⟩
    obtain ⟨ad, b, off, rfl, hadd, v0, v1, v2⟩ := (hrow.touch0 (T0.out.trans0 u1)).at_ q hqr
    obtain ⟨a0, a1, a2, a3, a4, a5, a6, _⟩ := blk7 (u1.blk Hb1.out (by simp))
    obtain ⟨r0, r1, r2, f0, f1, f2⟩ := blk3 (u1.blk Hbr.out (by simp))
    go_wp2_with fail
    obtain ⟨q1, q2⟩ := out3 (u1.blk Hbr.out (by simp)) (.int .i64 row[q].kind) (.int .i64 row[q].num) (.string row[q].text)
    obtain ⟨d0, d1, d2, _⟩ := blk3 q1
    refine bodyPost_ret (v := .tuple #[.agg #[.int .i64 row[q].kind, .int .i64 row[q].num, .string row[q].text], .int .i64 (0)]) (by simp [results, Try.results34, go_sem, d0, d1, d2]) rfl ⟨?_, (T0.out.trans0 u1).trans q2 (fun b hb => .inr (by simp at hb; omega))⟩
    rw [Hf.out]; rfl
  have e1 : (k == 1) = false := by simpa using hk1
  by_cases hk2 : k = 2
  · rw [if_neg hk1, if_pos hk2] at hev1
    have Hf := Lib.hid hev1
    subst hk2
    clear hev1 hev2 hlin hbin hfa Hlz Hal htx Hfi
    go_enter Try.func34, Try.ntmps34
    go_wp2_with fail
    have q1 := heap_alloc_new (w.alloc (.cells #[.int .i64 2, .string nm, .int .i64 vk, .int .i64 vn, .string vt, .string op, .slice XA m c] 33)) (.cells #[.int .i64 vk, .int .i64 vn, .string vt] 30)
    simp only [World.size_alloc] at q1
    obtain ⟨d0, d1, d2, _⟩ := blk3 q1
    refine bodyPost_ret (v := .tuple #[.agg #[.int .i64 vk, .int .i64 vn, .string vt], .int .i64 0]) (by simp [results, Try.results34, go_sem, d0, d1, d2]) rfl ⟨?_, ((Touch.refl [] w).alloc (.cells #[.int .i64 2, .string nm, .int .i64 vk, .int .i64 vn, .string vt, .string op, .slice XA m c] 33)).alloc _⟩
    rw [Hf.out]; rfl
  have e2 : (k == 2) = false := by simpa using hk2
  have h0 := hfa hk1 hk2
  have hst := hev2 hk1 hk2 h0
  have hli := hlin hk1 hk2
  have hbi := hbin hk1 hk2
  clear hev1 hev2 hlin hbin hfa Hfi hk1 hk2 ho2 ho1 ha1
  obtain ⟨ad, b, off, y, rfl, hadd, hy, hcell⟩ := h3.at_ xcE_length 0 h0
  have Hev := Lib.hid fun w' (t : Touch [] w w') => ih args[0] y CA cc cm cs hcm RB rc rm row hrm w' (hy.touch0 t) (hcs.touch0 t) (hrow.touch0 t) hmb hrl (ho3 _ (List.getElem_mem h0)) hrt (ha2 _ (List.getElem_mem h0))
  have hfx := htx 0 h0
  obtain ⟨⟨⟨fk, fn, fs⟩, fx⟩, hfe⟩ : ∃ r, r = evalX cs row n args[0] := ⟨_, rfl⟩
  rw [← hfe] at hst Hev hfx
  obtain ⟨⟨k2, nm2, ⟨vk2, vn2, vt2⟩, op2⟩, A2, m2, c2'⟩ := y
  simp only [XC.val, VD.val] at Hev
  have c0 := hcell 0 _ rfl; have c1 := hcell 1 _ rfl; have c2 := hcell 2 _ rfl; have c3 := hcell 3 _ rfl; have c4 := hcell 4 _ rfl; have c5 := hcell 5 _ rfl; have c6 := hcell 6 _ rfl
  rw [Nat.add_zero] at c0
  simp only at c0 c1 c2 c3 c4 c5 c6 hfx
  have hqI : (0 : Int) < (m : Int) := by have := H2.out; omega
  have C0 := Lib.hid c0; have C1 := Lib.hid c1; have C2 := Lib.hid c2; have C3 := Lib.hid c3; have C4 := Lib.hid c4; have C5 := Lib.hid c5; have C6 := Lib.hid c6
  clear hcell c0 c1 c2 c3 c4 c5 c6 hy hfe
  have c0 := (((Touch.refl [] w).alloc (.cells #[.int .i64 k, .string nm, .int .i64 vk, .int .i64 vn, .string vt, .string op, .slice (some ad) m c] 33)).alloc (.cells #[.int .i64 0, .int .i64 0, .string ⟨#[]⟩] 30)).cell C0.out (by simp)
  have c1 := (((Touch.refl [] w).alloc (.cells #[.int .i64 k, .string nm, .int .i64 vk, .int .i64 vn, .string vt, .string op, .slice (some ad) m c] 33)).alloc (.cells #[.int .i64 0, .int .i64 0, .string ⟨#[]⟩] 30)).cell C1.out (by simp)
  have c2 := (((Touch.refl [] w).alloc (.cells #[.int .i64 k, .string nm, .int .i64 vk, .int .i64 vn, .string vt, .string op, .slice (some ad) m c] 33)).alloc (.cells #[.int .i64 0, .int .i64 0, .string ⟨#[]⟩] 30)).cell C2.out (by simp)
  have c3 := (((Touch.refl [] w).alloc (.cells #[.int .i64 k, .string nm, .int .i64 vk, .int .i64 vn, .string vt, .string op, .slice (some ad) m c] 33)).alloc (.cells #[.int .i64 0, .int .i64 0, .string ⟨#[]⟩] 30)).cell C3.out (by simp)
  have c4 := (((Touch.refl [] w).alloc (.cells #[.int .i64 k, .string nm, .int .i64 vk, .int .i64 vn, .string vt, .string op, .slice (some ad) m c] 33)).alloc (.cells #[.int .i64 0, .int .i64 0, .string ⟨#[]⟩] 30)).cell C4.out (by simp)
  have c5 := (((Touch.refl [] w).alloc (.cells #[.int .i64 k, .string nm, .int .i64 vk, .int .i64 vn, .string vt, .string op, .slice (some ad) m c] 33)).alloc (.cells #[.int .i64 0, .int .i64 0, .string ⟨#[]⟩] 30)).cell C5.out (by simp)
  have c6 := (((Touch.refl [] w).alloc (.cells #[.int .i64 k, .string nm, .int .i64 vk, .int .i64 vn, .string vt, .string op, .slice (some ad) m c] 33)).alloc (.cells #[.int .i64 0, .int .i64 0, .string ⟨#[]⟩] 30)).cell C6.out (by simp)
  go_enter Try.func34, Try.ntmps34
  go_wp2_with fail
  rw [← HW.out]
  clear c0 c1 c2 c3 c4 c5 c6
  refine (Hev.out _ T0.out).mono ?_
  rintro e w1 ⟨rfl, u1⟩
  have tf := (Touch.refl [] w1).alloc (.cells #[.int .i64 fk, .int .i64 fn, .string fs] 30)
  have hf := heap_alloc_new w1 (.cells #[.int .i64 fk, .int .i64 fn, .string fs] 30)
  have TT1 := Lib.hid ((T0.out.trans0 u1).trans0 tf)
  have Ha1 := Lib.hid (tf.blk (u1.blk Hb1.out (by simp)) (by simp))
  have Hr1 := Lib.hid (tf.blk (u1.blk Hbr.out (by simp)) (by simp))
  have Hf1 := Lib.hid hf
  clear Hev
  by_cases hfx0 : fx ≠ 0
  · rw [if_pos hfx0] at hst
    have Hf := Lib.hid hst
    have q6 : (fx != 0) = true := by simpa using hfx0
    clear hst hfx0 Hlz Hal
    obtain ⟨a0, a1, a2, a3, a4, a5, a6, _⟩ := blk7 Ha1.out
    obtain ⟨r0, r1, r2, f0, f1, f2⟩ := blk3 Hr1.out
    obtain ⟨f0, f1, f2, _⟩ := blk3 Hf1.out
    go_wp2_with fail
    obtain ⟨q1, q2⟩ := out3 Hr1.out (.int .i64 0) (.int .i64 0) (.string ⟨#[]⟩)
    obtain ⟨d0, d1, d2, _⟩ := blk3 q1
    refine bodyPost_ret (v := .tuple #[.agg #[.int .i64 0, .int .i64 0, .string ⟨#[]⟩], .int .i64 (fx)]) (by simp [results, Try.results34, go_sem, d0, d1, d2]) rfl ⟨?_, TT1.out.trans q2 (fun b hb => .inr (by simp at hb; omega))⟩
    rw [Hf.out]; rfl
  have hfx1 : fx = 0 := by omega
  rw [if_neg hfx0] at hst
  subst hfx1
  clear hfx0
  have hlz := fun w' t => Hlz.out ⟨fk, fn, fs⟩ w' t (hli ⟨fk, fn, fs⟩)
  obtain ⟨lz, hlze⟩ : ∃ r, r = lazyX (evalX cs row n) ⟨k, nm, ⟨vk, vn, vt⟩, op⟩ args ⟨fk, fn, fs⟩ := ⟨_, rfl⟩
  rw [← hlze] at hst hlz
  simp only [VD.val] at hlz
  clear Hlz hli
  obtain ⟨a0, a1, a2, a3, a4, a5, a6, _⟩ := blk7 Ha1.out
  obtain ⟨f0, f1, f2, _⟩ := blk3 Hf1.out
  go_wp2_with fail
  clear a0 a1 a2 a3 a4 a5 a6 f0 f1 f2
  rcases lz with _ | ⟨⟨zk, zn, zs⟩, zx⟩
  rotate_left
  · simp only at hst
    have Hf := Lib.hid hst
    simp only [toldV, VD.val] at hlz
    clear hst hbi hlze Hal
    refine (hlz _ TT1.out).mono ?_
    rintro e w2 ⟨rfl, u2⟩
    have tz := (Touch.refl [] w2).alloc (.cells #[.int .i64 zk, .int .i64 zn, .string zs] 30)
    have hz := heap_alloc_new w2 (.cells #[.int .i64 zk, .int .i64 zn, .string zs] 30)
    obtain ⟨a0, a1, a2, a3, a4, a5, a6, _⟩ := blk7 (tz.blk (u2.blk Ha1.out (by simp)) (by simp))
    obtain ⟨r0, r1, r2, f0, f1, f2⟩ := blk3 (tz.blk (u2.blk Hr1.out (by simp)) (by simp))
    obtain ⟨z0, z1, z2, _⟩ := blk3 hz
    go_wp2_with fail
    obtain ⟨q1, q2⟩ := out3 (tz.blk (u2.blk Hr1.out (by simp)) (by simp)) (.int .i64 zk) (.int .i64 zn) (.string zs)
    obtain ⟨d0, d1, d2, _⟩ := blk3 q1
    refine bodyPost_ret (v := .tuple #[.agg #[.int .i64 zk, .int .i64 zn, .string zs], .int .i64 (zx)]) (by simp [results, Try.results34, go_sem, d0, d1, d2]) rfl ⟨?_, ((TT1.out.trans0 u2).trans0 tz).trans q2 (fun b hb => .inr (by simp at hb; omega))⟩
    rw [Hf.out]; rfl
  have hlv : lazyV ⟨k, nm, ⟨vk, vn, vt⟩, op⟩ ⟨fk, fn, fs⟩ = none := by
    unfold lazyX at hlze
    rcases hv : lazyV ⟨k, nm, ⟨vk, vn, vt⟩, op⟩ ⟨fk, fn, fs⟩ with _ | u
    · rfl
    · rw [hv] at hlze
      cases u with
      | inl u => cases hlze
      | inr q => simp only at hlze; split at hlze <;> cases hlze
  have hbi2 := fun h => hbi ⟨fk, fn, fs⟩ h hlv
  simp only at hst
  simp only [toldV, VD.val, zeroV, S] at hlz
  clear hlze hlv hbi
  refine (hlz _ TT1.out).mono ?_
  rintro e w2 ⟨rfl, u2⟩
  have tz := (Touch.refl [] w2).alloc (.cells #[.int .i64 0, .int .i64 0, .string ⟨#[]⟩] 30)
  have hz := heap_alloc_new w2 (.cells #[.int .i64 0, .int .i64 0, .string ⟨#[]⟩] 30)
  have TT2 := Lib.hid ((TT1.out.trans0 u2).trans0 tz)
  have Ha2 := Lib.hid (tz.blk (u2.blk Ha1.out (by simp)) (by simp))
  have Hr2 := Lib.hid (tz.blk (u2.blk Hr1.out (by simp)) (by simp))
  have Hf2 := Lib.hid (tz.blk (u2.blk Hf1.out (by simp)) (by simp))
  have Hz2 := Lib.hid hz
  clear hlz
  by_cases hm1 : m = 1
  · rw [dif_neg (by have := H2.out; omega)] at hst
    have hal := fun w' => Hal.out ⟨fk, fn, fs⟩ w'
    have q7 : ((m : Int) == 1) = true := by rw [hm1]; rfl
    obtain ⟨⟨⟨gk, gn, gs⟩, gx⟩, hge⟩ : ∃ r, r = aloneV ⟨k, nm, ⟨vk, vn, vt⟩, op⟩ ⟨fk, fn, fs⟩ := ⟨_, rfl⟩
    rw [← hge] at hst hal
    simp only [VD.val] at hal
    have Hf := Lib.hid hst
    clear hst hbi2 hge Hal hm1
    obtain ⟨a0, a1, a2, a3, a4, a5, a6, _⟩ := blk7 Ha2.out
    obtain ⟨f0, f1, f2, _⟩ := blk3 Hf2.out
    obtain ⟨z0, z1, z2, _⟩ := blk3 Hz2.out
    go_wp2_with fail
    clear a0 a1 a2 a3 a4 a5 a6 f0 f1 f2 z0 z1 z2
    refine (hal _).mono ?_
    rintro e w3 ⟨rfl, u3⟩
    obtain ⟨r0, r1, r2, f0, f1, f2⟩ := blk3 (u3.blk Hr2.out (by simp))
    go_wp2_with fail
    obtain ⟨q1, q2⟩ := out3 (u3.blk Hr2.out (by simp)) (.int .i64 gk) (.int .i64 gn) (.string gs)
    obtain ⟨d0, d1, d2, _⟩ := blk3 q1
    refine bodyPost_ret (v := .tuple #[.agg #[.int .i64 gk, .int .i64 gn, .string gs], .int .i64 (gx)]) (by simp [results, Try.results34, go_sem, d0, d1, d2]) rfl ⟨?_, (TT2.out.trans0 u3).trans q2 (fun b hb => .inr (by simp at hb; omega))⟩
    rw [Hf.out]; rfl
  have hbi := hbi2 (by have := H2.out; omega)
  have q7 : ((m : Int) == 1) = false := by simp; omega
  have h1 : 1 < args.length := by have := H2.out; omega
  rw [dif_pos h1] at hst
  obtain ⟨ad', b', off', y', hade, hadd', hy', hcell⟩ := h3.at_ xcE_length 1 h1
  obtain rfl : ad = ad' := Option.some.inj hade
  have Hev := Lib.hid fun w' (t : Touch [] w w') => ih args[1] y' CA cc cm cs hcm RB rc rm row hrm w' (hy'.touch0 t) (hcs.touch0 t) (hrow.touch0 t) hmb hrl (ho3 _ (List.getElem_mem h1)) hrt (ha2 _ (List.getElem_mem h1))
  have hgx := htx 1 h1
  obtain ⟨⟨⟨gk, gn, gs⟩, gx⟩, hge⟩ : ∃ r, r = evalX cs row n args[1] := ⟨_, rfl⟩
  rw [← hge] at hst Hev hgx
  obtain ⟨⟨k3, nm3, ⟨vk3, vn3, vt3⟩, op3⟩, A3, m3, c3'⟩ := y'
  simp only [XC.val, VD.val] at Hev
  have c0 := hcell 0 _ rfl; have c1 := hcell 1 _ rfl; have c2 := hcell 2 _ rfl; have c3 := hcell 3 _ rfl; have c4 := hcell 4 _ rfl; have c5 := hcell 5 _ rfl; have c6 := hcell 6 _ rfl
  rw [Nat.add_zero] at c0
  simp only at c0 c1 c2 c3 c4 c5 c6 hgx
  have hqI1 : (1 : Int) < (m : Int) := by have := H2.out; omega
  have hcmp0 := fun w' => comparing_any op w'
  obtain ⟨cm', hcme⟩ : ∃ r, r = cmpI op := ⟨_, rfl⟩
  rw [← hcme] at hcmp0
  have Hcmp := Lib.hid hcmp0
  have Hcme := Lib.hid hcme
  clear hcmp0 hcme
  clear hcell hy' hge Hal hbi2 hade hadd htx hm1 hqI h0 C0 C1 C2 C3 C4 C5 C6
  replace c0 := TT2.out.cell c0 (by simp); replace c1 := TT2.out.cell c1 (by simp); replace c2 := TT2.out.cell c2 (by simp); replace c3 := TT2.out.cell c3 (by simp); replace c4 := TT2.out.cell c4 (by simp); replace c5 := TT2.out.cell c5 (by simp); replace c6 := TT2.out.cell c6 (by simp)
  obtain ⟨a0, a1, a2, a3, a4, a5, a6, _⟩ := blk7 Ha2.out
  obtain ⟨f0, f1, f2, _⟩ := blk3 Hf2.out
  obtain ⟨z0, z1, z2, _⟩ := blk3 Hz2.out
  go_wp2_with fail
  clear a0 a1 a2 a3 a4 a5 a6 f0 f1 f2 z0 z1 z2
  clear c0 c1 c2 c3 c4 c5 c6
  refine (Hev.out _ TT2.out).mono ?_
  rintro e w3 ⟨rfl, u3⟩
  have tg := (Touch.refl [] w3).alloc (.cells #[.int .i64 gk, .int .i64 gn, .string gs] 30)
  have hg := heap_alloc_new w3 (.cells #[.int .i64 gk, .int .i64 gn, .string gs] 30)
  obtain ⟨a0, a1, a2, a3, a4, a5, a6, _⟩ := blk7 (tg.blk (u3.blk Ha2.out (by simp)) (by simp))
  go_wp2_with fail
  clear a0 a1 a2 a3 a4 a5 a6
  refine (Hcmp.out _).mono ?_
  rintro e w4 ⟨rfl, u4⟩
  have TT3 := Lib.hid (((TT2.out.trans0 u3).trans0 tg).trans0 u4)
  have Ha3 := Lib.hid (u4.blk (tg.blk (u3.blk Ha2.out (by simp)) (by simp)) (by simp))
  have Hr3 := Lib.hid (u4.blk (tg.blk (u3.blk Hr2.out (by simp)) (by simp)) (by simp))
  have Hf3 := Lib.hid (u4.blk (tg.blk (u3.blk Hf2.out (by simp)) (by simp)) (by simp))
  have Hz3 := Lib.hid (u4.blk (tg.blk (u3.blk Hz2.out (by simp)) (by simp)) (by simp))
  have Hg3 := Lib.hid (u4.blk hg (by simp))
  clear Hev Hcmp
  by_cases hgx0 : gx ≠ 0
  · rw [if_pos hgx0] at hst
    have Hf := Lib.hid hst
    have q6 : (gx != 0) = true := by simpa using hgx0
    clear hst hgx0 hbi
    obtain ⟨a0, a1, a2, a3, a4, a5, a6, _⟩ := blk7 Ha3.out
    obtain ⟨r0, r1, r2, f0, f1, f2⟩ := blk3 Hr3.out
    go_wp2_with fail
    obtain ⟨q1, q2⟩ := out3 Hr3.out (.int .i64 0) (.int .i64 0) (.string ⟨#[]⟩)
    obtain ⟨d0, d1, d2, _⟩ := blk3 q1
    refine bodyPost_ret (v := .tuple #[.agg #[.int .i64 0, .int .i64 0, .string ⟨#[]⟩], .int .i64 (gx)]) (by simp [results, Try.results34, go_sem, d0, d1, d2]) rfl ⟨?_, TT3.out.trans q2 (fun b hb => .inr (by simp at hb; omega))⟩
    rw [Hf.out]; rfl
  have hgx1 : gx = 0 := by omega
  rw [if_neg hgx0] at hst
  subst hgx1
  clear hgx0
  have q8 := beq_S nm [99, 97, 116]
  try dsimp only at hbi
  have hcme := Hcme.out
  rcases hbi with hb | ⟨hb, hb1, hb2⟩ | ⟨hb, hb1, o, hop, hb2⟩
  · rw [decide_eq_true (p := nm = S [99, 97, 116]) hb] at q8
    rw [show bothV ⟨k, nm, ⟨vk, vn, vt⟩, op⟩ ⟨fk, fn, fs⟩ ⟨gk, gn, gs⟩ = catV ⟨fk, fn, fs⟩ ⟨gk, gn, gs⟩ from if_pos hb] at hst
    have hca := fun w' => cat_any ⟨fk, fn, fs⟩ ⟨gk, gn, gs⟩ hfx hgx w'
    obtain ⟨⟨⟨jk, jn, js⟩, jx⟩, hje⟩ : ∃ r, r = catV ⟨fk, fn, fs⟩ ⟨gk, gn, gs⟩ := ⟨_, rfl⟩
    rw [← hje] at hst hca
    simp only [VD.val] at hca
    have Hf := Lib.hid hst
    clear hst hje hb hcme
    obtain ⟨a0, a1, a2, a3, a4, a5, a6, _⟩ := blk7 Ha3.out
    obtain ⟨f0, f1, f2, _⟩ := blk3 Hf3.out
    obtain ⟨g0, g1, g2, _⟩ := blk3 Hg3.out
    go_wp2_with fail
    clear a0 a1 a2 a3 a4 a5 a6 f0 f1 f2 g0 g1 g2
    refine (hca _).mono ?_
    rintro e w5 ⟨rfl, u5⟩
    obtain ⟨r0, r1, r2, f0, f1, f2⟩ := blk3 (u5.blk Hr3.out (by simp))
    go_wp2_with fail
    obtain ⟨q1, q2⟩ := out3 (u5.blk Hr3.out (by simp)) (.int .i64 jk) (.int .i64 jn) (.string js)
    obtain ⟨d0, d1, d2, _⟩ := blk3 q1
    refine bodyPost_ret (v := .tuple #[.agg #[.int .i64 jk, .int .i64 jn, .string js], .int .i64 (jx)]) (by simp [results, Try.results34, go_sem, d0, d1, d2]) rfl ⟨?_, (TT3.out.trans0 u5).trans q2 (fun b hb => .inr (by simp at hb; omega))⟩
    rw [Hf.out]; rfl
  · rw [decide_eq_false (p := nm = S [99, 97, 116]) hb] at q8
    rw [show bothV ⟨k, nm, ⟨vk, vn, vt⟩, op⟩ ⟨fk, fn, fs⟩ ⟨gk, gn, gs⟩ = (compareV (cmpI op) ⟨fk, fn, fs⟩ ⟨gk, gn, gs⟩, 0) by unfold bothV; rw [if_neg hb, if_pos (by dsimp only; omega)]] at hst
    have hca := fun w' => compare_any (cmpI op) ⟨hb1, hb2⟩ ⟨fk, fn, fs⟩ ⟨gk, gn, gs⟩ w'
    have hb3 : 0 < cmpI op := by omega
    rw [← hcme] at hst hca hb3
    obtain ⟨⟨jk, jn, js⟩, hje⟩ : ∃ r, r = compareV cm' ⟨fk, fn, fs⟩ ⟨gk, gn, gs⟩ := ⟨_, rfl⟩
    rw [← hje] at hst hca
    simp only [VD.val] at hca
    have Hf := Lib.hid hst
    clear hst hje hb hb1 hb2 hcme
    obtain ⟨a0, a1, a2, a3, a4, a5, a6, _⟩ := blk7 Ha3.out
    obtain ⟨f0, f1, f2, _⟩ := blk3 Hf3.out
    obtain ⟨g0, g1, g2, _⟩ := blk3 Hg3.out
    go_wp2_with fail
    clear a0 a1 a2 a3 a4 a5 a6 f0 f1 f2 g0 g1 g2
    refine (hca _).mono ?_
    rintro e w5 ⟨rfl, u5⟩
    obtain ⟨r0, r1, r2, f0, f1, f2⟩ := blk3 (u5.blk Hr3.out (by simp))
    go_wp2_with fail
    obtain ⟨q1, q2⟩ := out3 (u5.blk Hr3.out (by simp)) (.int .i64 jk) (.int .i64 jn) (.string js)
    obtain ⟨d0, d1, d2, _⟩ := blk3 q1
    refine bodyPost_ret (v := .tuple #[.agg #[.int .i64 jk, .int .i64 jn, .string js], .int .i64 (0)]) (by simp [results, Try.results34, go_sem, d0, d1, d2]) rfl ⟨?_, (TT3.out.trans0 u5).trans q2 (fun b hb => .inr (by simp at hb; omega))⟩
    rw [Hf.out]; rfl
  · rw [decide_eq_false (p := nm = S [99, 97, 116]) hb] at q8
    subst hop
    rw [show bothV ⟨k, nm, ⟨vk, vn, vt⟩, S [o]⟩ ⟨fk, fn, fs⟩ ⟨gk, gn, gs⟩ = arithV (o.toNat : Int) ⟨fk, fn, fs⟩ ⟨gk, gn, gs⟩ by unfold bothV; rw [if_neg hb, if_neg (by dsimp only; omega)]; rfl] at hst
    have Har := Lib.hid fun w' => arith_any (o.toNat : Int) hb2 ⟨fk, fn, fs⟩ ⟨gk, gn, gs⟩ w'
    have hb3 : ¬ 0 < cmpI (S [o]) := by omega
    rw [← hcme] at hb3
    obtain ⟨⟨⟨jk, jn, js⟩, jx⟩, hje⟩ : ∃ r, r = arithV (o.toNat : Int) ⟨fk, fn, fs⟩ ⟨gk, gn, gs⟩ := ⟨_, rfl⟩
    rw [← hje] at hst Har
    simp only [VD.val] at Har
    have Hf := Lib.hid hst
    clear hst hje hb hb1 hb2 hcme
    obtain ⟨a0, a1, a2, a3, a4, a5, a6, _⟩ := blk7 Ha3.out
    obtain ⟨f0, f1, f2, _⟩ := blk3 Hf3.out
    obtain ⟨g0, g1, g2, _⟩ := blk3 Hg3.out
    go_wp2_with fail
    clear a0 a1 a2 a3 a4 a5 a6 f0 f1 f2 g0 g1 g2
    have td := (Touch.refl [] w4).drew
    have hdr := td.blk Hr3.out (by simp)
    obtain ⟨_, _, _, _, _, a5, _, _⟩ := blk7 (td.blk Ha3.out (by simp))
    obtain ⟨f0, f1, f2, _⟩ := blk3 (td.blk Hf3.out (by simp))
    obtain ⟨g0, g1, g2, _⟩ := blk3 (td.blk Hg3.out (by simp))
    have hzf := (Array.getElem?_eq_some_iff.1 Hf3.out).1
    have hzg := (Array.getElem?_eq_some_iff.1 Hg3.out).1
    have hzr := (Array.getElem?_eq_some_iff.1 Hbr.out).1
    have hz1 := u1.size
    have hz3 := u3.size
    have hzr2 := (Array.getElem?_eq_some_iff.1 Hr2.out).1
    refine wp_region_held_drew (S := fun w' => w'.cell? ⟨w.heap.size, 5, none⟩ = some (.string (S [o])) ∧ w'.cell? ⟨w1.heap.size, 0, none⟩ = some (.int .i64 fk) ∧ w'.cell? ⟨w1.heap.size, 1, none⟩ = some (.int .i64 fn) ∧ w'.cell? ⟨w1.heap.size, 2, none⟩ = some (.string fs) ∧ w'.cell? ⟨w3.heap.size, 0, none⟩ = some (.int .i64 gk) ∧ w'.cell? ⟨w3.heap.size, 1, none⟩ = some (.int .i64 gn) ∧ w'.cell? ⟨w3.heap.size, 2, none⟩ = some (.string gs)) (by kernel_rfl) ⟨a5, f0, f1, f2, g0, g1, g2⟩ (fun hHeld => ?_)
    refine take_d (i := 0) (d := 105) (v := ?_) rfl rfl (by kernel_rfl) (by kernel_rfl) (by kernel_rfl) (fun _ _ _ h => h) (Or.inl ⟨by rfl, ?_⟩) (by assumption) ?_
    rotate_left
    · intro w hSw; (try dsimp only at hSw); go_simp; (try with_reducible rfl)
    try simp only [Act.put, List.setIfInBounds_toArray, List.set_cons_zero, List.set_cons_succ]
    refine take_d (i := 1) (d := 106) (v := ?_) rfl rfl (by kernel_rfl) (by kernel_rfl) (by kernel_rfl) (fun _ _ _ h => h) (Or.inl ⟨by rfl, ?_⟩) (by assumption) ?_
    rotate_left
    · intro w hSw; (try dsimp only at hSw); go_simp; (try with_reducible rfl)
    try simp only [Act.put, List.setIfInBounds_toArray, List.set_cons_zero, List.set_cons_succ]
    refine take_d (i := 2) (d := 107) (v := .int .u8 (o.toNat : Int)) rfl rfl (by kernel_rfl) (by kernel_rfl) (by kernel_rfl) (fun _ _ _ h => h) (Or.inl ⟨by rfl, ?_⟩) (by assumption) ?_
    · intro w hSw; (try dsimp only at hSw); go_simp; rw [dif_pos (show 0 < (S [o]).size from Nat.one_pos)]; rfl
    try simp only [Act.put, List.setIfInBounds_toArray, List.set_cons_zero, List.set_cons_succ]
    refine take_d (i := 3) (d := 108) (v := ?_) rfl rfl (by kernel_rfl) (by kernel_rfl) (by kernel_rfl) (fun _ _ _ h => h) (Or.inl ⟨by rfl, ?_⟩) (by assumption) ?_
    rotate_left
    · intro w hSw; (try dsimp only at hSw); go_simp; (try with_reducible rfl)
    try simp only [Act.put, List.setIfInBounds_toArray, List.set_cons_zero, List.set_cons_succ]
    refine take_d (i := 4) (d := 109) (v := ?_) rfl rfl (by kernel_rfl) (by kernel_rfl) (by kernel_rfl) (fun _ _ _ h => h) (Or.inl ⟨by rfl, ?_⟩) (by assumption) ?_
    rotate_left
    · intro w hSw; (try dsimp only at hSw); go_simp; (try with_reducible rfl)
    try simp only [Act.put, List.setIfInBounds_toArray, List.set_cons_zero, List.set_cons_succ]
    refine wpAnyH_ready (rs := [5]) (by kernel_rfl) (by simp) ?_
    refine AllReadyH.cons rfl (fun K hK => ?_) AllReadyH.nil
    go_simp
    go_at_call 56
    refine (Har.out _).mono ?_
    rintro e w5 ⟨rfl, u5⟩
    have a5' := u5.cell a5 (by simp)
    have f0' := u5.cell f0 (by simp)
    have f1' := u5.cell f1 (by simp)
    have f2' := u5.cell f2 (by simp)
    have g0' := u5.cell g0 (by simp)
    have g1' := u5.cell g1 (by simp)
    have g2' := u5.cell g2 (by simp)
    (try go_wp2_with fail)
    refine hK.out _ _ ⟨a5', f0', f1', f2', g0', g1', g2'⟩ (fun _hH => ?_)
    clear hK K
    try simp only [Act.put, List.setIfInBounds_toArray, List.set_cons_zero, List.set_cons_succ]
    refine take_d (i := 6) (d := 111) (v := ?_) rfl rfl (by kernel_rfl) (by kernel_rfl) (by kernel_rfl) (fun _ _ _ h => h) (Or.inl ⟨by rfl, ?_⟩) (by assumption) ?_
    rotate_left
    · intro w hSw; (try dsimp only at hSw); go_simp; (try with_reducible rfl)
    try simp only [Act.put, List.setIfInBounds_toArray, List.set_cons_zero, List.set_cons_succ]
    refine take_d (i := 7) (d := 112) (v := ?_) rfl rfl (by kernel_rfl) (by kernel_rfl) (by kernel_rfl) (fun _ _ _ h => h) (Or.inl ⟨by rfl, ?_⟩) (by assumption) ?_
    rotate_left
    · intro w hSw; (try dsimp only at hSw); go_simp; (try with_reducible rfl)
    try simp only [Act.put, List.setIfInBounds_toArray, List.set_cons_zero, List.set_cons_succ]
    have hbr2 := u5.blk hdr (by simp)
    obtain ⟨r0, r1, r2, f0r, f1r, f2r⟩ := blk3 hbr2
    obtain ⟨q1, q2⟩ := out3 hbr2 (.int .i64 jk) (.int .i64 jn) (.string js)
    have a5'' := q2.cell a5' (by simp only [List.mem_singleton]; omega)
    have f0'' := q2.cell f0' (by simp only [List.mem_singleton]; omega)
    have f1'' := q2.cell f1' (by simp only [List.mem_singleton]; omega)
    have f2'' := q2.cell f2' (by simp only [List.mem_singleton]; omega)
    have g0'' := q2.cell g0' (by simp only [List.mem_singleton]; omega)
    have g1'' := q2.cell g1' (by simp only [List.mem_singleton]; omega)
    have g2'' := q2.cell g2' (by simp only [List.mem_singleton]; omega)
    refine wpAnyH_ready (rs := [8]) (by kernel_rfl) (by simp) ?_
    refine AllReadyH.cons rfl (fun K hK => ?_) AllReadyH.nil
    go_simp
    (try go_wp2_with fail)
    refine hK.out _ _ ⟨a5'', f0'', f1'', f2'', g0'', g1'', g2''⟩ (fun _hH => ?_)
    clear hK K
    try simp only [Act.put, List.setIfInBounds_toArray, List.set_cons_zero, List.set_cons_succ]
    refine take_d (i := 9) (d := 7) (v := ?_) rfl rfl (by kernel_rfl) (by kernel_rfl) (by kernel_rfl) (fun _ _ _ h => h) (Or.inl ⟨by rfl, ?_⟩) (by assumption) ?_
    rotate_left
    · intro w hSw; (try dsimp only at hSw); go_simp; (try with_reducible rfl)
    try simp only [Act.put, List.setIfInBounds_toArray, List.set_cons_zero, List.set_cons_succ]
    refine wpAnyH_done (by kernel_rfl) ?_ _
    go_wp2_with fail
    obtain ⟨d0, d1, d2, _⟩ := blk3 q1
    refine bodyPost_ret (v := .tuple #[.agg #[.int .i64 jk, .int .i64 jn, .string js], .int .i64 jx]) (by simp [results, Try.results34, go_sem, d0, d1, d2]) rfl ⟨?_, ((TT3.out.trans0 td).trans0 u5).trans q2 (fun b hb => .inr (by simp at hb; omega))⟩
    rw [Hf.out]; rfl
theorem eval_any : ∀ n, EvalSaid n
  | 0 => fun e => e.elim
  | n + 1 => eval_step n (eval_any n)
end Go.Proofs.Ytlkckkagoommaaa

/- schema.Schema.Fits: does a row fit? For every schema and row. -/
namespace Go.Proofs.Ytlkckkagoommaaa
open Go.RowKit

/-- does a value fit a column? -/
def fitC (c : CD) (v : VD) : Bool := v.right && (decide (v.kind = 0) || decide (v.kind = c.typ))
def fitR (cs : List CD) (vs : List VD) : Bool := decide (vs.length = cs.length) && (List.zipWith fitC cs vs).all id
theorem fit_no {cs : List CD} {vs : List VD} {k : Nat} (h1 : k < cs.length) (h2 : k < vs.length) (hb : fitC cs[k] vs[k] = false) : fitR cs vs = false := by
  have hk : k < (List.zipWith fitC cs vs).length := by rw [List.length_zipWith]; omega
  have := all_no (p := id) hk (by rw [List.getElem_zipWith]; exact hb)
  unfold fitR
  rw [this, Bool.and_false]
theorem fit_yes {cs : List CD} {vs : List VD} {k : Nat} (h1 : k < cs.length) (h2 : k < vs.length) (h : ((List.zipWith fitC cs vs).take k).all id = true) (hb : fitC cs[k] vs[k] = true) : ((List.zipWith fitC cs vs).take (k + 1)).all id = true := by
  have hk : k < (List.zipWith fitC cs vs).length := by rw [List.length_zipWith]; omega
  exact all_snoc (p := id) hk h (by rw [List.getElem_zipWith]; exact hb)

set_option maxRecDepth 20000 in
set_option maxHeartbeats 6400000 in
theorem fits_any (A : Option Addr) (cap n : Nat) (cs : List CD) (hn : cs.length = n) (hok : ∀ c ∈ cs, c.Ok) (B : Option Addr) (bcap m : Nat) (vs : List VD) (hm : vs.length = m) (hvk : ∀ v ∈ vs, v.Ok 140737000000000)
    (w : World) (h : ColsAt w A cs) (hv : ValsAt w B vs) (hl : n ≤ 140737000000000) (hl2 : m ≤ 140737000000000) :
    Calls Try.prog 15 #[.slice A n cap, .slice B m bcap] w fun e w' => e = .returned (.bool (decide (checkV cs = 0) && fitR cs vs)) ∧ Touch [] w w' := by
  subst hn hm
  have hchk := check_any A cap cs.length cs rfl hok w h (by omega)
  by_cases hc0 : checkV cs = 0
  · rw [hc0] at hchk
    have Hchk := Lib.hid hchk; have Hc0 := Lib.hid (show (decide (checkV cs = 0) && fitR cs vs) = fitR cs vs by rw [hc0]; rfl)
    clear hchk hc0
    by_cases hlen : vs.length = cs.length
    · have Hlen := Lib.hid hlen
      go_enter Try.func15, Try.ntmps15
      go_wp2_with (go_at_call 38; refine Hchk.out.mono ?_; rintro e w1 ⟨rfl, t1⟩)
      clear Hchk
      go_loopw [19] (fun i wr => ∃ k : Nat, k ≤ vs.length ∧ i = .int .i64 k ∧ Hid (((List.zipWith fitC cs vs).take k).all id = true) ∧ Touch [] w wr) (fun i _ => vs.length - (intOf i).toNat)
      case atStart => exact ⟨0, by omega, rfl, Lib.hid rfl, t1⟩
      case round =>
        clear t1
        obtain ⟨k, hk, rfl, Hall, ht⟩ := hrel
        clear hlen
        by_cases hlt : k < vs.length
        · have hlt2 : k < cs.length := by have := Hlen.out; omega
          obtain ⟨ad, b, off, rfl, hadd, c0, c1⟩ := (h.touch0 ht).at_ k hlt2
          obtain ⟨bd, b2, off2, rfl, hadd2, d0, d1, d2⟩ := (hv.touch0 ht).at_ k hlt
          have hno := fit_no hlt2 hlt
          have hyes := fit_yes hlt2 hlt Hall.out
          have hvok := hvk _ (List.getElem_mem hlt)
          obtain ⟨c, hce⟩ : ∃ c, c = cs[k] := ⟨_, rfl⟩
          obtain ⟨v, hve⟩ : ∃ v, v = vs[k] := ⟨_, rfl⟩
          rw [← hce] at c0 c1 hno hyes
          rw [← hve] at d0 d1 d2 hno hyes hvok
          have Hno := Lib.hid hno; have Hyes := Lib.hid hyes
          obtain ⟨_, _, hvt⟩ := hvok
          obtain ⟨kd, nm, tx⟩ := v
          simp only at d0 d1 d2 hvt
          clear hce hve hno hyes Hall c0
          have hb := heap_alloc_new wr (.cells #[.int .i64 kd, .int .i64 nm, .string tx] 30)
          have tb := (Touch.refl [] wr).alloc (.cells #[.int .i64 kd, .int .i64 nm, .string tx] 30)
          obtain ⟨W, hW⟩ : ∃ W, W = wr.alloc (.cells #[.int .i64 kd, .int .i64 nm, .string tx] 30) := ⟨_, rfl⟩
          rw [← hW] at hb tb
          have g0 := TW.cell (cell_blk hb (i := 0) rfl)
          have g1 := TW.cell (cell_blk hb (i := 1) rfl)
          have g2 := TW.cell (cell_blk hb (i := 2) rfl)
          have g3 := TW.cell (tb.cell c1 (by simp))
          have hright := fun w' => right_any ⟨kd, nm, tx⟩ hvt w'
          simp only [VD.val] at hright
          have hkI0 : (0 : Int) ≤ (k : Int) := by omega
          have hkI : (k : Int) < (cs.length : Int) := by omega
          have HW := Lib.hid hW
          clear hW hb
          rcases hvr : VD.right ⟨kd, nm, tx⟩ with _ | _
          · have Hf := Lib.hid (Hno.out (by unfold fitC; rw [hvr]; rfl))
            rw [hvr] at hright
            have Hright := Lib.hid hright; clear hright hvr
            go_wp2
            rw [← HW.out]
            refine wp_region_tw W (Touch.refl _ _) (by kernel_rfl) (by kernel_rfl) ?_
            repeat (go_big_quiet_step (((go_at_call 16; exact Calls.tw _ (Hright.out _)))))
            refine wpQuiet_nil ?_
            rintro _ ⟨x2, rfl⟩
            go_wp2
            go_ret
            exact ⟨ret_bool (by rw [Hc0.out, Hf.out]), (ht.trans0 tb).trans0 x2.t⟩
          · have Hr := Lib.hid hvr
            rw [hvr] at hright
            have Hright := Lib.hid hright; clear hright hvr
            by_cases hk0 : kd = 0
            · subst hk0
              have Ha := Lib.hid (Hyes.out (by unfold fitC; rw [Hr.out]; rfl))
              go_wp2
              rw [← HW.out]
              refine wp_region_tw W (Touch.refl _ _) (by kernel_rfl) (by kernel_rfl) ?_
              repeat (go_big_quiet_step (((go_at_call 16; exact Calls.tw _ (Hright.out _)))))
              refine wpQuiet_nil ?_
              rintro _ ⟨x2, rfl⟩
              go_wp2
              go_roundw
              case rel => exact ⟨k + 1, by omega, by go_num, Ha, (ht.trans0 tb).trans0 x2.t⟩
              case measure => simp [intOf]; omega
            · have q0 : (kd == 0) = false := by rw [beq_eq_false_iff_ne]; exact hk0
              have q0' : (kd != 0) = true := by rw [bne, q0]; rfl
              by_cases hkt : kd = c.typ
              · have Ha := Lib.hid (Hyes.out (by unfold fitC; rw [Hr.out]; simp [hkt]))
                have q1 : (kd == c.typ) = true := by rw [beq_iff_eq]; exact hkt
                have q1' : (kd != c.typ) = false := by rw [bne, q1]; rfl
                clear hk0 hkt
                go_wp2
                rw [← HW.out]
                refine wp_region_tw W (Touch.refl _ _) (by kernel_rfl) (by kernel_rfl) ?_
                repeat (go_big_quiet_step (((go_at_call 16; exact Calls.tw _ (Hright.out _)))))
                refine wpQuiet_nil ?_
                rintro _ ⟨x2, rfl⟩
                go_wp2
                go_roundw
                case rel => exact ⟨k + 1, by omega, by go_num, Ha, (ht.trans0 tb).trans0 x2.t⟩
                case measure => simp [intOf]; omega
              · have Hf := Lib.hid (Hno.out (by unfold fitC; rw [Hr.out]; simp [hkt, hk0]))
                have q1 : (kd == c.typ) = false := by rw [beq_eq_false_iff_ne]; exact hkt
                have q1' : (kd != c.typ) = true := by rw [bne, q1]; rfl
                clear hk0 hkt
                go_wp2
                rw [← HW.out]
                refine wp_region_tw W (Touch.refl _ _) (by kernel_rfl) (by kernel_rfl) ?_
                repeat (go_big_quiet_step (((go_at_call 16; exact Calls.tw _ (Hright.out _)))))
                refine wpQuiet_nil ?_
                rintro _ ⟨x2, rfl⟩
                go_wp2
                go_ret
                exact ⟨ret_bool (by rw [Hc0.out, Hf.out]), (ht.trans0 tb).trans0 x2.t⟩
        · obtain rfl : k = vs.length := by omega
          have hall := Hall.out
          rw [List.take_of_length_le (by rw [List.length_zipWith]; omega)] at hall
          have Hf := Lib.hid (show fitR cs vs = true by unfold fitR; rw [hall, decide_eq_true Hlen.out]; rfl)
          have hge : decide (vs.length < cs.length) = false := decide_eq_false (by have := Hlen.out; omega)
          clear hall Hall
          go_wp2
          go_ret
          exact ⟨ret_bool (by rw [Hc0.out, Hf.out]), ht⟩
    · have Hf := Lib.hid (show fitR cs vs = false by unfold fitR; rw [decide_eq_false hlen]; rfl)
      have hq : ((vs.length : Int) == (cs.length : Int)) = false := by rw [beq_eq_false_iff_ne]; omega
      have hq' : ((vs.length : Int) != (cs.length : Int)) = true := by rw [bne, hq]; rfl
      clear hlen
      go_enter Try.func15, Try.ntmps15
      go_wp2_with (go_at_call 38; refine Hchk.out.mono ?_; rintro e w1 ⟨rfl, t1⟩)
      go_ret
      exact ⟨ret_bool (by rw [Hc0.out, Hf.out]), t1⟩
  · have Hchk := Lib.hid hchk; have Hc0 := Lib.hid (show (decide (checkV cs = 0) && fitR cs vs) = false by rw [decide_eq_false hc0]; rfl)
    obtain ⟨E, hE⟩ : ∃ E, E = checkV cs := ⟨_, rfl⟩
    have HE := Lib.hid hE
    have hq : (E == 0) = false := by rw [beq_eq_false_iff_ne, hE]; exact hc0
    have hq' : (E != 0) = true := by rw [bne, hq]; rfl
    clear hchk hc0 hE
    go_enter Try.func15, Try.ntmps15
    go_wp2_with (go_at_call 38; refine Hchk.out.mono ?_; rintro e w1 ⟨rfl, t1⟩; rw [← HE.out])
    go_ret
    exact ⟨ret_bool (by rw [Hc0.out]), t1⟩
end Go.Proofs.Ytlkckkagoommaaa

/- expr.Expr.Type, expr.Expr.Eval. For every expression, schema and row. -/
namespace Go.Proofs.Ytlkckkagoommaaa
open Go.RowKit
attribute [local go_sem ↓] Go.wp_at_zero Go.wp_at_succ

set_option maxRecDepth 20000 in
set_option maxHeartbeats 3200000 in
theorem typeX_any (n : Nat) (e : TX n) (x : XC) (A : Option Addr) (cap m : Nat) (cs : List CD) (hm : cs.length = m) (hok : ∀ c ∈ cs, c.Ok) (w : World) (hx : ExP xcE anyB n w x e) (hcs : ColsAt w A cs) (hmb : m ≤ 140737000000000)
    (hs : sizeX n e ≤ 1000000) (hall : allX (fun q => q.v.text.size ≤ 140737000000000) n e) :
    Calls Try.prog 25 #[x.val, .slice A m cap] w fun r w' => r = .returned (.tuple #[.int .i64 (typeX cs n e).1, .int .i64 (typeX cs n e).2]) ∧ Touch [] w w' := by
  have Hchk := Lib.hid fun w' (t : Touch [] w w') => check_any A cap m cs hm hok w' (hcs.touch0 t) (by omega)
  have Hsz := Lib.hid fun w' (t : Touch [] w w') => sizeX_any n e x w' (hx.touch0 t) hs
  have Hty := Lib.hid fun w' (t : Touch [] w w') => typed_any n e x A cap m cs hm 1 w' (hx.touch0 t) (hcs.touch0 t) hmb hs hall (by omega)
  obtain ⟨res, hres⟩ : ∃ res, res = typeX cs n e := ⟨_, rfl⟩
  rw [← hres]
  unfold typeX at hres
  obtain ⟨⟨k, nm, ⟨vk, vn, vt⟩, op⟩, XA, xm, c⟩ := x
  simp only [XC.val] at Hchk Hsz Hty ⊢
  clear hx hall hs
  have t0 := (Touch.refl [] w).alloc (.cells #[.int .i64 k, .string nm, .int .i64 vk, .int .i64 vn, .string vt, .string op, .slice XA xm c] 33)
  have hb := heap_alloc_new w (.cells #[.int .i64 k, .string nm, .int .i64 vk, .int .i64 vn, .string vt, .string op, .slice XA xm c] 33)
  have Hb := Lib.hid hb
  clear hb
  obtain ⟨cv, hcv⟩ : ∃ r, r = checkV cs := ⟨_, rfl⟩
  rw [← hcv] at Hchk hres
  clear hcv
  by_cases h0 : cv = 0
  rotate_left
  · rw [if_neg h0] at hres
    have Hf := Lib.hid hres
    have q0 : (cv != 0) = true := by simpa using h0
    clear h0 hres
    go_enter Try.func25, Try.ntmps25
    go_wp2_with fail
    refine (Hchk.out _ t0).mono ?_
    rintro e w1 ⟨rfl, t1⟩
    go_wp2_with fail
    go_ret2
    exact ⟨by rw [Hf.out]; rfl, t0.trans0 t1⟩
  subst h0
  rw [if_pos rfl] at hres
  obtain ⟨sz, hsz⟩ : ∃ r, r = sizeX n e := ⟨_, rfl⟩
  rw [← hsz] at Hsz hres
  clear hsz
  by_cases h1 : 256 < sz
  · rw [if_pos h1] at hres
    have Hf := Lib.hid hres
    have q1 : (256 : Int) < (sz : Int) := by omega
    clear h1 hres
    go_enter Try.func25, Try.ntmps25
    go_wp2_with fail
    refine (Hchk.out _ t0).mono ?_
    rintro e w1 ⟨rfl, t1⟩
    obtain ⟨c0, c1, c2, c3, c4, c5, c6, _⟩ := blk7 (t1.blk Hb.out (by simp))
    go_wp2_with fail
    refine (Hsz.out _ (t0.trans0 t1)).mono ?_
    rintro e w2 ⟨rfl, t2⟩
    go_wp2_with fail
    go_ret2
    exact ⟨by rw [Hf.out]; rfl, (t0.trans0 t1).trans0 t2⟩
  · rw [if_neg h1] at hres
    have Hf := Lib.hid hres
    have q1 : ¬ (256 : Int) < (sz : Int) := by omega
    clear h1 hres
    go_enter Try.func25, Try.ntmps25
    go_wp2_with fail
    refine (Hchk.out _ t0).mono ?_
    rintro e w1 ⟨rfl, t1⟩
    obtain ⟨c0, c1, c2, c3, c4, c5, c6, _⟩ := blk7 (t1.blk Hb.out (by simp))
    go_wp2_with fail
    refine (Hsz.out _ (t0.trans0 t1)).mono ?_
    rintro e w2 ⟨rfl, t2⟩
    obtain ⟨c0, c1, c2, c3, c4, c5, c6, _⟩ := blk7 (t2.blk (t1.blk Hb.out (by simp)) (by simp))
    go_wp2_with fail
    refine (Hty.out _ ((t0.trans0 t1).trans0 t2)).mono ?_
    rintro e w3 ⟨rfl, t3⟩
    go_wp2_with fail
    go_ret2
    exact ⟨by rw [Hf.out]; rfl, ((t0.trans0 t1).trans0 t2).trans0 t3⟩

/-- as the program reckons from any row -/
def topX (cs : List CD) (row : List VD) (n : Nat) (e : TX n) : VD × Int :=
  if (typeX cs n e).2 ≠ 0 then (zeroV, (typeX cs n e).2) else if fitR cs row = true then evalX cs row n e else (zeroV, 12)
theorem typeX_ok {cs : List CD} {n : Nat} {e : TX n} (h : (typeX cs n e).2 = 0) : checkV cs = 0 ∧ sizeX n e ≤ 256 ∧ (typedX cs n 1 e).2 = 0 ∧ typeX cs n e = typedX cs n 1 e := by
  unfold typeX at h ⊢
  by_cases h0 : checkV cs = 0
  · rw [if_pos h0] at h ⊢
    by_cases h1 : 256 < sizeX n e
    · rw [if_pos h1] at h; cases h
    · rw [if_neg h1] at h ⊢; exact ⟨h0, by omega, h, rfl⟩
  · rw [if_neg h0] at h; exact absurd h h0
theorem fitR_len {cs : List CD} {row : List VD} (h : fitR cs row = true) : row.length = cs.length := by
  unfold fitR at h
  rw [Bool.and_eq_true] at h
  exact of_decide_eq_true h.1

set_option maxRecDepth 20000 in
set_option maxHeartbeats 3200000 in
theorem topX_any (n : Nat) (e : TX n) (x : XC) (A : Option Addr) (cap m : Nat) (cs : List CD) (hm : cs.length = m) (hok : ∀ c ∈ cs, c.Ok) (B : Option Addr) (rc rm : Nat) (row : List VD) (hrm : row.length = rm) (hvk : ∀ v ∈ row, v.Ok 140737000000000)
    (w : World) (hx : ExP xcE anyB n w x e) (hcs : ColsAt w A cs) (hrow : ValsAt w B row) (hmb : m ≤ 140737000000000) (hrb : rm ≤ 140737000000000) (hs : sizeX n e ≤ 1000000) (hall : allX (fun q => q.v.text.size ≤ 140737000000000) n e) :
    Calls Try.prog 13 #[x.val, .slice A m cap, .slice B rm rc] w fun r w' => r = .returned (.tuple #[(topX cs row n e).1.val, .int .i64 (topX cs row n e).2]) ∧ Touch [] w w' := by
  have Hty := Lib.hid fun w' (t : Touch [] w w') => typeX_any n e x A cap m cs hm hok w' (hx.touch0 t) (hcs.touch0 t) hmb hs hall
  have Hfit := Lib.hid fun w' (t : Touch [] w w') => fits_any A cap m cs hm hok B rc rm row hrm hvk w' (hcs.touch0 t) (hrow.touch0 t) hmb hrb
  have Hev := Lib.hid fun w' (t : Touch [] w w') h1 h2 => eval_any n e x A cap m cs hm B rc rm row hrm w' (hx.touch0 t) (hcs.touch0 t) (hrow.touch0 t) hmb h1 h2 (fun v hv => (hvk v hv).t) hall
  obtain ⟨res, hres⟩ : ∃ res, res = topX cs row n e := ⟨_, rfl⟩
  rw [← hres]
  unfold topX at hres
  obtain ⟨⟨k, nm, ⟨vk, vn, vt⟩, op⟩, XA, xm, c⟩ := x
  simp only [XC.val] at Hty Hfit Hev ⊢
  clear hx hall hs
  have t0 := ((Touch.refl [] w).alloc (.cells #[.int .i64 k, .string nm, .int .i64 vk, .int .i64 vn, .string vt, .string op, .slice XA xm c] 33)).alloc (.cells #[.int .i64 0, .int .i64 0, .string ⟨#[]⟩] 30)
  have hb1 := ((Touch.refl [] (w.alloc (.cells #[.int .i64 k, .string nm, .int .i64 vk, .int .i64 vn, .string vt, .string op, .slice XA xm c] 33))).alloc (.cells #[.int .i64 0, .int .i64 0, .string ⟨#[]⟩] 30)).blk (heap_alloc_new w (.cells #[.int .i64 k, .string nm, .int .i64 vk, .int .i64 vn, .string vt, .string op, .slice XA xm c] 33)) (by simp)
  have hbr := heap_alloc_new (w.alloc (.cells #[.int .i64 k, .string nm, .int .i64 vk, .int .i64 vn, .string vt, .string op, .slice XA xm c] 33)) (.cells #[.int .i64 0, .int .i64 0, .string ⟨#[]⟩] 30)
  simp only [World.size_alloc] at hbr
  obtain ⟨W, hW⟩ : ∃ W, W = (w.alloc (.cells #[.int .i64 k, .string nm, .int .i64 vk, .int .i64 vn, .string vt, .string op, .slice XA xm c] 33)).alloc (.cells #[.int .i64 0, .int .i64 0, .string ⟨#[]⟩] 30) := ⟨_, rfl⟩
  rw [← hW] at hb1 hbr t0
  have HW := Lib.hid hW; have Hb1 := Lib.hid hb1; have Hbr := Lib.hid hbr; have T0 := Lib.hid t0
  have Ho := Lib.hid fun h : (typeX cs n e).2 = 0 => typeX_ok h
  clear hW hb1 hbr t0 hcs hrow
  obtain ⟨⟨ty, er⟩, hte⟩ : ∃ r, r = typeX cs n e := ⟨_, rfl⟩
  rw [← hte] at Hty hres Ho
  simp only at Hty hres Ho
  clear hte
  by_cases h0 : er ≠ 0
  · rw [if_pos h0] at hres
    have Hf := Lib.hid hres
    have q0 : (er != 0) = true := by simpa using h0
    clear h0 hres Ho Hev Hfit
    go_enter Try.func13, Try.ntmps13
    go_wp2_with fail
    rw [← HW.out]
    obtain ⟨a0, a1, a2, a3, a4, a5, a6, _⟩ := blk7 Hb1.out
    go_wp2_with fail
    clear a0 a1 a2 a3 a4 a5 a6
    refine (Hty.out _ T0.out).mono ?_
    rintro e w1 ⟨rfl, u1⟩
    obtain ⟨r0, r1, r2, f0, f1, f2⟩ := blk3 (u1.blk Hbr.out (by simp))
    go_wp2_with fail
    obtain ⟨q1, q2⟩ := out3 (u1.blk Hbr.out (by simp)) (.int .i64 0) (.int .i64 0) (.string ⟨#[]⟩)
    obtain ⟨d0, d1, d2, _⟩ := blk3 q1
    refine bodyPost_ret (v := .tuple #[.agg #[.int .i64 0, .int .i64 0, .string ⟨#[]⟩], .int .i64 er]) (by simp [results, Try.results13, go_sem, d0, d1, d2]) rfl ⟨?_, (T0.out.trans0 u1).trans q2 (fun b hb => .inr (by simp at hb; omega))⟩
    rw [Hf.out]; rfl
  have h0' : er = 0 := by omega
  rw [if_neg h0] at hres
  subst h0'
  obtain ⟨o1, o2, o3, _⟩ := Ho.out rfl
  clear h0 Ho
  rw [o1] at Hfit
  have o4 := okX_of cs n 1 e o3
  rcases hfr : fitR cs row with _ | _
  · rw [hfr, if_neg (by simp)] at hres
    rw [hfr] at Hfit
    have Hf := Lib.hid hres
    clear hres hfr Hev o1 o2 o3 o4
    simp only [decide_true, Bool.and_false] at Hfit
    go_enter Try.func13, Try.ntmps13
    go_wp2_with fail
    rw [← HW.out]
    obtain ⟨a0, a1, a2, a3, a4, a5, a6, _⟩ := blk7 Hb1.out
    go_wp2_with fail
    clear a0 a1 a2 a3 a4 a5 a6
    refine (Hty.out _ T0.out).mono ?_
    rintro e w1 ⟨rfl, u1⟩
    go_wp2_with fail
    refine (Hfit.out _ (T0.out.trans0 u1)).mono ?_
    rintro e w2 ⟨rfl, u2⟩
    obtain ⟨r0, r1, r2, f0, f1, f2⟩ := blk3 (u2.blk (u1.blk Hbr.out (by simp)) (by simp))
    go_wp2_with fail
    obtain ⟨q1, q2⟩ := out3 (u2.blk (u1.blk Hbr.out (by simp)) (by simp)) (.int .i64 0) (.int .i64 0) (.string ⟨#[]⟩)
    obtain ⟨d0, d1, d2, _⟩ := blk3 q1
    refine bodyPost_ret (v := .tuple #[.agg #[.int .i64 0, .int .i64 0, .string ⟨#[]⟩], .int .i64 12]) (by simp [results, Try.results13, go_sem, d0, d1, d2]) rfl ⟨?_, ((T0.out.trans0 u1).trans0 u2).trans q2 (fun b hb => .inr (by simp at hb; omega))⟩
    rw [Hf.out]; rfl
  · rw [hfr, if_pos rfl] at hres
    rw [hfr] at Hfit
    have hev := fun w' t => Hev.out w' t (fitR_len hfr) o4
    rw [← hres] at hev
    obtain ⟨⟨rk, rn, rs⟩, rx⟩ := res
    simp only [VD.val] at hev
    have Hev2 := Lib.hid hev
    clear hres hfr Hev o1 o2 o3 o4 hev
    simp only [decide_true, Bool.and_true] at Hfit
    go_enter Try.func13, Try.ntmps13
    go_wp2_with fail
    rw [← HW.out]
    obtain ⟨a0, a1, a2, a3, a4, a5, a6, _⟩ := blk7 Hb1.out
    go_wp2_with fail
    clear a0 a1 a2 a3 a4 a5 a6
    refine (Hty.out _ T0.out).mono ?_
    rintro e w1 ⟨rfl, u1⟩
    go_wp2_with fail
    refine (Hfit.out _ (T0.out.trans0 u1)).mono ?_
    rintro e w2 ⟨rfl, u2⟩
    obtain ⟨a0, a1, a2, a3, a4, a5, a6, _⟩ := blk7 (u2.blk (u1.blk Hb1.out (by simp)) (by simp))
    go_wp2_with fail
    clear a0 a1 a2 a3 a4 a5 a6
    refine (Hev2.out _ ((T0.out.trans0 u1).trans0 u2)).mono ?_
    rintro e w3 ⟨rfl, u3⟩
    obtain ⟨r0, r1, r2, f0, f1, f2⟩ := blk3 (u3.blk (u2.blk (u1.blk Hbr.out (by simp)) (by simp)) (by simp))
    go_wp2_with fail
    obtain ⟨q1, q2⟩ := out3 (u3.blk (u2.blk (u1.blk Hbr.out (by simp)) (by simp)) (by simp)) (.int .i64 rk) (.int .i64 rn) (.string rs)
    obtain ⟨d0, d1, d2, _⟩ := blk3 q1
    exact bodyPost_ret (v := .tuple #[.agg #[.int .i64 rk, .int .i64 rn, .string rs], .int .i64 rx]) (by simp [results, Try.results13, go_sem, d0, d1, d2]) rfl ⟨rfl, (((T0.out.trans0 u1).trans0 u2).trans0 u3).trans q2 (fun b hb => .inr (by simp at hb; omega))⟩
end Go.Proofs.Ytlkckkagoommaaa

/- What the names of an expression's columns are; its value hangs on no others. No walk. -/
namespace Go.Proofs.Ytlkckkagoommaaa
open Go.RowKit Go.Sort

instance decMemS (s : ByteArray) (l : List ByteArray) : Decidable (s ∈ l) := @List.instDecidableMemOfLawfulBEq ByteArray instBEqOfDecidableEq inferInstance s l
theorem lazyX_cong {α : Type} {f g : α → VD × Int} (d : ND) (args : List α) (v : VD) (h : ∀ a ∈ args, f a = g a) : lazyX f d args v = lazyX g d args v := by
  unfold lazyX
  rcases lazyV d v with _ | _ | q
  · rfl
  · rfl
  · simp only
    rcases hq : args[q]? with _ | a
    · rfl
    · simp only
      rw [h a (List.mem_of_getElem? hq)]
theorem evalX_cong (cs : List CD) (row row' : List VD) : ∀ (n : Nat) (e : TX n), (∀ s ∈ namesX n e, row.getD ((placeV cs s).getD 0) zeroV = row'.getD ((placeV cs s).getD 0) zeroV) → evalX cs row n e = evalX cs row' n e
  | 0, e => fun _ => e.elim
  | n + 1, e => fun h => by
    have h1 : e.1.kind = 1 → row.getD ((placeV cs e.1.name).getD 0) zeroV = row'.getD ((placeV cs e.1.name).getD 0) zeroV := fun hk => h _ (by show _ ∈ (if e.1.kind = 1 then [e.1.name] else []) ++ _; rw [if_pos hk]; simp)
    have ih : ∀ a ∈ e.2, evalX cs row n a = evalX cs row' n a := fun a ha => evalX_cong cs row row' n a (fun s hs => h s (List.mem_append_right _ (List.mem_flatMap.2 ⟨a, ha, hs⟩)))
    rw [evalX_succ cs row n e, evalX_succ cs row' n e]
    clear h
    generalize e.1 = nd at *
    generalize e.2 = args at *
    by_cases hk : nd.kind = 1
    · rw [if_pos hk, if_pos hk, h1 hk]
    rw [if_neg hk, if_neg hk]
    by_cases hk2 : nd.kind = 2
    · rw [if_pos hk2, if_pos hk2]
    rw [if_neg hk2, if_neg hk2]
    rcases args with _ | ⟨a, r⟩
    · rfl
    simp only
    rw [ih a (by simp), lazyX_cong nd (a :: r) _ ih]
    rcases r with _ | ⟨b, r⟩
    · rfl
    simp only
    rw [ih b (by simp)]
/-- every name is one of a column's, where there is a type -/
theorem names_placed (cs : List CD) : ∀ (n : Nat) (e : TX n), okX cs n e → ∀ s ∈ namesX n e, (placeV cs s).isSome = true
  | 0, e => fun _ => e.elim
  | n + 1, e => fun h s hs => by
    obtain ⟨nd, args⟩ := e
    obtain ⟨_, h2, h3⟩ := h
    rcases List.mem_append.1 (show s ∈ (if nd.kind = 1 then [nd.name] else []) ++ args.flatMap (namesX n) from hs) with q | q
    · by_cases hk : nd.kind = 1
      · rw [if_pos hk] at q
        obtain rfl : s = nd.name := by simpa using q
        exact h2 hk
      · rw [if_neg hk] at q; cases q
    · obtain ⟨a, ha, hs⟩ := List.mem_flatMap.1 q
      exact names_placed cs n a (h3 a ha) s hs
theorem placeV_name {cs : List CD} {s : ByteArray} {k : Nat} (h : placeV cs s = some k) : ∃ hk : k < cs.length, cs[k].name = s := by
  unfold placeV at h
  rw [List.findIdx?_eq_some_iff_getElem] at h
  obtain ⟨h1, h2, _⟩ := h
  exact ⟨h1, by simpa using h2⟩
/-- a row that has one's values in the named columns, another one's in the others -/
def mixR (cs : List CD) (ns : List ByteArray) (ra rb : List VD) (k : Nat) : List VD := (List.range rb.length).map fun i => if i < k ∧ (cs.getD i ⟨S [], 0⟩).name ∈ ns then ra.getD i zeroV else rb.getD i zeroV
theorem if_iff {α : Type} {c d : Prop} [Decidable c] [Decidable d] (h : c ↔ d) (a b : α) : (if c then a else b) = if d then a else b := by
  by_cases hc : c
  · rw [if_pos hc, if_pos (h.1 hc)]
  · rw [if_neg hc, if_neg fun q => hc (h.2 q)]
theorem mixR_length (cs : List CD) (ns : List ByteArray) (ra rb : List VD) (k : Nat) : (mixR cs ns ra rb k).length = rb.length := by simp [mixR]
theorem mixR_get (cs : List CD) (ns : List ByteArray) (ra rb : List VD) (k i : Nat) (h : i < rb.length) : (mixR cs ns ra rb k)[i]? = some (if i < k ∧ (cs.getD i ⟨S [], 0⟩).name ∈ ns then ra.getD i zeroV else rb.getD i zeroV) := by
  simp [mixR, List.getElem?_map, List.getElem?_range h]
theorem mixR_zero (cs : List CD) (ns : List ByteArray) (ra rb : List VD) : mixR cs ns ra rb 0 = rb := by
  apply List.ext_getElem?
  intro i
  by_cases h : i < rb.length
  · rw [mixR_get cs ns ra rb 0 i h, if_neg (by omega), List.getElem?_eq_getElem h, List.getD_eq_getElem?_getD, List.getElem?_eq_getElem h]; rfl
  · rw [List.getElem?_eq_none (by rw [mixR_length]; omega), List.getElem?_eq_none (by omega)]
theorem mixR_take (cs : List CD) (ns : List ByteArray) (ra rb : List VD) (k : Nat) (hk : k < rb.length) (hka : k < ra.length) (hc : k < cs.length) (hn : cs[k].name ∈ ns) : mixR cs ns ra rb (k + 1) = (mixR cs ns ra rb k).set k ra[k] := by
  apply List.ext_getElem?
  intro i
  rw [List.getElem?_set, mixR_length]
  by_cases h : i < rb.length
  · rw [mixR_get cs ns ra rb _ i h]
    by_cases hik : k = i
    · subst hik
      have : cs.getD k ⟨S [], 0⟩ = cs[k] := by rw [List.getD_eq_getElem?_getD, List.getElem?_eq_getElem hc]; rfl
      rw [if_pos rfl, if_pos hk, this, if_pos ⟨by omega, hn⟩, List.getD_eq_getElem?_getD, List.getElem?_eq_getElem hka]; rfl
    · rw [if_neg hik, mixR_get cs ns ra rb _ i h]
      by_cases hik2 : i < k
      · congr 1; exact if_iff ⟨fun q => ⟨hik2, q.2⟩, fun q => ⟨by omega, q.2⟩⟩ _ _
      · rw [if_neg (by omega), if_neg (by omega)]
  · rw [List.getElem?_eq_none (by rw [mixR_length]; omega), if_neg (by omega), List.getElem?_eq_none (by rw [mixR_length]; omega)]
theorem mixR_leave (cs : List CD) (ns : List ByteArray) (ra rb : List VD) (k : Nat) (hk : k < rb.length) (hc : k < cs.length) (hn : cs[k].name ∉ ns) : mixR cs ns ra rb (k + 1) = mixR cs ns ra rb k := by
  apply List.ext_getElem?
  intro i
  by_cases h : i < rb.length
  · rw [mixR_get cs ns ra rb _ i h, mixR_get cs ns ra rb _ i h]
    by_cases hik : k = i
    · subst hik
      have : cs.getD k ⟨S [], 0⟩ = cs[k] := by rw [List.getD_eq_getElem?_getD, List.getElem?_eq_getElem hc]; rfl
      rw [if_neg (by rw [this]; exact fun q => hn q.2), if_neg (by omega)]
    · congr 1; exact if_iff ⟨fun q => ⟨by omega, q.2⟩, fun q => ⟨by omega, q.2⟩⟩ _ _
  · rw [List.getElem?_eq_none (by rw [mixR_length]; omega), List.getElem?_eq_none (by rw [mixR_length]; omega)]
theorem fitR_iff (cs : List CD) (vs : List VD) : fitR cs vs = true ↔ vs.length = cs.length ∧ ∀ i (h1 : i < cs.length) (h2 : i < vs.length), fitC cs[i] vs[i] = true := by
  unfold fitR
  rw [Bool.and_eq_true, decide_eq_true_iff, List.all_eq_true]
  constructor
  · rintro ⟨h1, h2⟩
    exact ⟨h1, fun i a b => h2 _ (List.mem_iff_getElem.2 ⟨i, by rw [List.length_zipWith]; omega, by rw [List.getElem_zipWith]; rfl⟩)⟩
  · rintro ⟨h1, h2⟩
    refine ⟨h1, fun x hx => ?_⟩
    obtain ⟨i, hi, rfl⟩ := List.mem_iff_getElem.1 hx
    rw [List.length_zipWith] at hi
    rw [List.getElem_zipWith]
    exact h2 i (by omega) (by omega)
theorem mixR_mem {cs : List CD} {ns : List ByteArray} {ra rb : List VD} {k : Nat} (hl : ra.length = rb.length) {v : VD} (h : v ∈ mixR cs ns ra rb k) : v ∈ ra ∨ v ∈ rb := by
  obtain ⟨i, hi, rfl⟩ := List.mem_iff_getElem.1 h
  have h3 : i < rb.length := by rwa [mixR_length] at hi
  have h4 := mixR_get cs ns ra rb k i h3
  rw [List.getElem?_eq_getElem hi] at h4
  rw [Option.some.inj h4]
  by_cases hq : i < k ∧ (cs.getD i ⟨S [], 0⟩).name ∈ ns
  · rw [if_pos hq, List.getD_eq_getElem?_getD, List.getElem?_eq_getElem (show i < ra.length by omega)]; exact .inl (List.getElem_mem _)
  · rw [if_neg hq, List.getD_eq_getElem?_getD, List.getElem?_eq_getElem h3]; exact .inr (List.getElem_mem _)
/-- it fits as both do -/
theorem mixR_fits {cs : List CD} {ra rb : List VD} (ns : List ByteArray) (k : Nat) (ha : fitR cs ra = true) (hb : fitR cs rb = true) : fitR cs (mixR cs ns ra rb k) = true := by
  have la := fitR_len ha
  have lb := fitR_len hb
  have fa := (fitR_iff _ _).1 ha
  have fb := (fitR_iff _ _).1 hb
  refine (fitR_iff _ _).2 ⟨by rw [mixR_length]; exact fb.1, fun i h1 h2 => ?_⟩
  have h3 : i < rb.length := by rwa [mixR_length] at h2
  have h4 := mixR_get cs ns ra rb k i h3
  rw [List.getElem?_eq_getElem h2] at h4
  have h5 := Option.some.inj h4
  rw [h5]
  by_cases hq : i < k ∧ (cs.getD i ⟨S [], 0⟩).name ∈ ns
  · rw [if_pos hq, List.getD_eq_getElem?_getD, List.getElem?_eq_getElem (show i < ra.length by omega), Option.getD_some]
    exact fa.2 i h1 (by omega)
  · rw [if_neg hq, List.getD_eq_getElem?_getD, List.getElem?_eq_getElem h3, Option.getD_some]
    exact fb.2 i h1 h3
theorem mix_eval (cs : List CD) (ra rb : List VD) (ns : List ByteArray) (n : Nat) (e : TX n) (ha : fitR cs ra = true) (hb : fitR cs rb = true) (hns : ∀ s ∈ namesX n e, s ∈ ns) : topX cs ra n e = topX cs (mixR cs ns ra rb cs.length) n e := by
  unfold topX
  by_cases h0 : (typeX cs n e).2 ≠ 0
  · rw [if_pos h0, if_pos h0]
  rw [if_neg h0, if_neg h0, if_pos ha, if_pos (mixR_fits ns _ ha hb)]
  have la := fitR_len ha
  have lb := fitR_len hb
  obtain ⟨_, _, ht, _⟩ := typeX_ok (show (typeX cs n e).2 = 0 by omega)
  refine evalX_cong cs _ _ n e fun s hs => ?_
  have hp := names_placed cs n e (okX_of cs n 1 e ht) s hs
  rcases hj : placeV cs s with _ | j
  · rw [hj] at hp; cases hp
  obtain ⟨hjl, hjn⟩ := placeV_name hj
  have h6 : (mixR cs ns ra rb cs.length).getD j zeroV = (if j < cs.length ∧ (cs.getD j ⟨S [], 0⟩).name ∈ ns then ra.getD j zeroV else rb.getD j zeroV) := by rw [List.getD_eq_getElem?_getD, mixR_get cs ns ra rb _ j (by omega)]; rfl
  rw [Option.getD_some, h6]
  have : cs.getD j ⟨S [], 0⟩ = cs[j] := by rw [List.getD_eq_getElem?_getD, List.getElem?_eq_getElem hjl]; rfl
  rw [if_pos ⟨hjl, by rw [this, hjn]; exact hns s hs⟩]
end Go.Proofs.Ytlkckkagoommaaa

/- The names, sorted, each once: rising, the same ones, as many as are told apart. No walk. -/
namespace Go.Proofs.Ytlkckkagoommaaa
open Go.RowKit Go.Sort

theorem mkS_toList (s : ByteArray) : mkS s.data.toList = s := by cases s; rfl
theorem toList_mkS (l : List UInt8) : (mkS l).data.toList = l := rfl
theorem mkS_inj {a b : List UInt8} (h : mkS a = mkS b) : a = b := by rw [← toList_mkS a, h, toList_mkS]
theorem bytes_lt : ∀ (a b : List UInt8), a < b → Lib.compareBytes a b = -1
  | [], [] => fun h => absurd h (List.lt_irrefl [])
  | [], _ :: _ => fun _ => rfl
  | _ :: _, [] => fun h => by cases h
  | x :: a, y :: b => fun h => by
    unfold Lib.compareBytes
    rcases List.cons_lt_cons_iff.1 h with q | ⟨rfl, q⟩
    · rw [if_pos q]
    · rw [if_neg (UInt8.lt_irrefl x), if_neg (UInt8.lt_irrefl x)]
      exact bytes_lt a b q
section
variable {d : Array (List UInt8)}
theorem upTo_mem (m : Nat) (hs : ∀ i j, i ≤ j → j < m → d[i]! ≤ d[j]!) : (∀ x, x ∈ Lib.compactUpTo d m ↔ ∃ i, i < m ∧ d[i]! = x) ∧ (Lib.compactUpTo d m).Pairwise (· < ·) := by
  induction m with
  | zero => exact ⟨fun x => ⟨fun h => absurd h (by simp [Lib.compactUpTo]), fun ⟨i, hi, _⟩ => absurd hi (by omega)⟩, by simp [Lib.compactUpTo]⟩
  | succ m ih =>
    obtain ⟨i1, i2⟩ := ih (fun i j a b => hs i j a (by omega))
    rw [Lib.compactUpTo_succ]
    rcases hk : Lib.keeps d m with _ | _
    · rw [if_neg (by simp), List.append_nil]
      refine ⟨fun x => ?_, i2⟩
      rw [i1]
      constructor
      · rintro ⟨i, hi, h⟩; exact ⟨i, by omega, h⟩
      · rintro ⟨i, hi, h⟩
        by_cases him : i = m
        · subst him
          have hm : i ≠ 0 ∧ d[i]! = d[i - 1]! := by simpa [Lib.keeps] using hk
          exact ⟨i - 1, by omega, by rw [← hm.2]; exact h⟩
        · exact ⟨i, by omega, h⟩
    · rw [if_pos rfl]
      refine ⟨fun x => ?_, ?_⟩
      · rw [List.mem_append, i1, List.mem_singleton]
        constructor
        · rintro (⟨i, hi, h⟩ | rfl)
          · exact ⟨i, by omega, h⟩
          · exact ⟨m, by omega, rfl⟩
        · rintro ⟨i, hi, h⟩
          by_cases him : i = m
          · subst him; exact .inr h.symm
          · exact .inl ⟨i, by omega, h⟩
      · refine List.pairwise_append.2 ⟨i2, by simp, fun x hx y hy => ?_⟩
        obtain rfl := List.mem_singleton.1 hy
        obtain ⟨i, hi, rfl⟩ := (i1 x).1 hx
        have hm : m = 0 ∨ d[m]! ≠ d[m - 1]! := by simpa [Lib.keeps] using hk
        have h1 := hs i (m - 1) (by omega) (by omega)
        have h2 := hs (m - 1) m (by omega) (by omega)
        rcases List.le_iff_lt_or_eq.1 h2 with q | q
        · exact List.lt_of_le_of_lt h1 q
        · rcases hm with hm | hm
          · omega
          · exact absurd q.symm hm
end
theorem sortS_mem (xs : List ByteArray) (l : List UInt8) : l ∈ sortS xs ↔ mkS l ∈ xs := by
  unfold sortS
  rw [List.mem_mergeSort, List.mem_map]
  constructor
  · rintro ⟨s, hs, rfl⟩; rwa [mkS_toList]
  · intro h; exact ⟨_, h, rfl⟩
theorem compact_props (xs : List ByteArray) : (∀ l, l ∈ Lib.compact (sortS xs) ↔ mkS l ∈ xs) ∧ (Lib.compact (sortS xs)).Pairwise (· < ·) := by
  have hp : (sortS xs).Pairwise (· ≤ ·) := by
    have := List.pairwise_mergeSort (le := fun x y : List UInt8 => decide (x ≤ y)) (fun a b c h1 h2 => by simp only [decide_eq_true_eq] at *; exact List.le_trans h1 h2) (fun a b => by simp only [Bool.or_eq_true, decide_eq_true_eq]; exact List.le_total a b) (xs.map (·.data.toList))
    exact this.imp fun h => by simpa using h
  have hs : ∀ i j, i ≤ j → j < (sortS xs).length → (sortS xs).toArray[i]! ≤ (sortS xs).toArray[j]! := fun i j hij hj => by
    rw [getElem!_pos _ i (by simp; omega), getElem!_pos _ j (by simpa using hj)]
    simp only [List.getElem_toArray]
    rcases Nat.lt_or_ge i j with h | h
    · exact List.pairwise_iff_getElem.1 hp i j (by omega) hj h
    · obtain rfl : i = j := by omega
      exact List.le_refl _
  obtain ⟨h1, h2⟩ := upTo_mem _ hs
  refine ⟨fun l => ?_, h2⟩
  unfold Lib.compact
  rw [h1, ← sortS_mem, List.mem_iff_getElem]
  constructor
  · rintro ⟨i, hi, rfl⟩; exact ⟨i, hi, by rw [getElem!_pos _ i (by simpa using hi)]; simp⟩
  · rintro ⟨i, hi, rfl⟩; exact ⟨i, hi, by rw [getElem!_pos _ i (by simpa using hi)]; simp⟩
theorem colsL_mem (xs : List ByteArray) (s : ByteArray) : s ∈ colsL xs ↔ s ∈ xs := by
  unfold colsL
  rw [List.mem_map]
  constructor
  · rintro ⟨l, hl, rfl⟩; exact ((compact_props xs).1 l).1 hl
  · intro h; exact ⟨s.data.toList, ((compact_props xs).1 _).2 (by rwa [mkS_toList]), mkS_toList s⟩
theorem colsL_nodup (xs : List ByteArray) : (colsL xs).Nodup := by
  unfold colsL
  refine List.pairwise_map.2 ((compact_props xs).2.imp fun {a b} h q => ?_)
  obtain rfl := mkS_inj q
  exact List.lt_irrefl a h
/-- they rise -/
theorem colsL_rise (xs : List ByteArray) (i : Nat) (h : i + 1 < (colsL xs).length) : Lib.compareBytes ((colsL xs)[i]).data.toList ((colsL xs)[i + 1]).data.toList = -1 := by
  have hl : i + 1 < (Lib.compact (sortS xs)).length := by simpa [colsL] using h
  have := List.pairwise_iff_getElem.1 (compact_props xs).2 i (i + 1) (by omega) hl (by omega)
  have e1 : (colsL xs)[i] = mkS (Lib.compact (sortS xs))[i] := by simp [colsL]
  have e2 : (colsL xs)[i + 1] = mkS (Lib.compact (sortS xs))[i + 1] := by simp [colsL]
  rw [e1, e2]
  exact bytes_lt _ _ this
/-- the names of a list, each once, in the order of their first place -/
def onceL : List ByteArray → List ByteArray → List ByteArray
  | D, [] => D
  | D, s :: r => onceL (if s ∈ D then D else D ++ [s]) r
theorem onceL_snoc (D r : List ByteArray) (s : ByteArray) : onceL D (r ++ [s]) = if s ∈ onceL D r then onceL D r else onceL D r ++ [s] := by
  induction r generalizing D with
  | nil => rfl
  | cons a r ih => exact ih _
theorem onceL_mem (D r : List ByteArray) (s : ByteArray) : s ∈ onceL D r ↔ s ∈ D ∨ s ∈ r := by
  induction r generalizing D with
  | nil => simp [onceL]
  | cons a r ih =>
    unfold onceL
    rw [ih, List.mem_cons]
    by_cases h : a ∈ D
    · rw [if_pos h]
      constructor
      · rintro (q | q) <;> simp [q]
      · rintro (q | rfl | q)
        · exact .inl q
        · exact .inl h
        · exact .inr q
    · rw [if_neg h, List.mem_append, List.mem_singleton]
      constructor
      · rintro ((q | q) | q) <;> simp [q]
      · rintro (q | q | q) <;> simp [q]
theorem onceL_nodup (D r : List ByteArray) (h : D.Nodup) : (onceL D r).Nodup := by
  induction r generalizing D with
  | nil => exact h
  | cons a r ih =>
    unfold onceL
    refine ih _ ?_
    by_cases q : a ∈ D
    · rwa [if_pos q]
    · rw [if_neg q]
      exact List.pairwise_append.2 ⟨h, by simp, fun x hx y hy => by obtain rfl := List.mem_singleton.1 hy; exact fun e => q (e ▸ hx)⟩
theorem once_len (xs : List ByteArray) : (onceL [] xs).length = (colsL xs).length := by
  have h1 := onceL_nodup [] xs .nil
  have h2 := colsL_nodup xs
  have a : onceL [] xs ⊆ colsL xs := fun s hs => (colsL_mem xs s).2 (by simpa using (onceL_mem [] xs s).1 hs)
  have b : colsL xs ⊆ onceL [] xs := fun s hs => (onceL_mem [] xs s).2 (.inr ((colsL_mem xs s).1 hs))
  have := h1.length_le_of_subset a
  have := h2.length_le_of_subset b
  omega
/-- the names of a list's nodes that are columns -/
def colN (l : List PL) : List ByteArray := (l.filter fun p => decide (p.nd.kind = 1)).map fun p => p.nd.name
theorem names_flat : ∀ (n : Nat) (e : TX n), namesX n e = ((flatX n e).filter fun d => decide (d.kind = 1)).map ND.name
  | 0, e => e.elim
  | n + 1, e => by
    obtain ⟨nd, args⟩ := e
    show (if nd.kind = 1 then [nd.name] else []) ++ args.flatMap (namesX n) = ((nd :: args.flatMap (flatX n)).filter _).map _
    have : ∀ r : List (TX n), r.flatMap (namesX n) = ((r.flatMap (flatX n)).filter fun d => decide (d.kind = 1)).map ND.name := fun r => by
      induction r with
      | nil => rfl
      | cons a r ih => rw [List.flatMap_cons, List.flatMap_cons, List.filter_append, List.map_append, ih, names_flat n a]
    rw [this args, List.filter_cons]
    by_cases hk : nd.kind = 1
    · simp [hk]
    · simp [hk]
theorem names_build (m : Nat) (l : List PL) (h : l ≠ []) : namesX (m + 1) (buildX m l).1 = colN (l.take (buildX m l).2) := by
  rw [names_flat, build_flat m l h, colN, List.filter_map, List.map_map]; rfl
theorem colN_snoc (l : List PL) (k : Nat) (h : k < l.length) : colN (l.take (k + 1)) = colN (l.take k) ++ if l[k].nd.kind = 1 then [l[k].nd.name] else [] := by
  unfold colN
  rw [List.take_succ_eq_append_getElem h, List.filter_append, List.map_append]
  congr 1
  by_cases hk : l[k].nd.kind = 1 <;> simp [hk]
theorem colN_mem (l : List PL) (k : Nat) (h : k < l.length) (hk : l[k].nd.kind = 1) : l[k].nd.name ∈ colN l := by
  unfold colN
  exact List.mem_map.2 ⟨l[k], List.mem_filter.2 ⟨List.getElem_mem h, by simpa using hk⟩, rfl⟩
end Go.Proofs.Ytlkckkagoommaaa

/- bywashref04.In: is a text one of some? For every text and row of texts. -/
namespace Go.Proofs.Ytlkckkagoommaaa
open Go.RowKit

def tsE (s : ByteArray) : List Value := [.string s]
theorem tsE_length (s : ByteArray) : (tsE s).length = 1 := rfl
def TsAt (w : World) (A : Option Addr) (l : List ByteArray) : Prop := RdK tsE w A l
theorem TsAt.touch0 {w w' : World} {A : Option Addr} {l : List ByteArray} (h : TsAt w A l) (ht : Touch [] w w') : TsAt w' A l := RdK.touch0 h ht
theorem TsAt.at_ {w : World} {A : Option Addr} {l : List ByteArray} (h : TsAt w A l) (i : Nat) (hi : i < l.length) :
    ∃ ad, A = some ad ∧ w.cell? (ad.add i) = some (.string l[i]) := by
  obtain ⟨ad, b, off, h1, h2, _, h3⟩ := RdK.at_ h 1 tsE_length (by omega) i hi
  refine ⟨ad, h1, ?_⟩
  rw [Nat.mul_one] at h2
  rw [h2]
  exact h3 0 _ rfl
/-- is it one of these? -/
def inL (s : ByteArray) (l : List ByteArray) : Bool := l.any fun x => decide (x = s)

set_option maxRecDepth 20000 in
set_option maxHeartbeats 800000 in
theorem in4_any (s : ByteArray) (A : Option Addr) (cap n : Nat) (l : List ByteArray) (hn : l.length = n) (w : World) (h : TsAt w A l) (hl : n ≤ 140737000000000) :
    Calls Try.prog 60 #[.string s, .slice A n cap] w fun e w' => e = .returned (.bool (inL s l)) ∧ w' = w := by
  subst hn
  go_enter Try.func60, Try.ntmps60
  go_wp2
  go_loop [5] (fun i => ∃ k : Nat, k ≤ l.length ∧ i = .int .i64 k ∧ Hid (inL s (l.take k) = false)) (fun i => l.length - (intOf i).toNat)
  case atStart => exact ⟨0, by omega, rfl, Lib.hid rfl⟩
  case round =>
    obtain ⟨k, hk, rfl, Hall⟩ := hrel
    by_cases hlt : k < l.length
    · obtain ⟨ad, rfl, hc⟩ := h.at_ k hlt
      have hsn : inL s (l.take (k + 1)) = decide (l[k] = s) := by
        have := Hall.out
        unfold inL at this ⊢
        rw [List.take_succ_eq_append_getElem hlt, List.any_append, this]; simp
      have hye : l[k] = s → inL s l = true := fun e => by
        unfold inL
        rw [List.any_eq_true]
        exact ⟨_, List.getElem_mem hlt, by simp [e]⟩
      obtain ⟨t, ht⟩ : ∃ t, t = l[k] := ⟨_, rfl⟩
      rw [← ht] at hc hsn hye
      have hkI : (k : Int) < (l.length : Int) := by omega
      have hbq := bs_beq t s
      have Hsn := Lib.hid hsn; have Hye := Lib.hid hye
      clear hsn hye ht Hall
      by_cases he : t = s
      · rw [decide_eq_true he] at hbq
        subst he
        have Hf := Lib.hid (Hye.out rfl)
        clear Hsn Hye
        go_wp2
        go_ret
        exact ⟨ret_bool Hf.out.symm, rfl⟩
      · have Hf := Lib.hid (Hsn.out.trans (decide_eq_false he))
        rw [decide_eq_false he] at hbq
        clear Hsn Hye
        go_wp2
        go_round
        case rel => exact ⟨k + 1, by omega, by go_num, Hf⟩
        case measure => simp [intOf]; omega
    · obtain rfl : k = l.length := by omega
      have Hf := Lib.hid (show inL s l = false by have := Hall.out; rwa [List.take_length] at this)
      clear Hall
      go_wp2
      go_ret
      exact ⟨ret_bool Hf.out.symm, rfl⟩
end Go.Proofs.Ytlkckkagoommaaa

/- bywashref01.Right: is a value right, as the document's answer has it? For every value. -/
namespace Go.Proofs.Ytlkckkagoommaaa
open Go.RowKit

theorem empty_size (s : ByteArray) : s.toList.isEmpty = decide (s.size = 0) := by
  rw [toList_B, Bool.eq_iff_iff, List.isEmpty_iff, decide_eq_true_eq, ← size_toList, List.length_eq_zero_iff]

set_option maxRecDepth 20000 in
set_option maxHeartbeats 1600000 in
theorem refRight_any (v : VD) (hs : v.text.size ≤ 140737000000000) (w : World) :
    Calls Try.prog 76 #[v.val] w fun e w' => e = .returned (.bool v.right) ∧ Touch [] w w' := by
  obtain ⟨kd, num, text⟩ := v
  obtain ⟨t, rfl⟩ : ∃ t, text = S t := ⟨_, (S_of _).symm⟩
  have hsz := S_size t
  simp only at hs
  rw [hsz] at hs
  have t0 := (Touch.refl [] w).alloc (.cells #[.int .i64 kd, .int .i64 num, .string (S t)] 58)
  have he := empty_size (S t)
  rw [hsz] at he
  have hr : VD.right ⟨kd, num, S t⟩ = (if kd = 0 then decide (num = 0) && decide (t.length = 0) else if kd = 1 then decide (t.length = 0) else if kd = 2 then decide (num = 0) && plainV t else false) := by
    unfold VD.right
    simp only [he]
    rw [S_toList]
  have Hr := Lib.hid hr
  clear hr he
  have hbad : ∀ (b : Bool), VD.right ⟨kd, num, S t⟩ = b → ∀ w', Touch [] w w' → (Ending.returned (.bool b) = Ending.returned (.bool (VD.right ⟨kd, num, S t⟩)) ∧ Touch [] w w') := fun b hb w' ht => ⟨by rw [hb], ht⟩
  have Hb := Lib.hid hbad; clear hbad
  dsimp only [VD.val] at *
  by_cases hk : kd < 0 ∨ 2 < kd
  · have Hf := Lib.hid (Hb.out false (by rw [Hr.out, if_neg (by omega), if_neg (by omega), if_neg (by omega)]) _ t0)
    rcases hk with hk | hk
    · go_enter Try.func76, Try.ntmps76
      go_wp2
      go_ret
      exact Hf.out
    · go_enter Try.func76, Try.ntmps76
      go_wp2
      go_ret
      exact Hf.out
  by_cases hk1 : kd ≠ 1 ∧ num ≠ 0
  · have Hf := Lib.hid (Hb.out false (by
      rw [Hr.out]
      have := hk1.2
      split
      · simp [this]
      · rw [if_neg hk1.1]; split <;> simp [this]) _ t0)
    have q1 : (kd == 1) = false := by rw [beq_eq_false_iff_ne]; exact hk1.1
    have q1' : (kd != 1) = true := by rw [bne, q1]; rfl
    have q2 : (num == 0) = false := by rw [beq_eq_false_iff_ne]; exact hk1.2
    have q2' : (num != 0) = true := by rw [bne, q2]; rfl
    clear hk1
    go_enter Try.func76, Try.ntmps76
    go_wp2
    go_ret
    exact Hf.out
  by_cases hk2 : kd ≠ 2 ∧ 0 < t.length
  · have Hf := Lib.hid (Hb.out false (by
      rw [Hr.out]
      have h0 : decide (t.length = 0) = false := decide_eq_false (by omega)
      rw [h0, if_neg hk2.1]
      split
      · simp
      · split <;> rfl) _ t0)
    have q1 : (kd == 2) = false := by rw [beq_eq_false_iff_ne]; exact hk2.1
    have q1' : (kd != 2) = true := by rw [bne, q1]; rfl
    obtain ⟨_, q3⟩ := hk2
    rcases (show kd = 1 ∨ (kd ≠ 1 ∧ num = 0) by omega) with h1 | ⟨h1, h2⟩
    · subst h1
      clear hk1
      go_enter Try.func76, Try.ntmps76
      go_wp2
      go_ret
      exact Hf.out
    · subst h2
      have q4 : (kd == 1) = false := by rw [beq_eq_false_iff_ne]; exact h1
      have q4' : (kd != 1) = true := by rw [bne, q4]; rfl
      clear hk1 h1
      go_enter Try.func76, Try.ntmps76
      go_wp2
      go_ret
      exact Hf.out
  have hmain : (kd = 2 ∧ num = 0) ∨ (kd = 1 ∧ t = []) ∨ (kd = 0 ∧ num = 0 ∧ t = []) := by
    have hz : 0 < t.length ∨ t = [] := by cases t; exact .inr rfl; exact .inl (by simp)
    rcases hz with hz | hz
    · left; constructor <;> omega
    · rcases (show kd = 0 ∨ kd = 1 ∨ kd = 2 by omega) with e | e | e
      · exact .inr (.inr ⟨e, by omega, hz⟩)
      · exact .inr (.inl ⟨e, hz⟩)
      · left; constructor <;> omega
  clear hk hk1 hk2
  rcases hmain with ⟨rfl, rfl⟩ | ⟨rfl, rfl⟩ | ⟨rfl, rfl, rfl⟩
  · by_cases h64 : 64 < t.length
    · have Hf := Lib.hid (Hb.out false (by rw [Hr.out]; simp [plainV]; omega) _ t0)
      go_enter Try.func76, Try.ntmps76
      go_wp2
      go_ret
      exact Hf.out
    go_enter Try.func76, Try.ntmps76
    go_wp2
    go_loop [3] (fun i => ∃ k : Nat, k ≤ t.length ∧ i = .int .i64 k ∧ Hid ((t.take k).all okB = true)) (fun i => t.length - (intOf i).toNat)
    case atStart => exact ⟨0, by omega, rfl, Lib.hid rfl⟩
    case round =>
      obtain ⟨k, hk, rfl, hall⟩ := hrel
      by_cases hlt : k < t.length
      · have hno := all_no (p := okB) hlt
        have hyes := all_snoc (p := okB) hlt hall.out
        have hg := S_get t k (by rw [hsz]; exact hlt)
        obtain ⟨x, hx⟩ : ∃ x, x = t[k] := ⟨_, rfl⟩
        rw [← hx] at hno hyes hg
        have Hno := Lib.hid hno; have Hyes := Lib.hid hyes
        have hxl := x.toNat_lt
        have hkI : (k : Int) < t.length := by omega
        clear hno hyes hx hall
        by_cases h1 : x.toNat < 32
        · have Hf := Lib.hid (Hb.out false (by rw [Hr.out]; simp only [if_neg (show ¬ (2 : Int) = 0 by omega), if_neg (show ¬ (2 : Int) = 1 by omega), if_true, plainV]; rw [Hno.out (by simp [okB]; omega)]; rfl) _ t0)
          go_wp2
          go_ret
          exact Hf.out
        by_cases h2 : 126 < x.toNat
        · have Hf := Lib.hid (Hb.out false (by rw [Hr.out]; simp only [if_neg (show ¬ (2 : Int) = 0 by omega), if_neg (show ¬ (2 : Int) = 1 by omega), if_true, plainV]; rw [Hno.out (by simp [okB]; omega)]; rfl) _ t0)
          go_wp2
          go_ret
          exact Hf.out
        · have Ha := Lib.hid (Hyes.out (by simp [okB]; omega))
          go_wp2
          go_round
          case rel => exact ⟨k + 1, by omega, by go_num, Ha⟩
          case measure => simp [intOf]; omega
      · obtain rfl : k = t.length := by omega
        have h := hall.out
        rw [List.take_length] at h
        have Hf := Lib.hid (Hb.out true (by rw [Hr.out]; simp only [if_neg (show ¬ (2 : Int) = 0 by omega), if_neg (show ¬ (2 : Int) = 1 by omega), if_true, plainV]; rw [h]; simp; omega) _ t0)
        clear hall h
        go_wp2
        go_ret
        exact Hf.out
  · have Hf := Lib.hid (Hb.out true (by rw [Hr.out]; rfl) _ t0)
    go_enter Try.func76, Try.ntmps76
    go_wp2
    refine wp_loop_rounds 1 ?_
    rw [rounds_succ]
    go_wp2
    go_ret
    exact Hf.out
  · have Hf := Lib.hid (Hb.out true (by rw [Hr.out]; rfl) _ t0)
    go_enter Try.func76, Try.ntmps76
    go_wp2
    refine wp_loop_rounds 1 ?_
    rw [rounds_succ]
    go_wp2
    go_ret
    exact Hf.out

end Go.Proofs.Ytlkckkagoommaaa
