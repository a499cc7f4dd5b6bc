/- expr.Expr.Type, expr.Expr.Eval. For every expression, schema and row. -/
import Derived.Test.YtlkckkagoommaaaEvalX
import Derived.Test.YtlkckkagoommaaaFits
namespace Go.Proofs.Ytlkckkagoommaaa
open Go.RowKit
attribute [local go_sem ↓] Go.wp_at_zero Go.wp_at_succ

set_option maxRecDepth 20000 in
set_option maxHeartbeats 3200000 in
theorem typeX_any (n : Nat) (e : TX n) (x : XC) (A : Option Addr) (cap m : Nat) (cs : List CD) (hm : cs.length = m) (hok : ∀ c ∈ cs, c.Ok) (w : World) (hx : ExP xcE anyB n w x e) (hcs : ColsAt w A cs) (hmb : m ≤ 140737000000000)
    (hs : sizeX n e ≤ 1000000) (hall : allX (fun q => q.v.text.size ≤ 140737000000000) n e) :
    Calls Try.prog 25 #[x.val, .slice A m cap] w fun r w' => r = .returned (.tuple #[.int .i64 (typeX cs n e).1, .int .i64 (typeX cs n e).2]) ∧ Touch [] w w' := by
  have Hchk := Lib.hid fun w' (t : Touch [] w w') => check_any A cap m cs hm hok w' (hcs.touch0 t) (by omega)
  have Hsz := Lib.hid fun w' (t : Touch [] w w') => sizeX_any n e x w' (hx.touch0 t) hs
  have Hty := Lib.hid fun w' (t : Touch [] w w') => typed_any n e x A cap m cs hm 1 w' (hx.touch0 t) (hcs.touch0 t) hmb hs hall (by omega)
  obtain ⟨res, hres⟩ : ∃ res, res = typeX cs n e := ⟨_, rfl⟩
  rw [← hres]
  unfold typeX at hres
  obtain ⟨⟨k, nm, ⟨vk, vn, vt⟩, op⟩, XA, xm, c⟩ := x
  simp only [XC.val] at Hchk Hsz Hty ⊢
  clear hx hall hs
  have t0 := (Touch.refl [] w).alloc (.cells #[.int .i64 k, .string nm, .int .i64 vk, .int .i64 vn, .string vt, .string op, .slice XA xm c] 33)
  have hb := heap_alloc_new w (.cells #[.int .i64 k, .string nm, .int .i64 vk, .int .i64 vn, .string vt, .string op, .slice XA xm c] 33)
  have Hb := Lib.hid hb
  clear hb
  obtain ⟨cv, hcv⟩ : ∃ r, r = checkV cs := ⟨_, rfl⟩
  rw [← hcv] at Hchk hres
  clear hcv
  by_cases h0 : cv = 0
  rotate_left
  · rw [if_neg h0] at hres
    have Hf := Lib.hid hres
    have q0 : (cv != 0) = true := by simpa using h0
    clear h0 hres
    go_enter Try.func25, Try.ntmps25
    go_wp2_with fail
    refine (Hchk.out _ t0).mono ?_
    rintro e w1 ⟨rfl, t1⟩
    go_wp2_with fail
    go_ret2
    exact ⟨by rw [Hf.out]; rfl, t0.trans0 t1⟩
  subst h0
  rw [if_pos rfl] at hres
  obtain ⟨sz, hsz⟩ : ∃ r, r = sizeX n e := ⟨_, rfl⟩
  rw [← hsz] at Hsz hres
  clear hsz
  by_cases h1 : 256 < sz
  · rw [if_pos h1] at hres
    have Hf := Lib.hid hres
    have q1 : (256 : Int) < (sz : Int) := by omega
    clear h1 hres
    go_enter Try.func25, Try.ntmps25
    go_wp2_with fail
    refine (Hchk.out _ t0).mono ?_
    rintro e w1 ⟨rfl, t1⟩
    obtain ⟨c0, c1, c2, c3, c4, c5, c6, _⟩ := blk7 (t1.blk Hb.out (by simp))
    go_wp2_with fail
    refine (Hsz.out _ (t0.trans0 t1)).mono ?_
    rintro e w2 ⟨rfl, t2⟩
    go_wp2_with fail
    go_ret2
    exact ⟨by rw [Hf.out]; rfl, (t0.trans0 t1).trans0 t2⟩
  · rw [if_neg h1] at hres
    have Hf := Lib.hid hres
    have q1 : ¬ (256 : Int) < (sz : Int) := by omega
    clear h1 hres
    go_enter Try.func25, Try.ntmps25
    go_wp2_with fail
    refine (Hchk.out _ t0).mono ?_
    rintro e w1 ⟨rfl, t1⟩
    obtain ⟨c0, c1, c2, c3, c4, c5, c6, _⟩ := blk7 (t1.blk Hb.out (by simp))
    go_wp2_with fail
    refine (Hsz.out _ (t0.trans0 t1)).mono ?_
    rintro e w2 ⟨rfl, t2⟩
    obtain ⟨c0, c1, c2, c3, c4, c5, c6, _⟩ := blk7 (t2.blk (t1.blk Hb.out (by simp)) (by simp))
    go_wp2_with fail
    refine (Hty.out _ ((t0.trans0 t1).trans0 t2)).mono ?_
    rintro e w3 ⟨rfl, t3⟩
    go_wp2_with fail
    go_ret2
    exact ⟨by rw [Hf.out]; rfl, ((t0.trans0 t1).trans0 t2).trans0 t3⟩

/-- as the program reckons from any row -/
def topX (cs : List CD) (row : List VD) (n : Nat) (e : TX n) : VD × Int :=
  if (typeX cs n e).2 ≠ 0 then (zeroV, (typeX cs n e).2) else if fitR cs row = true then evalX cs row n e else (zeroV, 12)
theorem typeX_ok {cs : List CD} {n : Nat} {e : TX n} (h : (typeX cs n e).2 = 0) : checkV cs = 0 ∧ sizeX n e ≤ 256 ∧ (typedX cs n 1 e).2 = 0 ∧ typeX cs n e = typedX cs n 1 e := by
  unfold typeX at h ⊢
  by_cases h0 : checkV cs = 0
  · rw [if_pos h0] at h ⊢
    by_cases h1 : 256 < sizeX n e
    · rw [if_pos h1] at h; cases h
    · rw [if_neg h1] at h ⊢; exact ⟨h0, by omega, h, rfl⟩
  · rw [if_neg h0] at h; exact absurd h h0
theorem fitR_len {cs : List CD} {row : List VD} (h : fitR cs row = true) : row.length = cs.length := by
  unfold fitR at h
  rw [Bool.and_eq_true] at h
  exact of_decide_eq_true h.1

set_option maxRecDepth 20000 in
set_option maxHeartbeats 3200000 in
theorem topX_any (n : Nat) (e : TX n) (x : XC) (A : Option Addr) (cap m : Nat) (cs : List CD) (hm : cs.length = m) (hok : ∀ c ∈ cs, c.Ok) (B : Option Addr) (rc rm : Nat) (row : List VD) (hrm : row.length = rm) (hvk : ∀ v ∈ row, v.Ok 140737000000000)
    (w : World) (hx : ExP xcE anyB n w x e) (hcs : ColsAt w A cs) (hrow : ValsAt w B row) (hmb : m ≤ 140737000000000) (hrb : rm ≤ 140737000000000) (hs : sizeX n e ≤ 1000000) (hall : allX (fun q => q.v.text.size ≤ 140737000000000) n e) :
    Calls Try.prog 13 #[x.val, .slice A m cap, .slice B rm rc] w fun r w' => r = .returned (.tuple #[(topX cs row n e).1.val, .int .i64 (topX cs row n e).2]) ∧ Touch [] w w' := by
  have Hty := Lib.hid fun w' (t : Touch [] w w') => typeX_any n e x A cap m cs hm hok w' (hx.touch0 t) (hcs.touch0 t) hmb hs hall
  have Hfit := Lib.hid fun w' (t : Touch [] w w') => fits_any A cap m cs hm hok B rc rm row hrm hvk w' (hcs.touch0 t) (hrow.touch0 t) hmb hrb
  have Hev := Lib.hid fun w' (t : Touch [] w w') h1 h2 => eval_any n e x A cap m cs hm B rc rm row hrm w' (hx.touch0 t) (hcs.touch0 t) (hrow.touch0 t) hmb h1 h2 (fun v hv => (hvk v hv).t) hall
  obtain ⟨res, hres⟩ : ∃ res, res = topX cs row n e := ⟨_, rfl⟩
  rw [← hres]
  unfold topX at hres
  obtain ⟨⟨k, nm, ⟨vk, vn, vt⟩, op⟩, XA, xm, c⟩ := x
  simp only [XC.val] at Hty Hfit Hev ⊢
  clear hx hall hs
  have t0 := ((Touch.refl [] w).alloc (.cells #[.int .i64 k, .string nm, .int .i64 vk, .int .i64 vn, .string vt, .string op, .slice XA xm c] 33)).alloc (.cells #[.int .i64 0, .int .i64 0, .string ⟨#[]⟩] 30)
  have hb1 := ((Touch.refl [] (w.alloc (.cells #[.int .i64 k, .string nm, .int .i64 vk, .int .i64 vn, .string vt, .string op, .slice XA xm c] 33))).alloc (.cells #[.int .i64 0, .int .i64 0, .string ⟨#[]⟩] 30)).blk (heap_alloc_new w (.cells #[.int .i64 k, .string nm, .int .i64 vk, .int .i64 vn, .string vt, .string op, .slice XA xm c] 33)) (by simp)
  have hbr := heap_alloc_new (w.alloc (.cells #[.int .i64 k, .string nm, .int .i64 vk, .int .i64 vn, .string vt, .string op, .slice XA xm c] 33)) (.cells #[.int .i64 0, .int .i64 0, .string ⟨#[]⟩] 30)
  simp only [World.size_alloc] at hbr
  obtain ⟨W, hW⟩ : ∃ W, W = (w.alloc (.cells #[.int .i64 k, .string nm, .int .i64 vk, .int .i64 vn, .string vt, .string op, .slice XA xm c] 33)).alloc (.cells #[.int .i64 0, .int .i64 0, .string ⟨#[]⟩] 30) := ⟨_, rfl⟩
  rw [← hW] at hb1 hbr t0
  have HW := Lib.hid hW; have Hb1 := Lib.hid hb1; have Hbr := Lib.hid hbr; have T0 := Lib.hid t0
  have Ho := Lib.hid fun h : (typeX cs n e).2 = 0 => typeX_ok h
  clear hW hb1 hbr t0 hcs hrow
  obtain ⟨⟨ty, er⟩, hte⟩ : ∃ r, r = typeX cs n e := ⟨_, rfl⟩
  rw [← hte] at Hty hres Ho
  simp only at Hty hres Ho
  clear hte
  by_cases h0 : er ≠ 0
  · rw [if_pos h0] at hres
    have Hf := Lib.hid hres
    have q0 : (er != 0) = true := by simpa using h0
    clear h0 hres Ho Hev Hfit
    go_enter Try.func13, Try.ntmps13
    go_wp2_with fail
    rw [← HW.out]
    obtain ⟨a0, a1, a2, a3, a4, a5, a6, _⟩ := blk7 Hb1.out
    go_wp2_with fail
    clear a0 a1 a2 a3 a4 a5 a6
    refine (Hty.out _ T0.out).mono ?_
    rintro e w1 ⟨rfl, u1⟩
    obtain ⟨r0, r1, r2, f0, f1, f2⟩ := blk3 (u1.blk Hbr.out (by simp))
    go_wp2_with fail
    obtain ⟨q1, q2⟩ := out3 (u1.blk Hbr.out (by simp)) (.int .i64 0) (.int .i64 0) (.string ⟨#[]⟩)
    obtain ⟨d0, d1, d2, _⟩ := blk3 q1
    refine bodyPost_ret (v := .tuple #[.agg #[.int .i64 0, .int .i64 0, .string ⟨#[]⟩], .int .i64 er]) (by simp [results, Try.results13, go_sem, d0, d1, d2]) rfl ⟨?_, (T0.out.trans0 u1).trans q2 (fun b hb => .inr (by simp at hb; omega))⟩
    rw [Hf.out]; rfl
  have h0' : er = 0 := by omega
  rw [if_neg h0] at hres
  subst h0'
  obtain ⟨o1, o2, o3, _⟩ := Ho.out rfl
  clear h0 Ho
  rw [o1] at Hfit
  have o4 := okX_of cs n 1 e o3
  rcases hfr : fitR cs row with _ | _
  · rw [hfr, if_neg (by simp)] at hres
    rw [hfr] at Hfit
    have Hf := Lib.hid hres
    clear hres hfr Hev o1 o2 o3 o4
    simp only [decide_true, Bool.and_false] at Hfit
    go_enter Try.func13, Try.ntmps13
    go_wp2_with fail
    rw [← HW.out]
    obtain ⟨a0, a1, a2, a3, a4, a5, a6, _⟩ := blk7 Hb1.out
    go_wp2_with fail
    clear a0 a1 a2 a3 a4 a5 a6
    refine (Hty.out _ T0.out).mono ?_
    rintro e w1 ⟨rfl, u1⟩
    go_wp2_with fail
    refine (Hfit.out _ (T0.out.trans0 u1)).mono ?_
    rintro e w2 ⟨rfl, u2⟩
    obtain ⟨r0, r1, r2, f0, f1, f2⟩ := blk3 (u2.blk (u1.blk Hbr.out (by simp)) (by simp))
    go_wp2_with fail
    obtain ⟨q1, q2⟩ := out3 (u2.blk (u1.blk Hbr.out (by simp)) (by simp)) (.int .i64 0) (.int .i64 0) (.string ⟨#[]⟩)
    obtain ⟨d0, d1, d2, _⟩ := blk3 q1
    refine bodyPost_ret (v := .tuple #[.agg #[.int .i64 0, .int .i64 0, .string ⟨#[]⟩], .int .i64 12]) (by simp [results, Try.results13, go_sem, d0, d1, d2]) rfl ⟨?_, ((T0.out.trans0 u1).trans0 u2).trans q2 (fun b hb => .inr (by simp at hb; omega))⟩
    rw [Hf.out]; rfl
  · rw [hfr, if_pos rfl] at hres
    rw [hfr] at Hfit
    have hev := fun w' t => Hev.out w' t (fitR_len hfr) o4
    rw [← hres] at hev
    obtain ⟨⟨rk, rn, rs⟩, rx⟩ := res
    simp only [VD.val] at hev
    have Hev2 := Lib.hid hev
    clear hres hfr Hev o1 o2 o3 o4 hev
    simp only [decide_true, Bool.and_true] at Hfit
    go_enter Try.func13, Try.ntmps13
    go_wp2_with fail
    rw [← HW.out]
    obtain ⟨a0, a1, a2, a3, a4, a5, a6, _⟩ := blk7 Hb1.out
    go_wp2_with fail
    clear a0 a1 a2 a3 a4 a5 a6
    refine (Hty.out _ T0.out).mono ?_
    rintro e w1 ⟨rfl, u1⟩
    go_wp2_with fail
    refine (Hfit.out _ (T0.out.trans0 u1)).mono ?_
    rintro e w2 ⟨rfl, u2⟩
    obtain ⟨a0, a1, a2, a3, a4, a5, a6, _⟩ := blk7 (u2.blk (u1.blk Hb1.out (by simp)) (by simp))
    go_wp2_with fail
    clear a0 a1 a2 a3 a4 a5 a6
    refine (Hev2.out _ ((T0.out.trans0 u1).trans0 u2)).mono ?_
    rintro e w3 ⟨rfl, u3⟩
    obtain ⟨r0, r1, r2, f0, f1, f2⟩ := blk3 (u3.blk (u2.blk (u1.blk Hbr.out (by simp)) (by simp)) (by simp))
    go_wp2_with fail
    obtain ⟨q1, q2⟩ := out3 (u3.blk (u2.blk (u1.blk Hbr.out (by simp)) (by simp)) (by simp)) (.int .i64 rk) (.int .i64 rn) (.string rs)
    obtain ⟨d0, d1, d2, _⟩ := blk3 q1
    exact bodyPost_ret (v := .tuple #[.agg #[.int .i64 rk, .int .i64 rn, .string rs], .int .i64 rx]) (by simp [results, Try.results13, go_sem, d0, d1, d2]) rfl ⟨rfl, (((T0.out.trans0 u1).trans0 u2).trans0 u3).trans q2 (fun b hb => .inr (by simp at hb; omega))⟩
end Go.Proofs.Ytlkckkagoommaaa
