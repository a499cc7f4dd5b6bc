/- value.holds, value.Compare, expr.cat, expr.comparing, expr.Expr.alone. For all. -/
import Derived.Test.YtlkckkagoommaaaCmp
import Derived.Test.YtlkckkagoommaaaArith
import Derived.Test.YtlkckkagoommaaaEqX
import Derived.Test.YtlkckkagoommaaaHeld
import Derived.Test.YtlkckkagoommaaaFormX
import Derived.Deep.DrawnRows
namespace Go.Proofs.Ytlkckkagoommaaa
open Go.RowKit
attribute [local go_sem ↓] Go.wp_at_zero Go.wp_at_succ

def holdsV (o c : Int) : Bool := if o = 1 then c == 0 else if o = 2 then c != 0 else if o = 3 then decide (c < 0) else if o = 4 then decide (c ≤ 0) else if o = 5 then decide (0 < c) else decide (0 ≤ c)
def compareV (o : Int) (a b : VD) : VD := if a.kind = 0 ∨ b.kind = 0 then zeroV else bitV (holdsV o (cmpVV a b))
def catV (a b : VD) : VD × Int := if a.kind = 0 ∨ b.kind = 0 then (zeroV, 0) else if 64 < a.text.size + b.text.size then (zeroV, 10) else (⟨2, 0, a.text ++ b.text⟩, 0)
def wIsnull : ByteArray := S [105, 115, 110, 117, 108, 108]
def wLen : ByteArray := S [108, 101, 110]
def wAbs : ByteArray := S [97, 98, 115]
def wNot : ByteArray := S [110, 111, 116]
def aloneV (d : ND) (v : VD) : VD × Int :=
  if d.op = wNot then (bitV (!v.tru), 0)
  else if d.name = wIsnull then (bitV (decide (v.kind = 0)), 0)
  else if v.kind = 0 then (v, 0)
  else if d.name = wLen then (ofV v.text.size, 0)
  else if d.name = wAbs ∧ 0 ≤ v.num then (v, 0)
  else arithV 45 (ofV 0) v

set_option maxRecDepth 20000 in
theorem holds_any (o c : Int) (w : World) : Calls Try.prog 72 #[.int .i64 o, .int .i64 c] w fun e w' => e = .returned (.bool (holdsV o c)) ∧ w' = w := by
  by_cases h1 : o = 1
  · subst h1
    go_enter Try.func72, Try.ntmps72
    go_wp2_with fail
    go_ret
    exact ⟨rfl, rfl⟩
  by_cases h2 : o = 2
  · subst h2
    go_enter Try.func72, Try.ntmps72
    go_wp2_with fail
    go_ret
    exact ⟨rfl, rfl⟩
  by_cases h3 : o = 3
  · subst h3
    go_enter Try.func72, Try.ntmps72
    go_wp2_with fail
    go_ret
    exact ⟨rfl, rfl⟩
  by_cases h4 : o = 4
  · subst h4
    go_enter Try.func72, Try.ntmps72
    go_wp2_with fail
    go_ret
    exact ⟨rfl, rfl⟩
  by_cases h5 : o = 5
  · subst h5
    go_enter Try.func72, Try.ntmps72
    go_wp2_with fail
    go_ret
    exact ⟨rfl, rfl⟩
  · have q1 : (o == 1) = false := by simpa using h1
    have q2 : (o == 2) = false := by simpa using h2
    have q3 : (o == 3) = false := by simpa using h3
    have q4 : (o == 4) = false := by simpa using h4
    have q5 : (o == 5) = false := by simpa using h5
    have Hf := Lib.hid (show holdsV o c = decide (0 ≤ c) by unfold holdsV; rw [if_neg h1, if_neg h2, if_neg h3, if_neg h4, if_neg h5])
    clear h1 h2 h3 h4 h5
    go_enter Try.func72, Try.ntmps72
    go_wp2_with fail
    go_ret
    exact ⟨by rw [Hf.out]; rfl, rfl⟩

set_option maxRecDepth 20000 in
set_option maxHeartbeats 3200000 in
theorem compare_any (o : Int) (ho : 1 ≤ o ∧ o ≤ 6) (a b : VD) (w : World) :
    Calls Try.prog 55 #[.int .i64 o, a.val, b.val] w fun e w' => e = .returned (compareV o a b).val ∧ Touch [] w w' := by
  have hcmp := fun w' => cmpVal_any a b w'
  obtain ⟨k1, n1, s1⟩ := a
  obtain ⟨k2, n2, s2⟩ := b
  dsimp only [VD.val] at hcmp ⊢
  have t0 := (((Touch.refl [] w).alloc (.cells #[.int .i64 k1, .int .i64 n1, .string s1] 30)).alloc (.cells #[.int .i64 k2, .int .i64 n2, .string s2] 30)).alloc (.cells #[.int .i64 0, .int .i64 0, .string ⟨#[]⟩] 30)
  have hb1 := (((Touch.refl [] (w.alloc (.cells #[.int .i64 k1, .int .i64 n1, .string s1] 30))).alloc (.cells #[.int .i64 k2, .int .i64 n2, .string s2] 30)).alloc (.cells #[.int .i64 0, .int .i64 0, .string ⟨#[]⟩] 30)).blk (heap_alloc_new w (.cells #[.int .i64 k1, .int .i64 n1, .string s1] 30)) (by simp)
  have hb2 := ((Touch.refl [] ((w.alloc (.cells #[.int .i64 k1, .int .i64 n1, .string s1] 30)).alloc (.cells #[.int .i64 k2, .int .i64 n2, .string s2] 30))).alloc (.cells #[.int .i64 0, .int .i64 0, .string ⟨#[]⟩] 30)).blk (heap_alloc_new (w.alloc (.cells #[.int .i64 k1, .int .i64 n1, .string s1] 30)) (.cells #[.int .i64 k2, .int .i64 n2, .string s2] 30)) (by simp)
  have hbr := heap_alloc_new ((w.alloc (.cells #[.int .i64 k1, .int .i64 n1, .string s1] 30)).alloc (.cells #[.int .i64 k2, .int .i64 n2, .string s2] 30)) (.cells #[.int .i64 0, .int .i64 0, .string ⟨#[]⟩] 30)
  simp only [World.size_alloc] at hb2 hbr
  obtain ⟨W, hW⟩ : ∃ W, W = ((w.alloc (.cells #[.int .i64 k1, .int .i64 n1, .string s1] 30)).alloc (.cells #[.int .i64 k2, .int .i64 n2, .string s2] 30)).alloc (.cells #[.int .i64 0, .int .i64 0, .string ⟨#[]⟩] 30) := ⟨_, rfl⟩
  rw [← hW] at hb1 hb2 hbr t0
  have HW := Lib.hid hW; have Hb1 := Lib.hid hb1; have Hb2 := Lib.hid hb2; have Hbr := Lib.hid hbr; have T0 := Lib.hid t0
  have Hnull := Lib.hid fun w' => null_any w'
  have Hof := Lib.hid fun n w' => of_any n w'
  simp only [VD.val, zeroV, ofV, S] at Hnull Hof
  clear hW hb1 hb2 hbr t0
  have Hcmp := Lib.hid hcmp
  have Hh := Lib.hid fun w' => holds_any o (cmpVV ⟨k1, n1, s1⟩ ⟨k2, n2, s2⟩) w'
  clear hcmp
  obtain ⟨o1, o2⟩ := ho
  by_cases h3 : k1 = 0
  · have Hf := Lib.hid (show compareV o ⟨k1, n1, s1⟩ ⟨k2, n2, s2⟩ = zeroV by unfold compareV; rw [if_pos (.inl h3)])
    subst h3
    go_enter Try.func55, Try.ntmps55
    go_wp2_with fail
    rw [← HW.out]
    refine (Hnull.out _).mono ?_
    rintro e w1 ⟨rfl, u1⟩
    obtain ⟨a0, a1, a2, _⟩ := blk3 (u1.blk Hb1.out (by simp))
    obtain ⟨b0, b1, b2, _⟩ := blk3 (u1.blk Hb2.out (by simp))
    obtain ⟨r0, r1, r2, f0, f1, f2⟩ := blk3 (u1.blk Hbr.out (by simp))
    go_wp2_with fail
    obtain ⟨q1, q2⟩ := out3 (u1.blk Hbr.out (by simp)) (.int .i64 0) (.int .i64 0) (.string ⟨#[]⟩)
    refine bodyPost_ret (results_cell_row rfl _ _ (w.heap.size + 1 + 1) _ _ _ _ rfl q1 Try.underlying30 rfl rfl) rfl ⟨?_, (T0.out.trans0 u1).trans q2 (fun b hb => .inr (by simp at hb; omega))⟩
    rw [Hf.out]; rfl
  have q3 : (k1 == 0) = false := by simpa using h3
  by_cases h4 : k2 = 0
  · have Hf := Lib.hid (show compareV o ⟨k1, n1, s1⟩ ⟨k2, n2, s2⟩ = zeroV by unfold compareV; rw [if_pos (.inr h4)])
    subst h4
    clear h3
    go_enter Try.func55, Try.ntmps55
    go_wp2_with fail
    rw [← HW.out]
    refine (Hnull.out _).mono ?_
    rintro e w1 ⟨rfl, u1⟩
    obtain ⟨a0, a1, a2, _⟩ := blk3 (u1.blk Hb1.out (by simp))
    obtain ⟨b0, b1, b2, _⟩ := blk3 (u1.blk Hb2.out (by simp))
    obtain ⟨r0, r1, r2, f0, f1, f2⟩ := blk3 (u1.blk Hbr.out (by simp))
    go_wp2_with fail
    obtain ⟨q1, q2⟩ := out3 (u1.blk Hbr.out (by simp)) (.int .i64 0) (.int .i64 0) (.string ⟨#[]⟩)
    refine bodyPost_ret (results_cell_row rfl _ _ (w.heap.size + 1 + 1) _ _ _ _ rfl q1 Try.underlying30 rfl rfl) rfl ⟨?_, (T0.out.trans0 u1).trans q2 (fun b hb => .inr (by simp at hb; omega))⟩
    rw [Hf.out]; rfl
  have q4 : (k2 == 0) = false := by simpa using h4
  have hf : compareV o ⟨k1, n1, s1⟩ ⟨k2, n2, s2⟩ = bitV (holdsV o (cmpVV ⟨k1, n1, s1⟩ ⟨k2, n2, s2⟩)) := by unfold compareV; rw [if_neg (by rintro (h | h); exact h3 h; exact h4 h)]
  obtain ⟨hb, hhb⟩ : ∃ hb, hb = holdsV o (cmpVV ⟨k1, n1, s1⟩ ⟨k2, n2, s2⟩) := ⟨_, rfl⟩
  rw [← hhb] at Hh hf
  have Hf := Lib.hid hf
  clear h3 h4 hf hhb
  cases hb
  · go_enter Try.func55, Try.ntmps55
    go_wp2_with fail
    rw [← HW.out]
    refine (Hcmp.out _).mono ?_
    rintro e w1 ⟨rfl, u1⟩
    obtain ⟨a0, a1, a2, _⟩ := blk3 (u1.blk Hb1.out (by simp))
    obtain ⟨b0, b1, b2, _⟩ := blk3 (u1.blk Hb2.out (by simp))
    obtain ⟨r0, r1, r2, f0, f1, f2⟩ := blk3 (u1.blk Hbr.out (by simp))
    go_wp2_with fail
    clear a0 a1 a2 b0 b1 b2 r0 r1 r2 f0 f1 f2
    refine (Hh.out _).mono ?_
    rintro e w' ⟨rfl, rfl⟩
    obtain ⟨a0, a1, a2, _⟩ := blk3 (u1.blk Hb1.out (by simp))
    obtain ⟨b0, b1, b2, _⟩ := blk3 (u1.blk Hb2.out (by simp))
    obtain ⟨r0, r1, r2, f0, f1, f2⟩ := blk3 (u1.blk Hbr.out (by simp))
    go_wp2_with fail
    clear a0 a1 a2 b0 b1 b2 r0 r1 r2 f0 f1 f2
    refine (Hof.out 0 _).mono ?_
    rintro e w2 ⟨rfl, u2⟩
    obtain ⟨a0, a1, a2, _⟩ := blk3 (u2.blk (u1.blk Hb1.out (by simp)) (by simp))
    obtain ⟨b0, b1, b2, _⟩ := blk3 (u2.blk (u1.blk Hb2.out (by simp)) (by simp))
    obtain ⟨r0, r1, r2, f0, f1, f2⟩ := blk3 (u2.blk (u1.blk Hbr.out (by simp)) (by simp))
    go_wp2_with fail
    obtain ⟨q1, q2⟩ := out3 (u2.blk (u1.blk Hbr.out (by simp)) (by simp)) (.int .i64 1) (.int .i64 0) (.string ⟨#[]⟩)
    refine bodyPost_ret (results_cell_row rfl _ _ (w.heap.size + 1 + 1) _ _ _ _ rfl q1 Try.underlying30 rfl rfl) rfl ⟨?_, ((T0.out.trans0 u1).trans0 u2).trans q2 (fun b hb => .inr (by simp at hb; omega))⟩
    rw [Hf.out]; rfl
  · go_enter Try.func55, Try.ntmps55
    go_wp2_with fail
    rw [← HW.out]
    refine (Hcmp.out _).mono ?_
    rintro e w1 ⟨rfl, u1⟩
    obtain ⟨a0, a1, a2, _⟩ := blk3 (u1.blk Hb1.out (by simp))
    obtain ⟨b0, b1, b2, _⟩ := blk3 (u1.blk Hb2.out (by simp))
    obtain ⟨r0, r1, r2, f0, f1, f2⟩ := blk3 (u1.blk Hbr.out (by simp))
    go_wp2_with fail
    clear a0 a1 a2 b0 b1 b2 r0 r1 r2 f0 f1 f2
    refine (Hh.out _).mono ?_
    rintro e w' ⟨rfl, rfl⟩
    obtain ⟨a0, a1, a2, _⟩ := blk3 (u1.blk Hb1.out (by simp))
    obtain ⟨b0, b1, b2, _⟩ := blk3 (u1.blk Hb2.out (by simp))
    obtain ⟨r0, r1, r2, f0, f1, f2⟩ := blk3 (u1.blk Hbr.out (by simp))
    go_wp2_with fail
    clear a0 a1 a2 b0 b1 b2 r0 r1 r2 f0 f1 f2
    refine (Hof.out 1 _).mono ?_
    rintro e w2 ⟨rfl, u2⟩
    obtain ⟨a0, a1, a2, _⟩ := blk3 (u2.blk (u1.blk Hb1.out (by simp)) (by simp))
    obtain ⟨b0, b1, b2, _⟩ := blk3 (u2.blk (u1.blk Hb2.out (by simp)) (by simp))
    obtain ⟨r0, r1, r2, f0, f1, f2⟩ := blk3 (u2.blk (u1.blk Hbr.out (by simp)) (by simp))
    go_wp2_with fail
    obtain ⟨q1, q2⟩ := out3 (u2.blk (u1.blk Hbr.out (by simp)) (by simp)) (.int .i64 1) (.int .i64 1) (.string ⟨#[]⟩)
    refine bodyPost_ret (results_cell_row rfl _ _ (w.heap.size + 1 + 1) _ _ _ _ rfl q1 Try.underlying30 rfl rfl) rfl ⟨?_, ((T0.out.trans0 u1).trans0 u2).trans q2 (fun b hb => .inr (by simp at hb; omega))⟩
    rw [Hf.out]; rfl

set_option maxRecDepth 20000 in
set_option maxHeartbeats 3200000 in
theorem cat_any (a b : VD) (ha : a.text.size ≤ 140737000000000) (hb : b.text.size ≤ 140737000000000) (w : World) :
    Calls Try.prog 54 #[a.val, b.val] w fun e w' => e = .returned (.tuple #[(catV a b).1.val, .int .i64 (catV a b).2]) ∧ Touch [] w w' := by
  obtain ⟨k1, n1, s1⟩ := a
  obtain ⟨k2, n2, s2⟩ := b
  dsimp only [VD.val] at ha hb ⊢
  have t0 := (((Touch.refl [] w).alloc (.cells #[.int .i64 k1, .int .i64 n1, .string s1] 30)).alloc (.cells #[.int .i64 k2, .int .i64 n2, .string s2] 30)).alloc (.cells #[.int .i64 0, .int .i64 0, .string ⟨#[]⟩] 30)
  have hb1 := (((Touch.refl [] (w.alloc (.cells #[.int .i64 k1, .int .i64 n1, .string s1] 30))).alloc (.cells #[.int .i64 k2, .int .i64 n2, .string s2] 30)).alloc (.cells #[.int .i64 0, .int .i64 0, .string ⟨#[]⟩] 30)).blk (heap_alloc_new w (.cells #[.int .i64 k1, .int .i64 n1, .string s1] 30)) (by simp)
  have hb2 := ((Touch.refl [] ((w.alloc (.cells #[.int .i64 k1, .int .i64 n1, .string s1] 30)).alloc (.cells #[.int .i64 k2, .int .i64 n2, .string s2] 30))).alloc (.cells #[.int .i64 0, .int .i64 0, .string ⟨#[]⟩] 30)).blk (heap_alloc_new (w.alloc (.cells #[.int .i64 k1, .int .i64 n1, .string s1] 30)) (.cells #[.int .i64 k2, .int .i64 n2, .string s2] 30)) (by simp)
  have hbr := heap_alloc_new ((w.alloc (.cells #[.int .i64 k1, .int .i64 n1, .string s1] 30)).alloc (.cells #[.int .i64 k2, .int .i64 n2, .string s2] 30)) (.cells #[.int .i64 0, .int .i64 0, .string ⟨#[]⟩] 30)
  simp only [World.size_alloc] at hb2 hbr
  obtain ⟨W, hW⟩ : ∃ W, W = ((w.alloc (.cells #[.int .i64 k1, .int .i64 n1, .string s1] 30)).alloc (.cells #[.int .i64 k2, .int .i64 n2, .string s2] 30)).alloc (.cells #[.int .i64 0, .int .i64 0, .string ⟨#[]⟩] 30) := ⟨_, rfl⟩
  rw [← hW] at hb1 hb2 hbr t0
  have HW := Lib.hid hW; have Hb1 := Lib.hid hb1; have Hb2 := Lib.hid hb2; have Hbr := Lib.hid hbr; have T0 := Lib.hid t0
  have Hnull := Lib.hid fun w' => null_any w'
  have Hof := Lib.hid fun n w' => of_any n w'
  simp only [VD.val, zeroV, ofV, S] at Hnull Hof
  clear hW hb1 hb2 hbr t0
  have Htx := Lib.hid fun s w' => text_any s w'
  simp only [VD.val] at Htx
  by_cases h3 : k1 = 0
  · have Hf := Lib.hid (show catV ⟨k1, n1, s1⟩ ⟨k2, n2, s2⟩ = (zeroV, 0) by unfold catV; rw [if_pos (.inl h3)])
    subst h3
    go_enter Try.func54, Try.ntmps54
    go_wp2_with fail
    rw [← HW.out]
    refine (Hnull.out _).mono ?_
    rintro e w1 ⟨rfl, u1⟩
    obtain ⟨a0, a1, a2, _⟩ := blk3 (u1.blk Hb1.out (by simp))
    obtain ⟨b0, b1, b2, _⟩ := blk3 (u1.blk Hb2.out (by simp))
    obtain ⟨r0, r1, r2, f0, f1, f2⟩ := blk3 (u1.blk Hbr.out (by simp))
    go_wp2_with fail
    obtain ⟨q1, q2⟩ := out3 (u1.blk Hbr.out (by simp)) (.int .i64 0) (.int .i64 0) (.string ⟨#[]⟩)
    obtain ⟨d0, d1, d2, _⟩ := blk3 q1
    refine bodyPost_ret (v := .tuple #[.agg #[.int .i64 0, .int .i64 0, .string ⟨#[]⟩], .int .i64 (0)]) (by simp [results, Try.results54, go_sem, d0, d1, d2]) rfl ⟨?_, (T0.out.trans0 u1).trans q2 (fun b hb => .inr (by simp at hb; omega))⟩
    rw [Hf.out]; rfl
  have q3 : (k1 == 0) = false := by simpa using h3
  by_cases h4 : k2 = 0
  · have Hf := Lib.hid (show catV ⟨k1, n1, s1⟩ ⟨k2, n2, s2⟩ = (zeroV, 0) by unfold catV; rw [if_pos (.inr h4)])
    subst h4
    clear h3
    go_enter Try.func54, Try.ntmps54
    go_wp2_with fail
    rw [← HW.out]
    refine (Hnull.out _).mono ?_
    rintro e w1 ⟨rfl, u1⟩
    obtain ⟨a0, a1, a2, _⟩ := blk3 (u1.blk Hb1.out (by simp))
    obtain ⟨b0, b1, b2, _⟩ := blk3 (u1.blk Hb2.out (by simp))
    obtain ⟨r0, r1, r2, f0, f1, f2⟩ := blk3 (u1.blk Hbr.out (by simp))
    go_wp2_with fail
    obtain ⟨q1, q2⟩ := out3 (u1.blk Hbr.out (by simp)) (.int .i64 0) (.int .i64 0) (.string ⟨#[]⟩)
    obtain ⟨d0, d1, d2, _⟩ := blk3 q1
    refine bodyPost_ret (v := .tuple #[.agg #[.int .i64 0, .int .i64 0, .string ⟨#[]⟩], .int .i64 (0)]) (by simp [results, Try.results54, go_sem, d0, d1, d2]) rfl ⟨?_, (T0.out.trans0 u1).trans q2 (fun b hb => .inr (by simp at hb; omega))⟩
    rw [Hf.out]; rfl
  have q4 : (k2 == 0) = false := by simpa using h4
  have hne : ¬ (k1 = 0 ∨ k2 = 0) := by rintro (h | h); exact h3 h; exact h4 h
  clear h3 h4
  by_cases h6 : 64 < s1.size + s2.size
  · have Hf := Lib.hid (show catV ⟨k1, n1, s1⟩ ⟨k2, n2, s2⟩ = (zeroV, 10) by unfold catV; rw [if_neg hne, if_pos h6])
    have h6I : (64 : Int) < (s1.size : Int) + (s2.size : Int) := by omega
    go_enter Try.func54, Try.ntmps54
    go_wp2_with fail
    rw [← HW.out]
    have q1 := Hbr.out
    have q2 := Touch.refl [w.heap.size + 1 + 1] W
    obtain ⟨d0, d1, d2, _⟩ := blk3 q1
    refine bodyPost_ret (v := .tuple #[.agg #[.int .i64 0, .int .i64 0, .string ⟨#[]⟩], .int .i64 (10)]) (by simp [results, Try.results54, go_sem, d0, d1, d2]) rfl ⟨?_, T0.out.trans q2 (fun b hb => .inr (by simp at hb; omega))⟩
    rw [Hf.out]; rfl
  · have Hf := Lib.hid (show catV ⟨k1, n1, s1⟩ ⟨k2, n2, s2⟩ = (⟨2, 0, s1 ++ s2⟩, 0) by unfold catV; rw [if_neg hne, if_neg h6])
    have h6I : ¬ (64 : Int) < (s1.size : Int) + (s2.size : Int) := by omega
    go_enter Try.func54, Try.ntmps54
    go_wp2_with fail
    rw [← HW.out]
    refine (Htx.out _ _).mono ?_
    rintro e w1 ⟨rfl, u1⟩
    obtain ⟨a0, a1, a2, _⟩ := blk3 (u1.blk Hb1.out (by simp))
    obtain ⟨b0, b1, b2, _⟩ := blk3 (u1.blk Hb2.out (by simp))
    obtain ⟨r0, r1, r2, f0, f1, f2⟩ := blk3 (u1.blk Hbr.out (by simp))
    go_wp2_with fail
    obtain ⟨q1, q2⟩ := out3 (u1.blk Hbr.out (by simp)) (.int .i64 2) (.int .i64 0) (.string (s1 ++ s2))
    obtain ⟨d0, d1, d2, _⟩ := blk3 q1
    refine bodyPost_ret (v := .tuple #[.agg #[.int .i64 2, .int .i64 0, .string (s1 ++ s2)], .int .i64 (0)]) (by simp [results, Try.results54, go_sem, d0, d1, d2]) rfl ⟨?_, (T0.out.trans0 u1).trans q2 (fun b hb => .inr (by simp at hb; omega))⟩
    rw [Hf.out]
end Go.Proofs.Ytlkckkagoommaaa
