/- Part 10 of the texts of this proof, one behind the other. No condition beyond those that its theorems state. -/
import Derived.Test.YtafoklilkdnepaaGreatDoorRn9
import Derived.Lib.AppendZerosOnto
import Derived.Lib.AppendZeros
set_option maxRecDepth 40000
set_option maxHeartbeats 25600000
namespace Go.Proofs.YtafoklilkdnepaaGreatDoor
section
open Go.RowKit
def opC : ByteArray := ⟨#[99, 111, 117, 110, 116]⟩
def opS : ByteArray := ⟨#[115, 117, 109]⟩
def opMi : ByteArray := ⟨#[109, 105, 110]⟩
def opMa : ByteArray := ⟨#[109, 97, 120]⟩
def opsL : List ByteArray := [⟨#[99, 111, 117, 110, 116]⟩, ⟨#[115, 117, 109]⟩, ⟨#[109, 105, 110]⟩, ⟨#[109, 97, 120]⟩]
theorem aggT_form (op col nm : ByteArray) (SA : Option Addr) (c n : Nat) (cs : List CD) (hn : cs.length = n) (hl : n <= 1000000) (w : World) (h : ColsAt w SA cs) (HM : Hid (memS opsL op = false)) :
  Calls Tryz.prog 131 #[.agg #[.string op, .string col, .string nm], .slice SA n c] w fun e w' => e = .returned (.tuple #[.int .i64 0, .int .i64 20]) /\ Touch [] w w' := by
 have Hc := lh fun w' (t : Touch [] w w') A (h : RdK btE w' A opsL) => containsS_any A 4 4 opsL rfl op w' h (by omega)
 have t0 := (Touch.refl [] w).alloc (.cells #[.string op, .string col, .string nm] 79)
 have hb0 := heap_alloc_new w (.cells #[.string op, .string col, .string nm] 79)
 have tb := t0.alloc (.cells #[.string ⟨#[99, 111, 117, 110, 116]⟩, .string ⟨#[115, 117, 109]⟩, .string ⟨#[109, 105, 110]⟩, .string ⟨#[109, 97, 120]⟩] 9)
 have hb1 := ((Touch.refl [] (w.alloc (.cells #[.string op, .string col, .string nm] 79))).alloc (.cells #[.string ⟨#[99, 111, 117, 110, 116]⟩, .string ⟨#[115, 117, 109]⟩, .string ⟨#[109, 105, 110]⟩, .string ⟨#[109, 97, 120]⟩] 9)).blk hb0 (by simp)
 have hrd := RdK.row (enc := btE) (w.alloc (.cells #[.string op, .string col, .string nm] 79)) 9 opsL #[.string ⟨#[99, 111, 117, 110, 116]⟩, .string ⟨#[115, 117, 109]⟩, .string ⟨#[109, 105, 110]⟩, .string ⟨#[109, 97, 120]⟩] rfl
 rw [World.size_alloc] at hrd
 have HB := lh (And.intro tb (And.intro hb1 hrd))
 have hfd := fun w' (t : Touch [] w w') => findC_any SA c n cs hn col w' (h.touch0 t) (by omega)
 clear t0 hb0 tb hb1 hrd hfd hn h
 go_enter Tryz.func131, Tryz.ntmps131
 go_wp2_with fail
 refine (Hc.out _ HB.out.1 _ HB.out.2.2).mono ?_
 rintro e w1 ⟨rfl, t1⟩
 rw [HM.out]
 obtain ⟨d0, d1, d2, _, _, _⟩ := blk3 (t1.blk HB.out.2.1 (by simp))
 have HT := lh (And.intro (HB.out.1.trans0 t1) (t1.blk HB.out.2.1 (by simp)))
 clear t1
 go_wp2
 go_ret2
 exact ⟨rfl, HT.out.1⟩
theorem aggT_form2 (op col nm : ByteArray) (SA : Option Addr) (c n : Nat) (cs : List CD) (hn : cs.length = n) (hl : n <= 1000000) (w : World) (h : ColsAt w SA cs) (HM : Hid (memS opsL op = true)) (q5 : col.toList.isEmpty = true) (q1 : (op.toList == [99, 111, 117, 110, 116]) = false) :
  Calls Tryz.prog 131 #[.agg #[.string op, .string col, .string nm], .slice SA n c] w fun e w' => e = .returned (.tuple #[.int .i64 0, .int .i64 20]) /\ Touch [] w w' := by
 have Hc := lh fun w' (t : Touch [] w w') A (h : RdK btE w' A opsL) => containsS_any A 4 4 opsL rfl op w' h (by omega)
 have t0 := (Touch.refl [] w).alloc (.cells #[.string op, .string col, .string nm] 79)
 have hb0 := heap_alloc_new w (.cells #[.string op, .string col, .string nm] 79)
 have tb := t0.alloc (.cells #[.string ⟨#[99, 111, 117, 110, 116]⟩, .string ⟨#[115, 117, 109]⟩, .string ⟨#[109, 105, 110]⟩, .string ⟨#[109, 97, 120]⟩] 9)
 have hb1 := ((Touch.refl [] (w.alloc (.cells #[.string op, .string col, .string nm] 79))).alloc (.cells #[.string ⟨#[99, 111, 117, 110, 116]⟩, .string ⟨#[115, 117, 109]⟩, .string ⟨#[109, 105, 110]⟩, .string ⟨#[109, 97, 120]⟩] 9)).blk hb0 (by simp)
 have hrd := RdK.row (enc := btE) (w.alloc (.cells #[.string op, .string col, .string nm] 79)) 9 opsL #[.string ⟨#[99, 111, 117, 110, 116]⟩, .string ⟨#[115, 117, 109]⟩, .string ⟨#[109, 105, 110]⟩, .string ⟨#[109, 97, 120]⟩] rfl
 rw [World.size_alloc] at hrd
 have HB := lh (And.intro tb (And.intro hb1 hrd))
 have hfd := fun w' (t : Touch [] w w') => findC_any SA c n cs hn col w' (h.touch0 t) (by omega)
 clear t0 hb0 tb hb1 hrd hfd hn h
 go_enter Tryz.func131, Tryz.ntmps131
 go_wp2_with fail
 refine (Hc.out _ HB.out.1 _ HB.out.2.2).mono ?_
 rintro e w1 ⟨rfl, t1⟩
 rw [HM.out]
 obtain ⟨d0, d1, d2, _, _, _⟩ := blk3 (t1.blk HB.out.2.1 (by simp))
 have HT := lh (And.intro (HB.out.1.trans0 t1) (t1.blk HB.out.2.1 (by simp)))
 clear t1
 go_wp2
 go_ret2
 exact ⟨rfl, HT.out.1⟩
theorem aggT_rows (op col nm : ByteArray) (SA : Option Addr) (c n : Nat) (cs : List CD) (hn : cs.length = n) (hl : n <= 1000000) (w : World) (h : ColsAt w SA cs) (HM : Hid (memS opsL op = true)) (q5 : col.toList.isEmpty = true) (q1 : (op.toList == [99, 111, 117, 110, 116]) = true) :
  Calls Tryz.prog 131 #[.agg #[.string op, .string col, .string nm], .slice SA n c] w fun e w' => e = .returned (.tuple #[.int .i64 1, .int .i64 0]) /\ Touch [] w w' := by
 have Hc := lh fun w' (t : Touch [] w w') A (h : RdK btE w' A opsL) => containsS_any A 4 4 opsL rfl op w' h (by omega)
 have t0 := (Touch.refl [] w).alloc (.cells #[.string op, .string col, .string nm] 79)
 have hb0 := heap_alloc_new w (.cells #[.string op, .string col, .string nm] 79)
 have tb := t0.alloc (.cells #[.string ⟨#[99, 111, 117, 110, 116]⟩, .string ⟨#[115, 117, 109]⟩, .string ⟨#[109, 105, 110]⟩, .string ⟨#[109, 97, 120]⟩] 9)
 have hb1 := ((Touch.refl [] (w.alloc (.cells #[.string op, .string col, .string nm] 79))).alloc (.cells #[.string ⟨#[99, 111, 117, 110, 116]⟩, .string ⟨#[115, 117, 109]⟩, .string ⟨#[109, 105, 110]⟩, .string ⟨#[109, 97, 120]⟩] 9)).blk hb0 (by simp)
 have hrd := RdK.row (enc := btE) (w.alloc (.cells #[.string op, .string col, .string nm] 79)) 9 opsL #[.string ⟨#[99, 111, 117, 110, 116]⟩, .string ⟨#[115, 117, 109]⟩, .string ⟨#[109, 105, 110]⟩, .string ⟨#[109, 97, 120]⟩] rfl
 rw [World.size_alloc] at hrd
 have HB := lh (And.intro tb (And.intro hb1 hrd))
 have hfd := fun w' (t : Touch [] w w') => findC_any SA c n cs hn col w' (h.touch0 t) (by omega)
 have Hf := lh hfd
 clear t0 hb0 tb hb1 hrd hfd hn h
 go_enter Tryz.func131, Tryz.ntmps131
 go_wp2_with fail
 refine (Hc.out _ HB.out.1 _ HB.out.2.2).mono ?_
 rintro e w1 ⟨rfl, t1⟩
 rw [HM.out]
 obtain ⟨d0, d1, d2, _, _, _⟩ := blk3 (t1.blk HB.out.2.1 (by simp))
 have HT := lh (And.intro (HB.out.1.trans0 t1) (t1.blk HB.out.2.1 (by simp)))
 clear t1
 go_wp2_with fail
 refine (Hf.out _ HT.out.1).mono ?_
 rintro e w2 ⟨rfl, t2⟩
 obtain ⟨f0, f1, f2, _, _, _⟩ := blk3 (t2.blk HT.out.2 (by simp))
 have HT2 := lh (HT.out.1.trans0 t2)
 clear t2
 go_wp2
 go_ret2
 exact ⟨rfl, HT2.out⟩
theorem aggT_name (op col nm : ByteArray) (SA : Option Addr) (c n : Nat) (cs : List CD) (hn : cs.length = n) (hl : n <= 1000000) (w : World) (h : ColsAt w SA cs) (HM : Hid (memS opsL op = true)) (q5 : col.toList.isEmpty = false) (hp : placeV cs col = none) :
  Calls Tryz.prog 131 #[.agg #[.string op, .string col, .string nm], .slice SA n c] w fun e w' => e = .returned (.tuple #[.int .i64 0, .int .i64 13]) /\ Touch [] w w' := by
 have Hc := lh fun w' (t : Touch [] w w') A (h : RdK btE w' A opsL) => containsS_any A 4 4 opsL rfl op w' h (by omega)
 have t0 := (Touch.refl [] w).alloc (.cells #[.string op, .string col, .string nm] 79)
 have hb0 := heap_alloc_new w (.cells #[.string op, .string col, .string nm] 79)
 have tb := t0.alloc (.cells #[.string ⟨#[99, 111, 117, 110, 116]⟩, .string ⟨#[115, 117, 109]⟩, .string ⟨#[109, 105, 110]⟩, .string ⟨#[109, 97, 120]⟩] 9)
 have hb1 := ((Touch.refl [] (w.alloc (.cells #[.string op, .string col, .string nm] 79))).alloc (.cells #[.string ⟨#[99, 111, 117, 110, 116]⟩, .string ⟨#[115, 117, 109]⟩, .string ⟨#[109, 105, 110]⟩, .string ⟨#[109, 97, 120]⟩] 9)).blk hb0 (by simp)
 have hrd := RdK.row (enc := btE) (w.alloc (.cells #[.string op, .string col, .string nm] 79)) 9 opsL #[.string ⟨#[99, 111, 117, 110, 116]⟩, .string ⟨#[115, 117, 109]⟩, .string ⟨#[109, 105, 110]⟩, .string ⟨#[109, 97, 120]⟩] rfl
 rw [World.size_alloc] at hrd
 have HB := lh (And.intro tb (And.intro hb1 hrd))
 have hfd := fun w' (t : Touch [] w w') => findC_any SA c n cs hn col w' (h.touch0 t) (by omega)
 rw [hp] at hfd
 have Hf := lh hfd
 clear hp
 clear t0 hb0 tb hb1 hrd hfd hn h
 go_enter Tryz.func131, Tryz.ntmps131
 go_wp2_with fail
 refine (Hc.out _ HB.out.1 _ HB.out.2.2).mono ?_
 rintro e w1 ⟨rfl, t1⟩
 rw [HM.out]
 obtain ⟨d0, d1, d2, _, _, _⟩ := blk3 (t1.blk HB.out.2.1 (by simp))
 have HT := lh (And.intro (HB.out.1.trans0 t1) (t1.blk HB.out.2.1 (by simp)))
 clear t1
 go_wp2_with fail
 refine (Hf.out _ HT.out.1).mono ?_
 rintro e w2 ⟨rfl, t2⟩
 obtain ⟨f0, f1, f2, _, _, _⟩ := blk3 (t2.blk HT.out.2 (by simp))
 have HT2 := lh (HT.out.1.trans0 t2)
 clear t2
 go_wp2
 go_ret2
 exact ⟨rfl, HT2.out⟩
theorem aggT_text (op col nm : ByteArray) (SA : Option Addr) (c n : Nat) (cs : List CD) (hn : cs.length = n) (hl : n <= 1000000) (w : World) (h : ColsAt w SA cs) (HM : Hid (memS opsL op = true)) (q5 : col.toList.isEmpty = false) (i : Nat) (hp : placeV cs col = some i) (t : Int) (ht : typO cs col = some t) (q2 : (op.toList == [115, 117, 109]) = true) (h2 : t = 2) :
  Calls Tryz.prog 131 #[.agg #[.string op, .string col, .string nm], .slice SA n c] w fun e w' => e = .returned (.tuple #[.int .i64 0, .int .i64 12]) /\ Touch [] w w' := by
 have Hc := lh fun w' (t : Touch [] w w') A (h : RdK btE w' A opsL) => containsS_any A 4 4 opsL rfl op w' h (by omega)
 have t0 := (Touch.refl [] w).alloc (.cells #[.string op, .string col, .string nm] 79)
 have hb0 := heap_alloc_new w (.cells #[.string op, .string col, .string nm] 79)
 have tb := t0.alloc (.cells #[.string ⟨#[99, 111, 117, 110, 116]⟩, .string ⟨#[115, 117, 109]⟩, .string ⟨#[109, 105, 110]⟩, .string ⟨#[109, 97, 120]⟩] 9)
 have hb1 := ((Touch.refl [] (w.alloc (.cells #[.string op, .string col, .string nm] 79))).alloc (.cells #[.string ⟨#[99, 111, 117, 110, 116]⟩, .string ⟨#[115, 117, 109]⟩, .string ⟨#[109, 105, 110]⟩, .string ⟨#[109, 97, 120]⟩] 9)).blk hb0 (by simp)
 have hrd := RdK.row (enc := btE) (w.alloc (.cells #[.string op, .string col, .string nm] 79)) 9 opsL #[.string ⟨#[99, 111, 117, 110, 116]⟩, .string ⟨#[115, 117, 109]⟩, .string ⟨#[109, 105, 110]⟩, .string ⟨#[109, 97, 120]⟩] rfl
 rw [World.size_alloc] at hrd
 have HB := lh (And.intro tb (And.intro hb1 hrd))
 have hfd := fun w' (t : Touch [] w w') => findC_any SA c n cs hn col w' (h.touch0 t) (by omega)
 rw [hp] at hfd
 have Hf := lh hfd
 have hil := placeV_lt hp
 obtain ⟨ad2, b2, o2, rfl, hadd2, _, e3⟩ := h.at_ i hil
 have hts : cs[i].typ = t := by
  unfold typO at ht; rw [hp] at ht; simpa [hil] using ht
 rw [hts] at e3
 have hi0 : (0 : Int) <= (i : Int) := by omega
 have hin : (i : Int) < (n : Int) := by omega
 have E3 := lh e3
 clear hts ht e3
 subst h2
 clear hp
 clear t0 hb0 tb hb1 hrd hfd hn h
 go_enter Tryz.func131, Tryz.ntmps131
 go_wp2_with fail
 refine (Hc.out _ HB.out.1 _ HB.out.2.2).mono ?_
 rintro e w1 ⟨rfl, t1⟩
 rw [HM.out]
 obtain ⟨d0, d1, d2, _, _, _⟩ := blk3 (t1.blk HB.out.2.1 (by simp))
 have HT := lh (And.intro (HB.out.1.trans0 t1) (t1.blk HB.out.2.1 (by simp)))
 clear t1
 go_wp2_with fail
 refine (Hf.out _ HT.out.1).mono ?_
 rintro e w2 ⟨rfl, t2⟩
 obtain ⟨f0, f1, f2, _, _, _⟩ := blk3 (t2.blk HT.out.2 (by simp))
 have e3' := (HT.out.1.trans0 t2).cell E3.out (by simp)
 have HT2 := lh (HT.out.1.trans0 t2)
 clear t2
 go_wp2
 go_ret2
 exact ⟨rfl, HT2.out⟩
theorem aggT_sum (op col nm : ByteArray) (SA : Option Addr) (c n : Nat) (cs : List CD) (hn : cs.length = n) (hl : n <= 1000000) (w : World) (h : ColsAt w SA cs) (HM : Hid (memS opsL op = true)) (q5 : col.toList.isEmpty = false) (i : Nat) (hp : placeV cs col = some i) (t : Int) (ht : typO cs col = some t) (q2 : (op.toList == [115, 117, 109]) = true) (q3 : (op.toList == [109, 105, 110]) = false) (q4 : (op.toList == [109, 97, 120]) = false) (h2 : t ≠ 2) :
  Calls Tryz.prog 131 #[.agg #[.string op, .string col, .string nm], .slice SA n c] w fun e w' => e = .returned (.tuple #[.int .i64 1, .int .i64 0]) /\ Touch [] w w' := by
 have Hc := lh fun w' (t : Touch [] w w') A (h : RdK btE w' A opsL) => containsS_any A 4 4 opsL rfl op w' h (by omega)
 have t0 := (Touch.refl [] w).alloc (.cells #[.string op, .string col, .string nm] 79)
 have hb0 := heap_alloc_new w (.cells #[.string op, .string col, .string nm] 79)
 have tb := t0.alloc (.cells #[.string ⟨#[99, 111, 117, 110, 116]⟩, .string ⟨#[115, 117, 109]⟩, .string ⟨#[109, 105, 110]⟩, .string ⟨#[109, 97, 120]⟩] 9)
 have hb1 := ((Touch.refl [] (w.alloc (.cells #[.string op, .string col, .string nm] 79))).alloc (.cells #[.string ⟨#[99, 111, 117, 110, 116]⟩, .string ⟨#[115, 117, 109]⟩, .string ⟨#[109, 105, 110]⟩, .string ⟨#[109, 97, 120]⟩] 9)).blk hb0 (by simp)
 have hrd := RdK.row (enc := btE) (w.alloc (.cells #[.string op, .string col, .string nm] 79)) 9 opsL #[.string ⟨#[99, 111, 117, 110, 116]⟩, .string ⟨#[115, 117, 109]⟩, .string ⟨#[109, 105, 110]⟩, .string ⟨#[109, 97, 120]⟩] rfl
 rw [World.size_alloc] at hrd
 have HB := lh (And.intro tb (And.intro hb1 hrd))
 have hfd := fun w' (t : Touch [] w w') => findC_any SA c n cs hn col w' (h.touch0 t) (by omega)
 rw [hp] at hfd
 have Hf := lh hfd
 have hil := placeV_lt hp
 obtain ⟨ad2, b2, o2, rfl, hadd2, _, e3⟩ := h.at_ i hil
 have hts : cs[i].typ = t := by
  unfold typO at ht; rw [hp] at ht; simpa [hil] using ht
 rw [hts] at e3
 have hi0 : (0 : Int) <= (i : Int) := by omega
 have hin : (i : Int) < (n : Int) := by omega
 have E3 := lh e3
 clear hts ht e3
 have h2q : (t == 2) = false := by rw [beq_eq_false_iff_ne]; exact h2
 clear hp
 clear t0 hb0 tb hb1 hrd hfd hn h
 go_enter Tryz.func131, Tryz.ntmps131
 go_wp2_with fail
 refine (Hc.out _ HB.out.1 _ HB.out.2.2).mono ?_
 rintro e w1 ⟨rfl, t1⟩
 rw [HM.out]
 obtain ⟨d0, d1, d2, _, _, _⟩ := blk3 (t1.blk HB.out.2.1 (by simp))
 have HT := lh (And.intro (HB.out.1.trans0 t1) (t1.blk HB.out.2.1 (by simp)))
 clear t1
 go_wp2_with fail
 refine (Hf.out _ HT.out.1).mono ?_
 rintro e w2 ⟨rfl, t2⟩
 obtain ⟨f0, f1, f2, _, _, _⟩ := blk3 (t2.blk HT.out.2 (by simp))
 have e3' := (HT.out.1.trans0 t2).cell E3.out (by simp)
 have HT2 := lh (HT.out.1.trans0 t2)
 clear t2
 go_wp2
 go_ret2
 exact ⟨rfl, HT2.out⟩
theorem aggT_min (op col nm : ByteArray) (SA : Option Addr) (c n : Nat) (cs : List CD) (hn : cs.length = n) (hl : n <= 1000000) (w : World) (h : ColsAt w SA cs) (HM : Hid (memS opsL op = true)) (q5 : col.toList.isEmpty = false) (i : Nat) (hp : placeV cs col = some i) (t : Int) (ht : typO cs col = some t) (q2 : (op.toList == [115, 117, 109]) = false) (q3 : (op.toList == [109, 105, 110]) = true) :
  Calls Tryz.prog 131 #[.agg #[.string op, .string col, .string nm], .slice SA n c] w fun e w' => e = .returned (.tuple #[.int .i64 t, .int .i64 0]) /\ Touch [] w w' := by
 have Hc := lh fun w' (t : Touch [] w w') A (h : RdK btE w' A opsL) => containsS_any A 4 4 opsL rfl op w' h (by omega)
 have t0 := (Touch.refl [] w).alloc (.cells #[.string op, .string col, .string nm] 79)
 have hb0 := heap_alloc_new w (.cells #[.string op, .string col, .string nm] 79)
 have tb := t0.alloc (.cells #[.string ⟨#[99, 111, 117, 110, 116]⟩, .string ⟨#[115, 117, 109]⟩, .string ⟨#[109, 105, 110]⟩, .string ⟨#[109, 97, 120]⟩] 9)
 have hb1 := ((Touch.refl [] (w.alloc (.cells #[.string op, .string col, .string nm] 79))).alloc (.cells #[.string ⟨#[99, 111, 117, 110, 116]⟩, .string ⟨#[115, 117, 109]⟩, .string ⟨#[109, 105, 110]⟩, .string ⟨#[109, 97, 120]⟩] 9)).blk hb0 (by simp)
 have hrd := RdK.row (enc := btE) (w.alloc (.cells #[.string op, .string col, .string nm] 79)) 9 opsL #[.string ⟨#[99, 111, 117, 110, 116]⟩, .string ⟨#[115, 117, 109]⟩, .string ⟨#[109, 105, 110]⟩, .string ⟨#[109, 97, 120]⟩] rfl
 rw [World.size_alloc] at hrd
 have HB := lh (And.intro tb (And.intro hb1 hrd))
 have hfd := fun w' (t : Touch [] w w') => findC_any SA c n cs hn col w' (h.touch0 t) (by omega)
 rw [hp] at hfd
 have Hf := lh hfd
 have hil := placeV_lt hp
 obtain ⟨ad2, b2, o2, rfl, hadd2, _, e3⟩ := h.at_ i hil
 have hts : cs[i].typ = t := by
  unfold typO at ht; rw [hp] at ht; simpa [hil] using ht
 rw [hts] at e3
 have hi0 : (0 : Int) <= (i : Int) := by omega
 have hin : (i : Int) < (n : Int) := by omega
 have E3 := lh e3
 clear hts ht e3
 clear hp
 clear t0 hb0 tb hb1 hrd hfd hn h
 go_enter Tryz.func131, Tryz.ntmps131
 go_wp2_with fail
 refine (Hc.out _ HB.out.1 _ HB.out.2.2).mono ?_
 rintro e w1 ⟨rfl, t1⟩
 rw [HM.out]
 obtain ⟨d0, d1, d2, _, _, _⟩ := blk3 (t1.blk HB.out.2.1 (by simp))
 have HT := lh (And.intro (HB.out.1.trans0 t1) (t1.blk HB.out.2.1 (by simp)))
 clear t1
 go_wp2_with fail
 refine (Hf.out _ HT.out.1).mono ?_
 rintro e w2 ⟨rfl, t2⟩
 obtain ⟨f0, f1, f2, _, _, _⟩ := blk3 (t2.blk HT.out.2 (by simp))
 have e3' := (HT.out.1.trans0 t2).cell E3.out (by simp)
 have HT2 := lh (HT.out.1.trans0 t2)
 clear t2
 go_wp2
 go_ret2
 exact ⟨rfl, HT2.out⟩
theorem aggT_max (op col nm : ByteArray) (SA : Option Addr) (c n : Nat) (cs : List CD) (hn : cs.length = n) (hl : n <= 1000000) (w : World) (h : ColsAt w SA cs) (HM : Hid (memS opsL op = true)) (q5 : col.toList.isEmpty = false) (i : Nat) (hp : placeV cs col = some i) (t : Int) (ht : typO cs col = some t) (q2 : (op.toList == [115, 117, 109]) = false) (q3 : (op.toList == [109, 105, 110]) = false) (q4 : (op.toList == [109, 97, 120]) = true) :
  Calls Tryz.prog 131 #[.agg #[.string op, .string col, .string nm], .slice SA n c] w fun e w' => e = .returned (.tuple #[.int .i64 t, .int .i64 0]) /\ Touch [] w w' := by
 have Hc := lh fun w' (t : Touch [] w w') A (h : RdK btE w' A opsL) => containsS_any A 4 4 opsL rfl op w' h (by omega)
 have t0 := (Touch.refl [] w).alloc (.cells #[.string op, .string col, .string nm] 79)
 have hb0 := heap_alloc_new w (.cells #[.string op, .string col, .string nm] 79)
 have tb := t0.alloc (.cells #[.string ⟨#[99, 111, 117, 110, 116]⟩, .string ⟨#[115, 117, 109]⟩, .string ⟨#[109, 105, 110]⟩, .string ⟨#[109, 97, 120]⟩] 9)
 have hb1 := ((Touch.refl [] (w.alloc (.cells #[.string op, .string col, .string nm] 79))).alloc (.cells #[.string ⟨#[99, 111, 117, 110, 116]⟩, .string ⟨#[115, 117, 109]⟩, .string ⟨#[109, 105, 110]⟩, .string ⟨#[109, 97, 120]⟩] 9)).blk hb0 (by simp)
 have hrd := RdK.row (enc := btE) (w.alloc (.cells #[.string op, .string col, .string nm] 79)) 9 opsL #[.string ⟨#[99, 111, 117, 110, 116]⟩, .string ⟨#[115, 117, 109]⟩, .string ⟨#[109, 105, 110]⟩, .string ⟨#[109, 97, 120]⟩] rfl
 rw [World.size_alloc] at hrd
 have HB := lh (And.intro tb (And.intro hb1 hrd))
 have hfd := fun w' (t : Touch [] w w') => findC_any SA c n cs hn col w' (h.touch0 t) (by omega)
 rw [hp] at hfd
 have Hf := lh hfd
 have hil := placeV_lt hp
 obtain ⟨ad2, b2, o2, rfl, hadd2, _, e3⟩ := h.at_ i hil
 have hts : cs[i].typ = t := by
  unfold typO at ht; rw [hp] at ht; simpa [hil] using ht
 rw [hts] at e3
 have hi0 : (0 : Int) <= (i : Int) := by omega
 have hin : (i : Int) < (n : Int) := by omega
 have E3 := lh e3
 clear hts ht e3
 clear hp
 clear t0 hb0 tb hb1 hrd hfd hn h
 go_enter Tryz.func131, Tryz.ntmps131
 go_wp2_with fail
 refine (Hc.out _ HB.out.1 _ HB.out.2.2).mono ?_
 rintro e w1 ⟨rfl, t1⟩
 rw [HM.out]
 obtain ⟨d0, d1, d2, _, _, _⟩ := blk3 (t1.blk HB.out.2.1 (by simp))
 have HT := lh (And.intro (HB.out.1.trans0 t1) (t1.blk HB.out.2.1 (by simp)))
 clear t1
 go_wp2_with fail
 refine (Hf.out _ HT.out.1).mono ?_
 rintro e w2 ⟨rfl, t2⟩
 obtain ⟨f0, f1, f2, _, _, _⟩ := blk3 (t2.blk HT.out.2 (by simp))
 have e3' := (HT.out.1.trans0 t2).cell E3.out (by simp)
 have HT2 := lh (HT.out.1.trans0 t2)
 clear t2
 go_wp2
 go_ret2
 exact ⟨rfl, HT2.out⟩
theorem aggT_count (op col nm : ByteArray) (SA : Option Addr) (c n : Nat) (cs : List CD) (hn : cs.length = n) (hl : n <= 1000000) (w : World) (h : ColsAt w SA cs) (HM : Hid (memS opsL op = true)) (q5 : col.toList.isEmpty = false) (i : Nat) (hp : placeV cs col = some i) (t : Int) (ht : typO cs col = some t) (q2 : (op.toList == [115, 117, 109]) = false) (q3 : (op.toList == [109, 105, 110]) = false) (q4 : (op.toList == [109, 97, 120]) = false) :
  Calls Tryz.prog 131 #[.agg #[.string op, .string col, .string nm], .slice SA n c] w fun e w' => e = .returned (.tuple #[.int .i64 1, .int .i64 0]) /\ Touch [] w w' := by
 have Hc := lh fun w' (t : Touch [] w w') A (h : RdK btE w' A opsL) => containsS_any A 4 4 opsL rfl op w' h (by omega)
 have t0 := (Touch.refl [] w).alloc (.cells #[.string op, .string col, .string nm] 79)
 have hb0 := heap_alloc_new w (.cells #[.string op, .string col, .string nm] 79)
 have tb := t0.alloc (.cells #[.string ⟨#[99, 111, 117, 110, 116]⟩, .string ⟨#[115, 117, 109]⟩, .string ⟨#[109, 105, 110]⟩, .string ⟨#[109, 97, 120]⟩] 9)
 have hb1 := ((Touch.refl [] (w.alloc (.cells #[.string op, .string col, .string nm] 79))).alloc (.cells #[.string ⟨#[99, 111, 117, 110, 116]⟩, .string ⟨#[115, 117, 109]⟩, .string ⟨#[109, 105, 110]⟩, .string ⟨#[109, 97, 120]⟩] 9)).blk hb0 (by simp)
 have hrd := RdK.row (enc := btE) (w.alloc (.cells #[.string op, .string col, .string nm] 79)) 9 opsL #[.string ⟨#[99, 111, 117, 110, 116]⟩, .string ⟨#[115, 117, 109]⟩, .string ⟨#[109, 105, 110]⟩, .string ⟨#[109, 97, 120]⟩] rfl
 rw [World.size_alloc] at hrd
 have HB := lh (And.intro tb (And.intro hb1 hrd))
 have hfd := fun w' (t : Touch [] w w') => findC_any SA c n cs hn col w' (h.touch0 t) (by omega)
 rw [hp] at hfd
 have Hf := lh hfd
 have hil := placeV_lt hp
 obtain ⟨ad2, b2, o2, rfl, hadd2, _, e3⟩ := h.at_ i hil
 have hts : cs[i].typ = t := by
  unfold typO at ht; rw [hp] at ht; simpa [hil] using ht
 rw [hts] at e3
 have hi0 : (0 : Int) <= (i : Int) := by omega
 have hin : (i : Int) < (n : Int) := by omega
 have E3 := lh e3
 clear hts ht e3
 clear hp
 clear t0 hb0 tb hb1 hrd hfd hn h
 go_enter Tryz.func131, Tryz.ntmps131
 go_wp2_with fail
 refine (Hc.out _ HB.out.1 _ HB.out.2.2).mono ?_
 rintro e w1 ⟨rfl, t1⟩
 rw [HM.out]
 obtain ⟨d0, d1, d2, _, _, _⟩ := blk3 (t1.blk HB.out.2.1 (by simp))
 have HT := lh (And.intro (HB.out.1.trans0 t1) (t1.blk HB.out.2.1 (by simp)))
 clear t1
 go_wp2_with fail
 refine (Hf.out _ HT.out.1).mono ?_
 rintro e w2 ⟨rfl, t2⟩
 obtain ⟨f0, f1, f2, _, _, _⟩ := blk3 (t2.blk HT.out.2 (by simp))
 have e3' := (HT.out.1.trans0 t2).cell E3.out (by simp)
 have HT2 := lh (HT.out.1.trans0 t2)
 clear t2
 go_wp2
 go_ret2
 exact ⟨rfl, HT2.out⟩
def aggV (cs : List CD) (a : AG) : Int × Int :=
 if memS opsL a.op = false then (0, 20)
 else if a.col = ⟨#[]⟩ then (if a.op = opC then (1, 0) else (0, 20))
 else match typO cs a.col with
  | none => (0, 13)
  | some t => if a.op = opS /\ t = 2 then (0, 12) else if a.op = opMi \/ a.op = opMa then (t, 0) else (1, 0)
theorem lit_beq (x : ByteArray) (l : List UInt8) (b : ByteArray) (hb : b.data.toList = l) : (x.toList == l) = decide (x = b) := by
 rw [<- hb, <- toList_B, bs_beq]
theorem isEmpty_bs (s : ByteArray) : s.toList.isEmpty = decide (s = ⟨#[]⟩) := by
 rw [toList_B]
 obtain ⟨⟨l⟩⟩ := s
 rcases l with _ | ⟨x, l⟩
 ·simp
 ·simp
theorem agg_any (a : AG) (SA : Option Addr) (c n : Nat) (cs : List CD) (hn : cs.length = n) (hl : n <= 1000000) (w : World) (h : ColsAt w SA cs) :
  Calls Tryz.prog 131 #[.agg #[.string a.op, .string a.col, .string a.name], .slice SA n c] w fun e w' => e = .returned (.tuple #[.int .i64 (aggV cs a).1, .int .i64 (aggV cs a).2]) /\ Touch [] w w' := by
 obtain ⟨op, col, nm⟩ := a
 dsimp only
 rcases hm : memS opsL op with _ | _
 ·have e : aggV cs ⟨op, col, nm⟩ = (0, 20) := by unfold aggV; rw [if_pos hm]
  rw [e]
  exact aggT_form op col nm SA c n cs hn hl w h (lh hm)
 have hm' : ¬ memS opsL op = false := by rw [hm]; simp
 have e0 : aggV cs ⟨op, col, nm⟩ = (if col = ⟨#[]⟩ then (if op = opC then ((1, 0) : Int × Int) else (0, 20)) else match typO cs col with
  | none => (0, 13)
  | some t => if op = opS /\ t = 2 then (0, 12) else if op = opMi \/ op = opMa then (t, 0) else (1, 0)) := by unfold aggV; rw [if_neg hm']
 rw [e0]
 by_cases h5 : col = ⟨#[]⟩
 ·rw [if_pos h5]
  have q5 : col.toList.isEmpty = true := by rw [isEmpty_bs]; exact decide_eq_true h5
  by_cases h1 : op = opC
  ·rw [if_pos h1]
   exact aggT_rows op col nm SA c n cs hn hl w h (lh hm) q5 ((lit_beq op _ opC rfl).trans (decide_eq_true h1))
  ·rw [if_neg h1]
   exact aggT_form2 op col nm SA c n cs hn hl w h (lh hm) q5 ((lit_beq op _ opC rfl).trans (decide_eq_false h1))
 ·rw [if_neg h5]
  have q5 : col.toList.isEmpty = false := by rw [isEmpty_bs]; exact decide_eq_false h5
  rcases hp : placeV cs col with _ | i
  ·have ht : typO cs col = none := by unfold typO; rw [hp]; rfl
   rw [ht]
   exact aggT_name op col nm SA c n cs hn hl w h (lh hm) q5 hp
  ·obtain ⟨t, ht⟩ : ∃ t, typO cs col = some t := ⟨_, by unfold typO; rw [hp]; rfl⟩
   rw [ht]
   dsimp only
   by_cases h2 : op = opS
   ·have n3 : ¬ op = opMi := by rw [h2]; decide
    have n4 : ¬ op = opMa := by rw [h2]; decide
    by_cases h22 : t = 2
    ·rw [if_pos ⟨h2, h22⟩]
     exact aggT_text op col nm SA c n cs hn hl w h (lh hm) q5 i hp t ht ((lit_beq op _ opS rfl).trans (decide_eq_true h2)) h22
    ·rw [if_neg (fun q => h22 q.2), if_neg (fun q => q.elim n3 n4)]
     exact aggT_sum op col nm SA c n cs hn hl w h (lh hm) q5 i hp t ht ((lit_beq op _ opS rfl).trans (decide_eq_true h2)) ((lit_beq op _ opMi rfl).trans (decide_eq_false n3)) ((lit_beq op _ opMa rfl).trans (decide_eq_false n4)) h22
   ·rw [if_neg (fun q => h2 q.1)]
    have q2 : (op.toList == [115, 117, 109]) = false := (lit_beq op _ opS rfl).trans (decide_eq_false h2)
    by_cases h3 : op = opMi
    ·rw [if_pos (.inl h3)]
     exact aggT_min op col nm SA c n cs hn hl w h (lh hm) q5 i hp t ht q2 ((lit_beq op _ opMi rfl).trans (decide_eq_true h3))
    ·have q3 : (op.toList == [109, 105, 110]) = false := (lit_beq op _ opMi rfl).trans (decide_eq_false h3)
     by_cases h4 : op = opMa
     ·rw [if_pos (.inr h4)]
      exact aggT_max op col nm SA c n cs hn hl w h (lh hm) q5 i hp t ht q2 q3 ((lit_beq op _ opMa rfl).trans (decide_eq_true h4))
     ·rw [if_neg (fun q => q.elim h3 h4)]
      exact aggT_count op col nm SA c n cs hn hl w h (lh hm) q5 i hp t ht q2 q3 ((lit_beq op _ opMa rfl).trans (decide_eq_false h4))
end
section
open Go.RowKit
def gnL (cs acc : List CD) : List ByteArray -> Option (List CD)
 | [] => some acc
 | n :: r => match placeV cs n with
  | none => none
  | some i => gnL cs (acc ++ [cs.getD i ⟨⟨#[]⟩, 0⟩]) r
def gaL (cs acc : List CD) : List AG -> Int × List CD
 | [] => (0, acc)
 | a :: r => if (aggV cs a).2 = 0 then gaL cs (acc ++ [⟨a.name, (aggV cs a).1⟩]) r else ((aggV cs a).2, [])
def groupV (cs : List CD) (names : List ByteArray) (aggs : List AG) : Int × List CD := match gnL cs [] names with
 | none => (13, [])
 | some l => gaL cs l aggs
theorem gnL_step (cs acc : List CD) (l : List ByteArray) (k : Nat) (h : k < l.length) : gnL cs acc (l.drop k) = match placeV cs l[k] with
  | none => none
  | some i => gnL cs (acc ++ [cs.getD i ⟨⟨#[]⟩, 0⟩]) (l.drop (k + 1)) := by
 rw [List.drop_eq_getElem_cons h]; rfl
theorem gaL_step (cs acc : List CD) (l : List AG) (k : Nat) (h : k < l.length) : gaL cs acc (l.drop k) = if (aggV cs l[k]).2 = 0 then gaL cs (acc ++ [⟨l[k].name, (aggV cs l[k]).1⟩]) (l.drop (k + 1)) else ((aggV cs l[k]).2, []) := by
 rw [List.drop_eq_getElem_cons h]; rfl
def SchPost (v : Int × List CD) (w : World) (e : Ending) (w' : World) : Prop := ∃ A c, e = .returned (.tuple #[.slice A v.2.length c, .int .i64 v.1]) /\ Made 29 2 cdE v.2 A c w w'
theorem SchPost.err {w w' : World} (k : Int) (ht : Touch [] w w') : SchPost (k, []) w (.returned (.tuple #[.slice none 0 0, .int .i64 k])) w' := ⟨none, 0, rfl, (Made.nil _ _ _ _).touch0 ht⟩
theorem groupSchema_any (x : PC) (names : List ByteArray) (aggs : List AG) (hnn : x.names.n = names.length) (han : x.aggs.n = aggs.length) (SA : Option Addr) (c1 n1 : Nat) (a : List CD) (h1 : a.length = n1) (hl1 : n1 <= 1000000) (hln : names.length <= 100000) (hla : aggs.length <= 100000) (w : World)
  (hr : RdK btE w x.names.A names) (hg : RdK agE w x.aggs.A aggs) (ha : ColsAt w SA a) :
  Calls Tryz.prog 92 #[x.val, .slice SA n1 c1] w (SchPost (groupV a names aggs) w) := by
 subst h1
 have Hv := lh (show groupV a names aggs = match gnL a [] names with | none => (13, []) | some l => gaL a l aggs from rfl)
 obtain ⟨V, hV⟩ : ∃ V, V = groupV a names aggs := ⟨_, rfl⟩
 rw [<- hV] at Hv ⊢
 clear hV
 have HRD := lh (And.intro hr (And.intro hg ha))
 obtain ⟨k0, k1, ⟨A2, n2, c2'⟩, ⟨⟨ck, cn, ⟨cvk, cvn, cvt⟩, cop⟩, CA, cnn, cc⟩, ⟨NA, nn, nc⟩, ⟨EA, en, ec⟩, ⟨OA, ol, oc⟩, ⟨GA, gn, gc⟩, ⟨BA, bn, bc⟩, count⟩ := x
 simp only [PC.val] at *
 subst hnn han
 obtain ⟨W, hW⟩ : ∃ W, W = w.alloc (.cells #[.int .i64 k0, .string k1, .slice A2 n2 c2', .int .i64 ck, .string cn, .int .i64 cvk, .int .i64 cvn, .string cvt, .string cop, .slice CA cnn cc, .slice NA names.length nc, .slice EA en ec, .slice OA ol oc, .slice GA aggs.length gc, .slice BA bn bc, .int .i64 count] 49) := ⟨_, rfl⟩
 have t0 : Touch [] w W := hW ▸ (Touch.refl [] w).alloc _
 have hb0 := hW ▸ heap_alloc_new w (.cells #[.int .i64 k0, .string k1, .slice A2 n2 c2', .int .i64 ck, .string cn, .int .i64 cvk, .int .i64 cvn, .string cvt, .string cop, .slice CA cnn cc, .slice NA names.length nc, .slice EA en ec, .slice OA ol oc, .slice GA aggs.length gc, .slice BA bn bc, .int .i64 count] 49)
 have c10 : W.cell? ⟨w.heap.size, 10, none⟩ = some (.slice NA names.length nc) := cell_blk hb0 rfl
 have c13 : W.cell? ⟨w.heap.size, 13, none⟩ = some (.slice GA aggs.length gc) := cell_blk hb0 rfl
 have HW := lh hW
 have HT0 := lh (And.intro t0 c13)
 have HRW := lh (And.intro (hr.touch0 t0) (And.intro (hg.touch0 t0) (ha.touch0 t0)))
 clear t0 hb0 hW c13 hr hg ha
 go_enter Tryz.func92, Tryz.ntmps92
 go_wp2_with fail
 rw [<- HW.out]
 go_loopw [6, 18] (fun o i wr => ∃ (k : Nat) (A : Option Addr) (c : Nat) (acc : List CD), k <= names.length /\ i = .int .i64 k /\ o = .slice A k c /\ Hid (acc.length = k) /\ Hid (gnL a [] names = gnL a acc (names.drop k)) /\ Hid (Made 29 2 cdE acc A c W wr)) (fun _ i _ => names.length - (intOf i).toNat)
 case atStart => exact ⟨0, none, 0, [], by omega, rfl, rfl, lh rfl, lh (by rw [List.drop_zero]), lh (Made.nil _ _ _ _)⟩
 case round =>
  obtain ⟨k, A, c, acc, hk, rfl, rfl, HL, Hd, HM⟩ := hrel
  by_cases hlt : k < names.length
  ·obtain ⟨ad, b1, o1, rfl, hadd, hc⟩ := RdK.cells (HRW.out.1.touch0 HM.out.t) 1 btE_length (by omega) k hlt
   rw [Nat.mul_one] at hadd
   have e0 := hc 0 _ rfl
   rw [Nat.add_zero] at e0
   have hst := gnL_step a acc names k hlt
   obtain ⟨p, hp⟩ : ∃ p, p = names[k] := ⟨_, rfl⟩
   rw [<- hp] at hst e0
   have hfa := fun w' (t : Touch [] W w') => findC_any SA c1 a.length a rfl p w' (HRW.out.2.2.touch0 t) (by omega)
   have hkn : (k : Int) < (names.length : Int) := by omega
   rcases hpa : placeV a p with _ | i
   ·rw [hpa] at hfa
    have Hq2 := lh (show V = (13, []) by rw [Hv.out, Hd.out, hst, hpa])
    have Hfa := lh (hfa _ HM.out.t)
    clear hfa hpa hst hc hp
    go_wp2_with fail
    refine Hfa.out.mono ?_
    rintro e w1 ⟨rfl, t1⟩
    go_wp2
    go_ret2
    rw [Hq2.out]
    exact SchPost.err 13 ((HT0.out.1.trans0 HM.out.t).trans0 t1)
   ·rw [hpa] at hfa
    have hil := placeV_lt hpa
    obtain ⟨ad2, b2, o2, rfl, hadd2, e2, e3⟩ := (HRW.out.2.2.touch0 HM.out.t).at_ i hil
    have hts : gnL a acc (names.drop k) = gnL a (acc ++ [a[i]]) (names.drop (k + 1)) := by
     rw [hst, hpa]; simp [hil]
    obtain ⟨cd, hcd⟩ : ∃ cd, cd = a[i] := ⟨_, rfl⟩
    rw [<- hcd] at e2 e3 hts
    obtain ⟨cnm, cty⟩ := cd
    have hi0 : (0 : Int) <= (i : Int) := by omega
    have hin : (i : Int) < (a.length : Int) := by omega
    have Hn := lh (show gnL a [] names = gnL a (acc ++ [⟨cnm, cty⟩]) (names.drop (k + 1)) by rw [Hd.out, hts])
    have Hfa := lh (hfa _ HM.out.t)
    clear hfa hpa hst hc hp hts hcd
    go_wp2_with fail
    refine Hfa.out.mono ?_
    rintro e w1 ⟨rfl, t1⟩
    have e2' := t1.cell e2 (by simp)
    have e3' := t1.cell e3 (by simp)
    have HM1 := lh (HM.out.touch0 t1)
    clear t1 HM
    go_wp2_with (at_builtin; refine stop ?_)
    refine go ?_
    have ta := (Touch.refl [] w1).alloc (.cells #[.string cnm, .int .i64 cty] 29)
    refine wpList_appK (enc := cdE) rfl (.tmp 30) (.tmp 35) 24 rfl 29 _ 2 24 info_c5 Tryz.underlying24 rfl (by omega) cdE_length cdE_one A k c acc HL.out rfl (HM1.out.touch0 ta).own
     (some ⟨w1.heap.size, 0, none⟩) 1 1 [⟨cnm, cty⟩] rfl rfl (RdK.one (enc := cdE) w1 29 ⟨cnm, cty⟩ _ rfl) (by omega) (by omega) ?_
    intro A' c' w' hown ht hf
    have HX := lh ((HM1.out.touch0 ta).step hown ht hf)
    clear hown ht hf ta
    go_wp2_with fail
    go_roundw
    case rel => exact ⟨k + 1, A', c', acc ++ [⟨cnm, cty⟩], by omega, by go_num, rfl, lh (by rw [List.length_append, HL.out]; rfl), Hn, HX⟩
    case measure => simp [intOf]; omega
  ·obtain rfl : k = names.length := by omega
   have Hl := lh (show V = gaL a acc (aggs.drop 0) by rw [Hv.out, Hd.out, List.drop_length, List.drop_zero]; rfl)
   have d13 := HM.out.t.cell HT0.out.2 (by simp)
   clear Hd Hv
   go_wp2_with fail
   go_loopw [6, 41] (fun o i w1 => ∃ (j m : Nat) (A : Option Addr) (c : Nat) (acc : List CD), j <= aggs.length /\ m <= 200000 /\ i = .int .i64 j /\ o = .slice A m c /\ Hid (acc.length = m /\ m = names.length + j) /\ Hid (V = gaL a acc (aggs.drop j)) /\ Hid (Made 29 2 cdE acc A c W w1)) (fun _ i _ => aggs.length - (intOf i).toNat)
   case atStart => exact ⟨0, names.length, A, c, acc, by omega, by omega, rfl, rfl, lh ⟨HL.out, rfl⟩, Hl, HM⟩
   case round =>
    clear Hl HM HL hlt d13
    obtain ⟨j, m, A, c, acc, hj, hmb, rfl, rfl, HL, Hd, HM⟩ := hrel
    by_cases hlt : j < aggs.length
    ·obtain ⟨ad, b1, o1, rfl, hadd, hc⟩ := RdK.cells (HRW.out.2.1.touch0 HM.out.t) 3 agE_length (by omega) j hlt
     have hst := gaL_step a acc aggs j hlt
     obtain ⟨p, hp⟩ : ∃ p, p = aggs[j] := ⟨_, rfl⟩
     rw [<- hp] at hst hc
     have e0 := hc 0 _ rfl
     have e1 := hc 1 _ rfl
     have e2 := hc 2 _ rfl
     rw [Nat.add_zero] at e0
     have hag := fun w' (t : Touch [] W w') => agg_any p SA c1 a.length a rfl (by omega) w' (HRW.out.2.2.touch0 t)
     obtain ⟨op, col, nm⟩ := p
     dsimp only at e0 e1 e2 hag hst
     have ta := (Touch.refl [] wr).alloc (.cells #[.string op, .string col, .string nm] 79)
     have hbl := heap_alloc_new wr (.cells #[.string op, .string col, .string nm] 79)
     obtain ⟨g, hg⟩ : ∃ g, g = aggV a ⟨op, col, nm⟩ := ⟨_, rfl⟩
     rw [<- hg] at hag hst
     obtain ⟨ty, er⟩ := g
     dsimp only at hag hst
     have hkn : (j : Int) < (aggs.length : Int) := by omega
     have Hag := lh (hag _ (HM.out.t.trans0 ta))
     have HTa := lh (And.intro ta hbl)
     by_cases her : er = 0
     ·subst her
      have Hn := lh (show V = gaL a (acc ++ [⟨nm, ty⟩]) (aggs.drop (j + 1)) by rw [Hd.out, hst, if_pos rfl])
      clear hag hst hc hp hg ta hbl
      go_wp2_with fail
      refine Hag.out.mono ?_
      rintro e w1 ⟨rfl, t1⟩
      obtain ⟨g0, g1, g2, _, _, _⟩ := blk3 (t1.blk HTa.out.2 (by simp))
      have HM1 := lh ((HM.out.touch0 HTa.out.1).touch0 t1)
      clear t1 HM
      go_wp2_with (at_builtin; refine stop ?_)
      refine go ?_
      have ta := (Touch.refl [] w1).alloc (.cells #[.string nm, .int .i64 ty] 29)
      refine wpList_appK (enc := cdE) rfl (.tmp 54) (.tmp 59) 24 rfl 29 _ 2 24 info_c5 Tryz.underlying24 rfl (by omega) cdE_length cdE_one A m c acc HL.out.1 rfl (HM1.out.touch0 ta).own
       (some ⟨w1.heap.size, 0, none⟩) 1 1 [⟨nm, ty⟩] rfl rfl (RdK.one (enc := cdE) w1 29 ⟨nm, ty⟩ _ rfl) (by omega) (by omega) ?_
      intro A' c' w' hown ht hf
      have HX := lh ((HM1.out.touch0 ta).step hown ht hf)
      clear hown ht hf ta
      go_wp2_with fail
      go_roundw
      case rel => exact ⟨j + 1, m + 1, A', c', acc ++ [⟨nm, ty⟩], by omega, by have := HL.out.2; omega, by go_num, rfl, lh ⟨by rw [List.length_append, HL.out.1]; rfl, by rw [HL.out.2]; omega⟩, Hn, HX⟩
      case measure => simp [intOf]; omega
     ·have Hn := lh (show V = (er, []) by rw [Hd.out, hst, if_neg her])
      have hq : (er == 0) = false := by rw [beq_eq_false_iff_ne]; exact her
      have hq' : (er != 0) = true := by rw [bne, hq]; rfl
      clear hag hst hc hp hg ta hbl
      go_wp2_with fail
      refine Hag.out.mono ?_
      rintro e w1 ⟨rfl, t1⟩
      go_wp2
      go_ret2
      rw [Hn.out]
      exact SchPost.err er (((HT0.out.1.trans0 HM.out.t).trans0 HTa.out.1).trans0 t1)
    ·obtain rfl : j = aggs.length := by omega
     have Hn := lh (show V = (0, acc) by rw [Hd.out, List.drop_length]; rfl)
     clear Hd
     go_wp2
     go_ret2
     rw [Hn.out]
     obtain ⟨hm1, _⟩ := HL.out
     subst hm1
     exact ⟨A, c, rfl, HM.out.own, HT0.out.1.trans0 HM.out.t, fun b hb => Nat.le_trans HT0.out.1.size (HM.out.f b hb)⟩
end
section
open Go.RowKit
theorem info_col : (Tryz.prog.info? 29).map (fun i => (i.zero, i.size, i.bytes)) = some (some (.agg #[.string ⟨#[]⟩, .int .i64 0]), 2, 24) := info_c5
theorem OwnK.room {α : Type} (t k : Nat) (enc : α -> List Value) (w : World) (c : Nat) (cells : Array Value) (hm : c <= maxLen) (hr : cells.size = c * k) : OwnK t k enc (w.alloc (.cells cells t)) (some ⟨w.heap.size, 0, none⟩) c [] :=
 ⟨by simp, .inr ⟨w.heap.size, c, cells, rfl, Nat.zero_le _, heap_alloc_new w _, Nat.zero_le _, hm, by rw [hr], by simp⟩⟩
theorem growC_any (n : Nat) (hn : n <= 1000000) (w : World) :
  Calls Tryz.prog 129 #[.slice none 0 0, .int .i64 n] w fun e w' => ∃ A c, e = .returned (.slice A 0 c) /\ Made 29 2 cdE [] A c w w' := by
 obtain ⟨i0, hi0, hz0, hz1, hz2⟩ := info_parts info_col
 go_enter Tryz.func129, Tryz.ntmps129
 by_cases h0 : n = 0
 ·subst h0
  go_wp2
  go_ret
  exact ⟨none, 0, rfl, Made.nil _ _ _ _⟩
 ·have hn0 : 0 < n := by omega
  have hge := grownCap_ge w n 0 29
  have hle := grownCap_le_maxLen w n 0 29 (by simp only [maxLen]; omega)
  have hold : (Builtin.firstCells i0.size 0 (.slice none 0 0)).run Tryz.prog w.drew = .ok ([] : List Value).toArray w.drew := run_firstCells_none w.drew i0.size 0 0 0
  have hrz : ∀ ty, (Builtin.append_ #[24, 3] ty #[.slice none 0 0, .int .i64 (n : Int)]).run Tryz.prog w = _ := fun ty =>
   Lib.run_append_grow_zeros w 24 3 ty 29 i0 (.agg #[.string ⟨#[]⟩, .int .i64 0]) .i64 .i64 Tryz.underlying24 Tryz.underlying3 hi0 hz0 none 0 0 [] hold n hn0 (by omega) (by omega) (by omega)
    (by rw [hz2]; omega) (by rw [hz2]; exact growslice_fits (by omega) (by omega))
  simp only [Nat.zero_add] at hrz
  have hsz : (([] : List Value).toArray ++ Builtin.zeroCells (Value.agg #[.string ⟨#[]⟩, .int .i64 0]).cells n ++ Builtin.zeroCells (Value.agg #[.string ⟨#[]⟩, .int .i64 0]).cells (grownCap w n 0 29 - n)).size = grownCap w n 0 29 * 2 := by
   rw [Array.size_append, Array.size_append, size_zeroCells, size_zeroCells]
   simp [Value.cells]
   omega
  have hcut := OwnK.room 29 2 cdE w.drew (grownCap w n 0 29) _ hle hsz
  obtain ⟨W, hW⟩ : ∃ W, W = w.drew.alloc (.cells (([] : List Value).toArray ++ Builtin.zeroCells (Value.agg #[.string ⟨#[]⟩, .int .i64 0]).cells n ++ Builtin.zeroCells (Value.agg #[.string ⟨#[]⟩, .int .i64 0]).cells (grownCap w n 0 29 - n)) 29) := ⟨_, rfl⟩
  obtain ⟨G, hG⟩ : ∃ G, G = grownCap w n 0 29 := ⟨_, rfl⟩
  have tW : Touch [] w W := by rw [hW]; exact ((Touch.refl [] w).drew).alloc _
  rw [<- hW] at hrz hcut
  rw [<- hG] at hrz hcut hge hle
  have hws : w.drew.heap.size = w.heap.size := rfl
  rw [hws] at hcut
  unfold maxLen at hle
  clear hW hG hold hsz hws
  go_wp2_with (at_builtin; refine Lib.wpList_append_run _ rfl _ _ _ _ rfl _ _ rfl rfl _ _ (hrz _) ?_)
  go_ret
  exact ⟨_, G, rfl, hcut, tW, by simp [fpo]⟩
theorem concatC_any (A1 A2 : Option Addr) (n1 n2 c1 c2 : Nat) (l1 l2 : List CD) (e1 : l1.length = n1) (e2 : l2.length = n2) (h1 : n1 <= 1000) (h2 : n2 <= 1000) (k1 : n1 <= c1) (k2 : n2 <= c2) (w : World) (r1 : ColsAt w A1 l1) (r2 : ColsAt w A2 l2) :
  Calls Tryz.prog 90 #[.slice (some ⟨w.heap.size, 0, none⟩) 2 2] (w.alloc (.cells #[.slice A1 n1 c1, .slice A2 n2 c2] 24)) fun e w' =>
   ∃ A c, e = .returned (.slice A (l1 ++ l2).length c) /\ Made 29 2 cdE (l1 ++ l2) A c w w' := by
 subst e1 e2
 have t0 := (Touch.refl [] w).alloc (.cells #[.slice A1 l1.length c1, .slice A2 l2.length c2] 24)
 have hb := heap_alloc_new w (.cells #[.slice A1 l1.length c1, .slice A2 l2.length c2] 24)
 obtain ⟨W, hW⟩ : ∃ W, W = w.alloc (.cells #[.slice A1 l1.length c1, .slice A2 l2.length c2] 24) := ⟨_, rfl⟩
 have hWs : w.heap.size < W.heap.size := by rw [hW, World.size_alloc]; omega
 rw [<- hW] at t0 hb ⊢
 have d0 := cell_blk hb (i := 0) rfl
 have d1 := cell_blk hb (i := 1) rfl
 have hlen : (l1 ++ l2).length = l1.length + l2.length := List.length_append
 have Hlen := lh hlen
 clear hW hlen
 go_enter Tryz.func90, Tryz.ntmps90
 go_wp2
 refine wp_loop_rounds 3 ?_
 rw [rounds_succ]
 go_wp2
 rw [rounds_succ]
 go_wp2
 rw [rounds_succ]
 go_wp2_with fail
 have hgr := growC_any (l1.length + l2.length) (by omega) W
 rw [Int.natCast_add] at hgr
 refine hgr.mono ?_
 rintro e w1 ⟨A3, c3, rfl, hm3⟩
 have b1 := hm3.t.blk hb (by simp)
 have f0 := cell_blk b1 (i := 0) rfl
 have f1 := cell_blk b1 (i := 1) rfl
 have T1 := t0.trans0 hm3.t
 go_wp2_with fail
 refine wp_loop_rounds 3 ?_
 rw [rounds_succ]
 go_wp2_with (at_builtin; refine stop ?_)
 refine go ?_
 refine wpList_appK rfl (.tmp 31) (.tmp 32) 24 rfl 29 _ 2 24 info_col Tryz.underlying24 rfl (by omega) cdE_length cdE_one A3 0 c3 [] rfl rfl hm3.own
  A1 l1.length c1 l1 rfl rfl (r1.touch0 T1) (by omega) (by omega) ?_
 intro A4 c4 w4 hown4 ht4 hf4
 have hm4 := hm3.step hown4 ht4 hf4
 have b4 := hm4.t.blk hb (by simp)
 have g0 := cell_blk b4 (i := 0) rfl
 have g1 := cell_blk b4 (i := 1) rfl
 rw [List.nil_append] at hm4
 go_wp2_with fail
 rw [rounds_succ]
 go_wp2_with (at_builtin; refine stop ?_)
 refine go ?_
 refine wpList_appK rfl (.tmp 31) (.tmp 32) 24 rfl 29 _ 2 24 info_col Tryz.underlying24 rfl (by omega) cdE_length cdE_one A4 l1.length c4 l1 rfl rfl hm4.own
  A2 l2.length c2 l2 rfl rfl (r2.touch0 (t0.trans0 hm4.t)) (by omega) (by omega) ?_
 intro A5 c5 w5 hown5 ht5 hf5
 have hm5 := hm4.step hown5 ht5 hf5
 go_wp2_with fail
 rw [rounds_succ]
 go_wp2
 go_ret
 exact ⟨A5, c5, ret_slice Hlen.out.symm, hm5.own, t0.trans0 hm5.t, fun b hb => by have := hm5.f b hb; omega⟩
end
end Go.Proofs.YtafoklilkdnepaaGreatDoor
