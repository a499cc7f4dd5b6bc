/- Part 7 of the texts of this proof, one behind the other; each begins with its own sentence. No condition beyond those that its theorems state. -/
import Derived.Test.YtafoklilkdnepaaGreatDoorRm6
import Derived.Deep.RegionHeld3
/- relop.Agg.typed: the type of what is reckoned of a group. For every agg and schema. (gen_rlagg.py) -/
namespace Go.Proofs.YtafoklilkdnepaaGreatDoor
open Go.RowKit

def opC : ByteArray := ⟨#[99, 111, 117, 110, 116]⟩
def opS : ByteArray := ⟨#[115, 117, 109]⟩
def opMi : ByteArray := ⟨#[109, 105, 110]⟩
def opMa : ByteArray := ⟨#[109, 97, 120]⟩
def opsL : List ByteArray := [⟨#[99, 111, 117, 110, 116]⟩, ⟨#[115, 117, 109]⟩, ⟨#[109, 105, 110]⟩, ⟨#[109, 97, 120]⟩]

set_option maxRecDepth 20000 in
set_option maxHeartbeats 3200000 in
theorem aggT_form (op col nm : ByteArray) (SA : Option Addr) (c n : Nat) (cs : List CD) (hn : cs.length = n) (hl : n ≤ 1000000) (w : World) (h : ColsAt w SA cs) (HM : Hid (memS opsL op = false)) :
    Calls Tryz.prog 131 #[.agg #[.string op, .string col, .string nm], .slice SA n c] w fun e w' => e = .returned (.tuple #[.int .i64 0, .int .i64 20]) ∧ Touch [] w w' := by
  have Hc := Lib.hid fun w' (t : Touch [] w w') A (h : RdK btE w' A opsL) => containsS_any A 4 4 opsL rfl op w' h (by omega)
  have t0 := (Touch.refl [] w).alloc (.cells #[.string op, .string col, .string nm] 79)
  have hb0 := heap_alloc_new w (.cells #[.string op, .string col, .string nm] 79)
  have tb := t0.alloc (.cells #[.string ⟨#[99, 111, 117, 110, 116]⟩, .string ⟨#[115, 117, 109]⟩, .string ⟨#[109, 105, 110]⟩, .string ⟨#[109, 97, 120]⟩] 9)
  have hb1 := ((Touch.refl [] (w.alloc (.cells #[.string op, .string col, .string nm] 79))).alloc (.cells #[.string ⟨#[99, 111, 117, 110, 116]⟩, .string ⟨#[115, 117, 109]⟩, .string ⟨#[109, 105, 110]⟩, .string ⟨#[109, 97, 120]⟩] 9)).blk hb0 (by simp)
  have hrd := RdK.row (enc := btE) (w.alloc (.cells #[.string op, .string col, .string nm] 79)) 9 opsL #[.string ⟨#[99, 111, 117, 110, 116]⟩, .string ⟨#[115, 117, 109]⟩, .string ⟨#[109, 105, 110]⟩, .string ⟨#[109, 97, 120]⟩] rfl
  rw [World.size_alloc] at hrd
  have HB := Lib.hid (And.intro tb (And.intro hb1 hrd))
  have hfd := fun w' (t : Touch [] w w') => findC_any SA c n cs hn col w' (h.touch0 t) (by omega)
  clear t0 hb0 tb hb1 hrd hfd hn h
  go_enter Tryz.func131, Tryz.ntmps131
  go_wp2_with fail
  refine (Hc.out _ HB.out.1 _ HB.out.2.2).mono ?_
  rintro e w1 ⟨rfl, t1⟩
  rw [HM.out]
  obtain ⟨d0, d1, d2, _, _, _⟩ := blk3 (t1.blk HB.out.2.1 (by simp))
  have HT := Lib.hid (And.intro (HB.out.1.trans0 t1) (t1.blk HB.out.2.1 (by simp)))
  clear t1
  go_wp2
  go_ret2
  exact ⟨rfl, HT.out.1⟩

set_option maxRecDepth 20000 in
set_option maxHeartbeats 3200000 in
theorem aggT_form2 (op col nm : ByteArray) (SA : Option Addr) (c n : Nat) (cs : List CD) (hn : cs.length = n) (hl : n ≤ 1000000) (w : World) (h : ColsAt w SA cs) (HM : Hid (memS opsL op = true)) (q5 : col.toList.isEmpty = true) (q1 : (op.toList == [99, 111, 117, 110, 116]) = false) :
    Calls Tryz.prog 131 #[.agg #[.string op, .string col, .string nm], .slice SA n c] w fun e w' => e = .returned (.tuple #[.int .i64 0, .int .i64 20]) ∧ Touch [] w w' := by
  have Hc := Lib.hid fun w' (t : Touch [] w w') A (h : RdK btE w' A opsL) => containsS_any A 4 4 opsL rfl op w' h (by omega)
  have t0 := (Touch.refl [] w).alloc (.cells #[.string op, .string col, .string nm] 79)
  have hb0 := heap_alloc_new w (.cells #[.string op, .string col, .string nm] 79)
  have tb := t0.alloc (.cells #[.string ⟨#[99, 111, 117, 110, 116]⟩, .string ⟨#[115, 117, 109]⟩, .string ⟨#[109, 105, 110]⟩, .string ⟨#[109, 97, 120]⟩] 9)
  have hb1 := ((Touch.refl [] (w.alloc (.cells #[.string op, .string col, .string nm] 79))).alloc (.cells #[.string ⟨#[99, 111, 117, 110, 116]⟩, .string ⟨#[115, 117, 109]⟩, .string ⟨#[109, 105, 110]⟩, .string ⟨#[109, 97, 120]⟩] 9)).blk hb0 (by simp)
  have hrd := RdK.row (enc := btE) (w.alloc (.cells #[.string op, .string col, .string nm] 79)) 9 opsL #[.string ⟨#[99, 111, 117, 110, 116]⟩, .string ⟨#[115, 117, 109]⟩, .string ⟨#[109, 105, 110]⟩, .string ⟨#[109, 97, 120]⟩] rfl
  rw [World.size_alloc] at hrd
  have HB := Lib.hid (And.intro tb (And.intro hb1 hrd))
  have hfd := fun w' (t : Touch [] w w') => findC_any SA c n cs hn col w' (h.touch0 t) (by omega)
  clear t0 hb0 tb hb1 hrd hfd hn h
  go_enter Tryz.func131, Tryz.ntmps131
  go_wp2_with fail
  refine (Hc.out _ HB.out.1 _ HB.out.2.2).mono ?_
  rintro e w1 ⟨rfl, t1⟩
  rw [HM.out]
  obtain ⟨d0, d1, d2, _, _, _⟩ := blk3 (t1.blk HB.out.2.1 (by simp))
  have HT := Lib.hid (And.intro (HB.out.1.trans0 t1) (t1.blk HB.out.2.1 (by simp)))
  clear t1
  go_wp2
  go_ret2
  exact ⟨rfl, HT.out.1⟩

set_option maxRecDepth 20000 in
set_option maxHeartbeats 3200000 in
theorem aggT_rows (op col nm : ByteArray) (SA : Option Addr) (c n : Nat) (cs : List CD) (hn : cs.length = n) (hl : n ≤ 1000000) (w : World) (h : ColsAt w SA cs) (HM : Hid (memS opsL op = true)) (q5 : col.toList.isEmpty = true) (q1 : (op.toList == [99, 111, 117, 110, 116]) = true) :
    Calls Tryz.prog 131 #[.agg #[.string op, .string col, .string nm], .slice SA n c] w fun e w' => e = .returned (.tuple #[.int .i64 1, .int .i64 0]) ∧ Touch [] w w' := by
  have Hc := Lib.hid fun w' (t : Touch [] w w') A (h : RdK btE w' A opsL) => containsS_any A 4 4 opsL rfl op w' h (by omega)
  have t0 := (Touch.refl [] w).alloc (.cells #[.string op, .string col, .string nm] 79)
  have hb0 := heap_alloc_new w (.cells #[.string op, .string col, .string nm] 79)
  have tb := t0.alloc (.cells #[.string ⟨#[99, 111, 117, 110, 116]⟩, .string ⟨#[115, 117, 109]⟩, .string ⟨#[109, 105, 110]⟩, .string ⟨#[109, 97, 120]⟩] 9)
  have hb1 := ((Touch.refl [] (w.alloc (.cells #[.string op, .string col, .string nm] 79))).alloc (.cells #[.string ⟨#[99, 111, 117, 110, 116]⟩, .string ⟨#[115, 117, 109]⟩, .string ⟨#[109, 105, 110]⟩, .string ⟨#[109, 97, 120]⟩] 9)).blk hb0 (by simp)
  have hrd := RdK.row (enc := btE) (w.alloc (.cells #[.string op, .string col, .string nm] 79)) 9 opsL #[.string ⟨#[99, 111, 117, 110, 116]⟩, .string ⟨#[115, 117, 109]⟩, .string ⟨#[109, 105, 110]⟩, .string ⟨#[109, 97, 120]⟩] rfl
  rw [World.size_alloc] at hrd
  have HB := Lib.hid (And.intro tb (And.intro hb1 hrd))
  have hfd := fun w' (t : Touch [] w w') => findC_any SA c n cs hn col w' (h.touch0 t) (by omega)
  have Hf := Lib.hid hfd
  clear t0 hb0 tb hb1 hrd hfd hn h
  go_enter Tryz.func131, Tryz.ntmps131
  go_wp2_with fail
  refine (Hc.out _ HB.out.1 _ HB.out.2.2).mono ?_
  rintro e w1 ⟨rfl, t1⟩
  rw [HM.out]
  obtain ⟨d0, d1, d2, _, _, _⟩ := blk3 (t1.blk HB.out.2.1 (by simp))
  have HT := Lib.hid (And.intro (HB.out.1.trans0 t1) (t1.blk HB.out.2.1 (by simp)))
  clear t1
  go_wp2_with fail
  refine (Hf.out _ HT.out.1).mono ?_
  rintro e w2 ⟨rfl, t2⟩
  obtain ⟨f0, f1, f2, _, _, _⟩ := blk3 (t2.blk HT.out.2 (by simp))
  have HT2 := Lib.hid (HT.out.1.trans0 t2)
  clear t2
  go_wp2
  go_ret2
  exact ⟨rfl, HT2.out⟩

set_option maxRecDepth 20000 in
set_option maxHeartbeats 3200000 in
theorem aggT_name (op col nm : ByteArray) (SA : Option Addr) (c n : Nat) (cs : List CD) (hn : cs.length = n) (hl : n ≤ 1000000) (w : World) (h : ColsAt w SA cs) (HM : Hid (memS opsL op = true)) (q5 : col.toList.isEmpty = false) (hp : placeV cs col = none) :
    Calls Tryz.prog 131 #[.agg #[.string op, .string col, .string nm], .slice SA n c] w fun e w' => e = .returned (.tuple #[.int .i64 0, .int .i64 13]) ∧ Touch [] w w' := by
  have Hc := Lib.hid fun w' (t : Touch [] w w') A (h : RdK btE w' A opsL) => containsS_any A 4 4 opsL rfl op w' h (by omega)
  have t0 := (Touch.refl [] w).alloc (.cells #[.string op, .string col, .string nm] 79)
  have hb0 := heap_alloc_new w (.cells #[.string op, .string col, .string nm] 79)
  have tb := t0.alloc (.cells #[.string ⟨#[99, 111, 117, 110, 116]⟩, .string ⟨#[115, 117, 109]⟩, .string ⟨#[109, 105, 110]⟩, .string ⟨#[109, 97, 120]⟩] 9)
  have hb1 := ((Touch.refl [] (w.alloc (.cells #[.string op, .string col, .string nm] 79))).alloc (.cells #[.string ⟨#[99, 111, 117, 110, 116]⟩, .string ⟨#[115, 117, 109]⟩, .string ⟨#[109, 105, 110]⟩, .string ⟨#[109, 97, 120]⟩] 9)).blk hb0 (by simp)
  have hrd := RdK.row (enc := btE) (w.alloc (.cells #[.string op, .string col, .string nm] 79)) 9 opsL #[.string ⟨#[99, 111, 117, 110, 116]⟩, .string ⟨#[115, 117, 109]⟩, .string ⟨#[109, 105, 110]⟩, .string ⟨#[109, 97, 120]⟩] rfl
  rw [World.size_alloc] at hrd
  have HB := Lib.hid (And.intro tb (And.intro hb1 hrd))
  have hfd := fun w' (t : Touch [] w w') => findC_any SA c n cs hn col w' (h.touch0 t) (by omega)
  rw [hp] at hfd
  have Hf := Lib.hid hfd
  clear hp
  clear t0 hb0 tb hb1 hrd hfd hn h
  go_enter Tryz.func131, Tryz.ntmps131
  go_wp2_with fail
  refine (Hc.out _ HB.out.1 _ HB.out.2.2).mono ?_
  rintro e w1 ⟨rfl, t1⟩
  rw [HM.out]
  obtain ⟨d0, d1, d2, _, _, _⟩ := blk3 (t1.blk HB.out.2.1 (by simp))
  have HT := Lib.hid (And.intro (HB.out.1.trans0 t1) (t1.blk HB.out.2.1 (by simp)))
  clear t1
  go_wp2_with fail
  refine (Hf.out _ HT.out.1).mono ?_
  rintro e w2 ⟨rfl, t2⟩
  obtain ⟨f0, f1, f2, _, _, _⟩ := blk3 (t2.blk HT.out.2 (by simp))
  have HT2 := Lib.hid (HT.out.1.trans0 t2)
  clear t2
  go_wp2
  go_ret2
  exact ⟨rfl, HT2.out⟩

set_option maxRecDepth 20000 in
set_option maxHeartbeats 3200000 in
theorem aggT_text (op col nm : ByteArray) (SA : Option Addr) (c n : Nat) (cs : List CD) (hn : cs.length = n) (hl : n ≤ 1000000) (w : World) (h : ColsAt w SA cs) (HM : Hid (memS opsL op = true)) (q5 : col.toList.isEmpty = false) (i : Nat) (hp : placeV cs col = some i) (t : Int) (ht : typO cs col = some t) (q2 : (op.toList == [115, 117, 109]) = true) (h2 : t = 2) :
    Calls Tryz.prog 131 #[.agg #[.string op, .string col, .string nm], .slice SA n c] w fun e w' => e = .returned (.tuple #[.int .i64 0, .int .i64 12]) ∧ Touch [] w w' := by
  have Hc := Lib.hid fun w' (t : Touch [] w w') A (h : RdK btE w' A opsL) => containsS_any A 4 4 opsL rfl op w' h (by omega)
  have t0 := (Touch.refl [] w).alloc (.cells #[.string op, .string col, .string nm] 79)
  have hb0 := heap_alloc_new w (.cells #[.string op, .string col, .string nm] 79)
  have tb := t0.alloc (.cells #[.string ⟨#[99, 111, 117, 110, 116]⟩, .string ⟨#[115, 117, 109]⟩, .string ⟨#[109, 105, 110]⟩, .string ⟨#[109, 97, 120]⟩] 9)
  have hb1 := ((Touch.refl [] (w.alloc (.cells #[.string op, .string col, .string nm] 79))).alloc (.cells #[.string ⟨#[99, 111, 117, 110, 116]⟩, .string ⟨#[115, 117, 109]⟩, .string ⟨#[109, 105, 110]⟩, .string ⟨#[109, 97, 120]⟩] 9)).blk hb0 (by simp)
  have hrd := RdK.row (enc := btE) (w.alloc (.cells #[.string op, .string col, .string nm] 79)) 9 opsL #[.string ⟨#[99, 111, 117, 110, 116]⟩, .string ⟨#[115, 117, 109]⟩, .string ⟨#[109, 105, 110]⟩, .string ⟨#[109, 97, 120]⟩] rfl
  rw [World.size_alloc] at hrd
  have HB := Lib.hid (And.intro tb (And.intro hb1 hrd))
  have hfd := fun w' (t : Touch [] w w') => findC_any SA c n cs hn col w' (h.touch0 t) (by omega)
  rw [hp] at hfd
  have Hf := Lib.hid hfd
  have hil := placeV_lt hp
  obtain ⟨ad2, b2, o2, rfl, hadd2, _, e3⟩ := h.at_ i hil
  have hts : cs[i].typ = t := by
    unfold typO at ht; rw [hp] at ht; simpa [hil] using ht
  rw [hts] at e3
  have hi0 : (0 : Int) ≤ (i : Int) := by omega
  have hin : (i : Int) < (n : Int) := by omega
  have E3 := Lib.hid e3
  clear hts ht e3
  subst h2
  clear hp
  clear t0 hb0 tb hb1 hrd hfd hn h
  go_enter Tryz.func131, Tryz.ntmps131
  go_wp2_with fail
  refine (Hc.out _ HB.out.1 _ HB.out.2.2).mono ?_
  rintro e w1 ⟨rfl, t1⟩
  rw [HM.out]
  obtain ⟨d0, d1, d2, _, _, _⟩ := blk3 (t1.blk HB.out.2.1 (by simp))
  have HT := Lib.hid (And.intro (HB.out.1.trans0 t1) (t1.blk HB.out.2.1 (by simp)))
  clear t1
  go_wp2_with fail
  refine (Hf.out _ HT.out.1).mono ?_
  rintro e w2 ⟨rfl, t2⟩
  obtain ⟨f0, f1, f2, _, _, _⟩ := blk3 (t2.blk HT.out.2 (by simp))
  have e3' := (HT.out.1.trans0 t2).cell E3.out (by simp)
  have HT2 := Lib.hid (HT.out.1.trans0 t2)
  clear t2
  go_wp2
  go_ret2
  exact ⟨rfl, HT2.out⟩

set_option maxRecDepth 20000 in
set_option maxHeartbeats 3200000 in
theorem aggT_sum (op col nm : ByteArray) (SA : Option Addr) (c n : Nat) (cs : List CD) (hn : cs.length = n) (hl : n ≤ 1000000) (w : World) (h : ColsAt w SA cs) (HM : Hid (memS opsL op = true)) (q5 : col.toList.isEmpty = false) (i : Nat) (hp : placeV cs col = some i) (t : Int) (ht : typO cs col = some t) (q2 : (op.toList == [115, 117, 109]) = true) (q3 : (op.toList == [109, 105, 110]) = false) (q4 : (op.toList == [109, 97, 120]) = false) (h2 : t ≠ 2) :
    Calls Tryz.prog 131 #[.agg #[.string op, .string col, .string nm], .slice SA n c] w fun e w' => e = .returned (.tuple #[.int .i64 1, .int .i64 0]) ∧ Touch [] w w' := by
  have Hc := Lib.hid fun w' (t : Touch [] w w') A (h : RdK btE w' A opsL) => containsS_any A 4 4 opsL rfl op w' h (by omega)
  have t0 := (Touch.refl [] w).alloc (.cells #[.string op, .string col, .string nm] 79)
  have hb0 := heap_alloc_new w (.cells #[.string op, .string col, .string nm] 79)
  have tb := t0.alloc (.cells #[.string ⟨#[99, 111, 117, 110, 116]⟩, .string ⟨#[115, 117, 109]⟩, .string ⟨#[109, 105, 110]⟩, .string ⟨#[109, 97, 120]⟩] 9)
  have hb1 := ((Touch.refl [] (w.alloc (.cells #[.string op, .string col, .string nm] 79))).alloc (.cells #[.string ⟨#[99, 111, 117, 110, 116]⟩, .string ⟨#[115, 117, 109]⟩, .string ⟨#[109, 105, 110]⟩, .string ⟨#[109, 97, 120]⟩] 9)).blk hb0 (by simp)
  have hrd := RdK.row (enc := btE) (w.alloc (.cells #[.string op, .string col, .string nm] 79)) 9 opsL #[.string ⟨#[99, 111, 117, 110, 116]⟩, .string ⟨#[115, 117, 109]⟩, .string ⟨#[109, 105, 110]⟩, .string ⟨#[109, 97, 120]⟩] rfl
  rw [World.size_alloc] at hrd
  have HB := Lib.hid (And.intro tb (And.intro hb1 hrd))
  have hfd := fun w' (t : Touch [] w w') => findC_any SA c n cs hn col w' (h.touch0 t) (by omega)
  rw [hp] at hfd
  have Hf := Lib.hid hfd
  have hil := placeV_lt hp
  obtain ⟨ad2, b2, o2, rfl, hadd2, _, e3⟩ := h.at_ i hil
  have hts : cs[i].typ = t := by
    unfold typO at ht; rw [hp] at ht; simpa [hil] using ht
  rw [hts] at e3
  have hi0 : (0 : Int) ≤ (i : Int) := by omega
  have hin : (i : Int) < (n : Int) := by omega
  have E3 := Lib.hid e3
  clear hts ht e3
  have h2q : (t == 2) = false := by rw [beq_eq_false_iff_ne]; exact h2
  clear hp
  clear t0 hb0 tb hb1 hrd hfd hn h
  go_enter Tryz.func131, Tryz.ntmps131
  go_wp2_with fail
  refine (Hc.out _ HB.out.1 _ HB.out.2.2).mono ?_
  rintro e w1 ⟨rfl, t1⟩
  rw [HM.out]
  obtain ⟨d0, d1, d2, _, _, _⟩ := blk3 (t1.blk HB.out.2.1 (by simp))
  have HT := Lib.hid (And.intro (HB.out.1.trans0 t1) (t1.blk HB.out.2.1 (by simp)))
  clear t1
  go_wp2_with fail
  refine (Hf.out _ HT.out.1).mono ?_
  rintro e w2 ⟨rfl, t2⟩
  obtain ⟨f0, f1, f2, _, _, _⟩ := blk3 (t2.blk HT.out.2 (by simp))
  have e3' := (HT.out.1.trans0 t2).cell E3.out (by simp)
  have HT2 := Lib.hid (HT.out.1.trans0 t2)
  clear t2
  go_wp2
  go_ret2
  exact ⟨rfl, HT2.out⟩

set_option maxRecDepth 20000 in
set_option maxHeartbeats 3200000 in
theorem aggT_min (op col nm : ByteArray) (SA : Option Addr) (c n : Nat) (cs : List CD) (hn : cs.length = n) (hl : n ≤ 1000000) (w : World) (h : ColsAt w SA cs) (HM : Hid (memS opsL op = true)) (q5 : col.toList.isEmpty = false) (i : Nat) (hp : placeV cs col = some i) (t : Int) (ht : typO cs col = some t) (q2 : (op.toList == [115, 117, 109]) = false) (q3 : (op.toList == [109, 105, 110]) = true) :
    Calls Tryz.prog 131 #[.agg #[.string op, .string col, .string nm], .slice SA n c] w fun e w' => e = .returned (.tuple #[.int .i64 t, .int .i64 0]) ∧ Touch [] w w' := by
  have Hc := Lib.hid fun w' (t : Touch [] w w') A (h : RdK btE w' A opsL) => containsS_any A 4 4 opsL rfl op w' h (by omega)
  have t0 := (Touch.refl [] w).alloc (.cells #[.string op, .string col, .string nm] 79)
  have hb0 := heap_alloc_new w (.cells #[.string op, .string col, .string nm] 79)
  have tb := t0.alloc (.cells #[.string ⟨#[99, 111, 117, 110, 116]⟩, .string ⟨#[115, 117, 109]⟩, .string ⟨#[109, 105, 110]⟩, .string ⟨#[109, 97, 120]⟩] 9)
  have hb1 := ((Touch.refl [] (w.alloc (.cells #[.string op, .string col, .string nm] 79))).alloc (.cells #[.string ⟨#[99, 111, 117, 110, 116]⟩, .string ⟨#[115, 117, 109]⟩, .string ⟨#[109, 105, 110]⟩, .string ⟨#[109, 97, 120]⟩] 9)).blk hb0 (by simp)
  have hrd := RdK.row (enc := btE) (w.alloc (.cells #[.string op, .string col, .string nm] 79)) 9 opsL #[.string ⟨#[99, 111, 117, 110, 116]⟩, .string ⟨#[115, 117, 109]⟩, .string ⟨#[109, 105, 110]⟩, .string ⟨#[109, 97, 120]⟩] rfl
  rw [World.size_alloc] at hrd
  have HB := Lib.hid (And.intro tb (And.intro hb1 hrd))
  have hfd := fun w' (t : Touch [] w w') => findC_any SA c n cs hn col w' (h.touch0 t) (by omega)
  rw [hp] at hfd
  have Hf := Lib.hid hfd
  have hil := placeV_lt hp
  obtain ⟨ad2, b2, o2, rfl, hadd2, _, e3⟩ := h.at_ i hil
  have hts : cs[i].typ = t := by
    unfold typO at ht; rw [hp] at ht; simpa [hil] using ht
  rw [hts] at e3
  have hi0 : (0 : Int) ≤ (i : Int) := by omega
  have hin : (i : Int) < (n : Int) := by omega
  have E3 := Lib.hid e3
  clear hts ht e3
  clear hp
  clear t0 hb0 tb hb1 hrd hfd hn h
  go_enter Tryz.func131, Tryz.ntmps131
  go_wp2_with fail
  refine (Hc.out _ HB.out.1 _ HB.out.2.2).mono ?_
  rintro e w1 ⟨rfl, t1⟩
  rw [HM.out]
  obtain ⟨d0, d1, d2, _, _, _⟩ := blk3 (t1.blk HB.out.2.1 (by simp))
  have HT := Lib.hid (And.intro (HB.out.1.trans0 t1) (t1.blk HB.out.2.1 (by simp)))
  clear t1
  go_wp2_with fail
  refine (Hf.out _ HT.out.1).mono ?_
  rintro e w2 ⟨rfl, t2⟩
  obtain ⟨f0, f1, f2, _, _, _⟩ := blk3 (t2.blk HT.out.2 (by simp))
  have e3' := (HT.out.1.trans0 t2).cell E3.out (by simp)
  have HT2 := Lib.hid (HT.out.1.trans0 t2)
  clear t2
  go_wp2
  go_ret2
  exact ⟨rfl, HT2.out⟩

set_option maxRecDepth 20000 in
set_option maxHeartbeats 3200000 in
theorem aggT_max (op col nm : ByteArray) (SA : Option Addr) (c n : Nat) (cs : List CD) (hn : cs.length = n) (hl : n ≤ 1000000) (w : World) (h : ColsAt w SA cs) (HM : Hid (memS opsL op = true)) (q5 : col.toList.isEmpty = false) (i : Nat) (hp : placeV cs col = some i) (t : Int) (ht : typO cs col = some t) (q2 : (op.toList == [115, 117, 109]) = false) (q3 : (op.toList == [109, 105, 110]) = false) (q4 : (op.toList == [109, 97, 120]) = true) :
    Calls Tryz.prog 131 #[.agg #[.string op, .string col, .string nm], .slice SA n c] w fun e w' => e = .returned (.tuple #[.int .i64 t, .int .i64 0]) ∧ Touch [] w w' := by
  have Hc := Lib.hid fun w' (t : Touch [] w w') A (h : RdK btE w' A opsL) => containsS_any A 4 4 opsL rfl op w' h (by omega)
  have t0 := (Touch.refl [] w).alloc (.cells #[.string op, .string col, .string nm] 79)
  have hb0 := heap_alloc_new w (.cells #[.string op, .string col, .string nm] 79)
  have tb := t0.alloc (.cells #[.string ⟨#[99, 111, 117, 110, 116]⟩, .string ⟨#[115, 117, 109]⟩, .string ⟨#[109, 105, 110]⟩, .string ⟨#[109, 97, 120]⟩] 9)
  have hb1 := ((Touch.refl [] (w.alloc (.cells #[.string op, .string col, .string nm] 79))).alloc (.cells #[.string ⟨#[99, 111, 117, 110, 116]⟩, .string ⟨#[115, 117, 109]⟩, .string ⟨#[109, 105, 110]⟩, .string ⟨#[109, 97, 120]⟩] 9)).blk hb0 (by simp)
  have hrd := RdK.row (enc := btE) (w.alloc (.cells #[.string op, .string col, .string nm] 79)) 9 opsL #[.string ⟨#[99, 111, 117, 110, 116]⟩, .string ⟨#[115, 117, 109]⟩, .string ⟨#[109, 105, 110]⟩, .string ⟨#[109, 97, 120]⟩] rfl
  rw [World.size_alloc] at hrd
  have HB := Lib.hid (And.intro tb (And.intro hb1 hrd))
  have hfd := fun w' (t : Touch [] w w') => findC_any SA c n cs hn col w' (h.touch0 t) (by omega)
  rw [hp] at hfd
  have Hf := Lib.hid hfd
  have hil := placeV_lt hp
  obtain ⟨ad2, b2, o2, rfl, hadd2, _, e3⟩ := h.at_ i hil
  have hts : cs[i].typ = t := by
    unfold typO at ht; rw [hp] at ht; simpa [hil] using ht
  rw [hts] at e3
  have hi0 : (0 : Int) ≤ (i : Int) := by omega
  have hin : (i : Int) < (n : Int) := by omega
  have E3 := Lib.hid e3
  clear hts ht e3
  clear hp
  clear t0 hb0 tb hb1 hrd hfd hn h
  go_enter Tryz.func131, Tryz.ntmps131
  go_wp2_with fail
  refine (Hc.out _ HB.out.1 _ HB.out.2.2).mono ?_
  rintro e w1 ⟨rfl, t1⟩
  rw [HM.out]
  obtain ⟨d0, d1, d2, _, _, _⟩ := blk3 (t1.blk HB.out.2.1 (by simp))
  have HT := Lib.hid (And.intro (HB.out.1.trans0 t1) (t1.blk HB.out.2.1 (by simp)))
  clear t1
  go_wp2_with fail
  refine (Hf.out _ HT.out.1).mono ?_
  rintro e w2 ⟨rfl, t2⟩
  obtain ⟨f0, f1, f2, _, _, _⟩ := blk3 (t2.blk HT.out.2 (by simp))
  have e3' := (HT.out.1.trans0 t2).cell E3.out (by simp)
  have HT2 := Lib.hid (HT.out.1.trans0 t2)
  clear t2
  go_wp2
  go_ret2
  exact ⟨rfl, HT2.out⟩

set_option maxRecDepth 20000 in
set_option maxHeartbeats 3200000 in
theorem aggT_count (op col nm : ByteArray) (SA : Option Addr) (c n : Nat) (cs : List CD) (hn : cs.length = n) (hl : n ≤ 1000000) (w : World) (h : ColsAt w SA cs) (HM : Hid (memS opsL op = true)) (q5 : col.toList.isEmpty = false) (i : Nat) (hp : placeV cs col = some i) (t : Int) (ht : typO cs col = some t) (q2 : (op.toList == [115, 117, 109]) = false) (q3 : (op.toList == [109, 105, 110]) = false) (q4 : (op.toList == [109, 97, 120]) = false) :
    Calls Tryz.prog 131 #[.agg #[.string op, .string col, .string nm], .slice SA n c] w fun e w' => e = .returned (.tuple #[.int .i64 1, .int .i64 0]) ∧ Touch [] w w' := by
  have Hc := Lib.hid fun w' (t : Touch [] w w') A (h : RdK btE w' A opsL) => containsS_any A 4 4 opsL rfl op w' h (by omega)
  have t0 := (Touch.refl [] w).alloc (.cells #[.string op, .string col, .string nm] 79)
  have hb0 := heap_alloc_new w (.cells #[.string op, .string col, .string nm] 79)
  have tb := t0.alloc (.cells #[.string ⟨#[99, 111, 117, 110, 116]⟩, .string ⟨#[115, 117, 109]⟩, .string ⟨#[109, 105, 110]⟩, .string ⟨#[109, 97, 120]⟩] 9)
  have hb1 := ((Touch.refl [] (w.alloc (.cells #[.string op, .string col, .string nm] 79))).alloc (.cells #[.string ⟨#[99, 111, 117, 110, 116]⟩, .string ⟨#[115, 117, 109]⟩, .string ⟨#[109, 105, 110]⟩, .string ⟨#[109, 97, 120]⟩] 9)).blk hb0 (by simp)
  have hrd := RdK.row (enc := btE) (w.alloc (.cells #[.string op, .string col, .string nm] 79)) 9 opsL #[.string ⟨#[99, 111, 117, 110, 116]⟩, .string ⟨#[115, 117, 109]⟩, .string ⟨#[109, 105, 110]⟩, .string ⟨#[109, 97, 120]⟩] rfl
  rw [World.size_alloc] at hrd
  have HB := Lib.hid (And.intro tb (And.intro hb1 hrd))
  have hfd := fun w' (t : Touch [] w w') => findC_any SA c n cs hn col w' (h.touch0 t) (by omega)
  rw [hp] at hfd
  have Hf := Lib.hid hfd
  have hil := placeV_lt hp
  obtain ⟨ad2, b2, o2, rfl, hadd2, _, e3⟩ := h.at_ i hil
  have hts : cs[i].typ = t := by
    unfold typO at ht; rw [hp] at ht; simpa [hil] using ht
  rw [hts] at e3
  have hi0 : (0 : Int) ≤ (i : Int) := by omega
  have hin : (i : Int) < (n : Int) := by omega
  have E3 := Lib.hid e3
  clear hts ht e3
  clear hp
  clear t0 hb0 tb hb1 hrd hfd hn h
  go_enter Tryz.func131, Tryz.ntmps131
  go_wp2_with fail
  refine (Hc.out _ HB.out.1 _ HB.out.2.2).mono ?_
  rintro e w1 ⟨rfl, t1⟩
  rw [HM.out]
  obtain ⟨d0, d1, d2, _, _, _⟩ := blk3 (t1.blk HB.out.2.1 (by simp))
  have HT := Lib.hid (And.intro (HB.out.1.trans0 t1) (t1.blk HB.out.2.1 (by simp)))
  clear t1
  go_wp2_with fail
  refine (Hf.out _ HT.out.1).mono ?_
  rintro e w2 ⟨rfl, t2⟩
  obtain ⟨f0, f1, f2, _, _, _⟩ := blk3 (t2.blk HT.out.2 (by simp))
  have e3' := (HT.out.1.trans0 t2).cell E3.out (by simp)
  have HT2 := Lib.hid (HT.out.1.trans0 t2)
  clear t2
  go_wp2
  go_ret2
  exact ⟨rfl, HT2.out⟩


/-- the type and the error -/
def aggV (cs : List CD) (a : AG) : Int × Int :=
  if memS opsL a.op = false then (0, 20)
  else if a.col = ⟨#[]⟩ then (if a.op = opC then (1, 0) else (0, 20))
  else match typO cs a.col with
    | none => (0, 13)
    | some t => if a.op = opS ∧ t = 2 then (0, 12) else if a.op = opMi ∨ a.op = opMa then (t, 0) else (1, 0)
theorem lit_beq (x : ByteArray) (l : List UInt8) (b : ByteArray) (hb : b.data.toList = l) : (x.toList == l) = decide (x = b) := by
  rw [← hb, ← toList_B, bs_beq]
theorem isEmpty_bs (s : ByteArray) : s.toList.isEmpty = decide (s = ⟨#[]⟩) := by
  rw [toList_B]
  obtain ⟨⟨l⟩⟩ := s
  rcases l with _ | ⟨x, l⟩
  · simp
  · simp
theorem agg_any (a : AG) (SA : Option Addr) (c n : Nat) (cs : List CD) (hn : cs.length = n) (hl : n ≤ 1000000) (w : World) (h : ColsAt w SA cs) :
    Calls Tryz.prog 131 #[.agg #[.string a.op, .string a.col, .string a.name], .slice SA n c] w fun e w' => e = .returned (.tuple #[.int .i64 (aggV cs a).1, .int .i64 (aggV cs a).2]) ∧ Touch [] w w' := by
  obtain ⟨op, col, nm⟩ := a
  dsimp only
  rcases hm : memS opsL op with _ | _
  · have e : aggV cs ⟨op, col, nm⟩ = (0, 20) := by unfold aggV; rw [if_pos hm]
    rw [e]
    exact aggT_form op col nm SA c n cs hn hl w h (Lib.hid hm)
  have hm' : ¬ memS opsL op = false := by rw [hm]; simp
  have e0 : aggV cs ⟨op, col, nm⟩ = (if col = ⟨#[]⟩ then (if op = opC then ((1, 0) : Int × Int) else (0, 20)) else match typO cs col with
    | none => (0, 13)
    | some t => if op = opS ∧ t = 2 then (0, 12) else if op = opMi ∨ op = opMa then (t, 0) else (1, 0)) := by unfold aggV; rw [if_neg hm']
  rw [e0]
  by_cases h5 : col = ⟨#[]⟩
  · rw [if_pos h5]
    have q5 : col.toList.isEmpty = true := by rw [isEmpty_bs]; exact decide_eq_true h5
    by_cases h1 : op = opC
    · rw [if_pos h1]
      exact aggT_rows op col nm SA c n cs hn hl w h (Lib.hid hm) q5 ((lit_beq op _ opC rfl).trans (decide_eq_true h1))
    · rw [if_neg h1]
      exact aggT_form2 op col nm SA c n cs hn hl w h (Lib.hid hm) q5 ((lit_beq op _ opC rfl).trans (decide_eq_false h1))
  · rw [if_neg h5]
    have q5 : col.toList.isEmpty = false := by rw [isEmpty_bs]; exact decide_eq_false h5
    rcases hp : placeV cs col with _ | i
    · have ht : typO cs col = none := by unfold typO; rw [hp]; rfl
      rw [ht]
      exact aggT_name op col nm SA c n cs hn hl w h (Lib.hid hm) q5 hp
    · obtain ⟨t, ht⟩ : ∃ t, typO cs col = some t := ⟨_, by unfold typO; rw [hp]; rfl⟩
      rw [ht]
      dsimp only
      by_cases h2 : op = opS
      · have n3 : ¬ op = opMi := by rw [h2]; decide
        have n4 : ¬ op = opMa := by rw [h2]; decide
        by_cases h22 : t = 2
        · rw [if_pos ⟨h2, h22⟩]
          exact aggT_text op col nm SA c n cs hn hl w h (Lib.hid hm) q5 i hp t ht ((lit_beq op _ opS rfl).trans (decide_eq_true h2)) h22
        · rw [if_neg (fun q => h22 q.2), if_neg (fun q => q.elim n3 n4)]
          exact aggT_sum op col nm SA c n cs hn hl w h (Lib.hid hm) q5 i hp t ht ((lit_beq op _ opS rfl).trans (decide_eq_true h2)) ((lit_beq op _ opMi rfl).trans (decide_eq_false n3)) ((lit_beq op _ opMa rfl).trans (decide_eq_false n4)) h22
      · rw [if_neg (fun q => h2 q.1)]
        have q2 : (op.toList == [115, 117, 109]) = false := (lit_beq op _ opS rfl).trans (decide_eq_false h2)
        by_cases h3 : op = opMi
        · rw [if_pos (.inl h3)]
          exact aggT_min op col nm SA c n cs hn hl w h (Lib.hid hm) q5 i hp t ht q2 ((lit_beq op _ opMi rfl).trans (decide_eq_true h3))
        · have q3 : (op.toList == [109, 105, 110]) = false := (lit_beq op _ opMi rfl).trans (decide_eq_false h3)
          by_cases h4 : op = opMa
          · rw [if_pos (.inr h4)]
            exact aggT_max op col nm SA c n cs hn hl w h (Lib.hid hm) q5 i hp t ht q2 q3 ((lit_beq op _ opMa rfl).trans (decide_eq_true h4))
          · rw [if_neg (fun q => q.elim h3 h4)]
            exact aggT_count op col nm SA c n cs hn hl w h (Lib.hid hm) q5 i hp t ht q2 q3 ((lit_beq op _ opMa rfl).trans (decide_eq_false h4))
end Go.Proofs.YtafoklilkdnepaaGreatDoor

/- relop.Plan.groupSchema: the schema of a group. For every plan and schema. -/
namespace Go.Proofs.YtafoklilkdnepaaGreatDoor
open Go.RowKit

/-- columns picked by names; none: one is not there -/
def gnL (cs acc : List CD) : List ByteArray → Option (List CD)
  | [] => some acc
  | n :: r => match placeV cs n with
    | none => none
    | some i => gnL cs (acc ++ [cs.getD i ⟨⟨#[]⟩, 0⟩]) r
/-- .. and what is reckoned -/
def gaL (cs acc : List CD) : List AG → Int × List CD
  | [] => (0, acc)
  | a :: r => if (aggV cs a).2 = 0 then gaL cs (acc ++ [⟨a.name, (aggV cs a).1⟩]) r else ((aggV cs a).2, [])
def groupV (cs : List CD) (names : List ByteArray) (aggs : List AG) : Int × List CD := match gnL cs [] names with
  | none => (13, [])
  | some l => gaL cs l aggs
theorem gnL_step (cs acc : List CD) (l : List ByteArray) (k : Nat) (h : k < l.length) : gnL cs acc (l.drop k) = match placeV cs l[k] with
    | none => none
    | some i => gnL cs (acc ++ [cs.getD i ⟨⟨#[]⟩, 0⟩]) (l.drop (k + 1)) := by
  rw [List.drop_eq_getElem_cons h]; rfl
theorem gaL_step (cs acc : List CD) (l : List AG) (k : Nat) (h : k < l.length) : gaL cs acc (l.drop k) = if (aggV cs l[k]).2 = 0 then gaL cs (acc ++ [⟨l[k].name, (aggV cs l[k]).1⟩]) (l.drop (k + 1)) else ((aggV cs l[k]).2, []) := by
  rw [List.drop_eq_getElem_cons h]; rfl
/-- a schema in new memory and an error -/
def SchPost (v : Int × List CD) (w : World) (e : Ending) (w' : World) : Prop := ∃ A c, e = .returned (.tuple #[.slice A v.2.length c, .int .i64 v.1]) ∧ Made 29 2 cdE v.2 A c w w'
theorem SchPost.err {w w' : World} (k : Int) (ht : Touch [] w w') : SchPost (k, []) w (.returned (.tuple #[.slice none 0 0, .int .i64 k])) w' := ⟨none, 0, rfl, (Made.nil _ _ _ _).touch0 ht⟩

set_option maxRecDepth 20000 in
set_option maxHeartbeats 6400000 in
theorem groupSchema_any (x : PC) (names : List ByteArray) (aggs : List AG) (hnn : x.names.n = names.length) (han : x.aggs.n = aggs.length) (SA : Option Addr) (c1 n1 : Nat) (a : List CD) (h1 : a.length = n1) (hl1 : n1 ≤ 1000000) (hln : names.length ≤ 100000) (hla : aggs.length ≤ 100000) (w : World)
    (hr : RdK btE w x.names.A names) (hg : RdK agE w x.aggs.A aggs) (ha : ColsAt w SA a) :
    Calls Tryz.prog 92 #[x.val, .slice SA n1 c1] w (SchPost (groupV a names aggs) w) := by
  subst h1
  have Hv := Lib.hid (show groupV a names aggs = match gnL a [] names with | none => (13, []) | some l => gaL a l aggs from rfl)
  obtain ⟨V, hV⟩ : ∃ V, V = groupV a names aggs := ⟨_, rfl⟩
  rw [← hV] at Hv ⊢
  clear hV
  have HRD := Lib.hid (And.intro hr (And.intro hg ha))
  obtain ⟨k0, k1, ⟨A2, n2, c2'⟩, ⟨⟨ck, cn, ⟨cvk, cvn, cvt⟩, cop⟩, CA, cnn, cc⟩, ⟨NA, nn, nc⟩, ⟨EA, en, ec⟩, ⟨OA, ol, oc⟩, ⟨GA, gn, gc⟩, ⟨BA, bn, bc⟩, count⟩ := x
  simp only [PC.val] at *
  subst hnn han
  obtain ⟨W, hW⟩ : ∃ W, W = w.alloc (.cells #[.int .i64 k0, .string k1, .slice A2 n2 c2', .int .i64 ck, .string cn, .int .i64 cvk, .int .i64 cvn, .string cvt, .string cop, .slice CA cnn cc, .slice NA names.length nc, .slice EA en ec, .slice OA ol oc, .slice GA aggs.length gc, .slice BA bn bc, .int .i64 count] 49) := ⟨_, rfl⟩
  have t0 : Touch [] w W := hW ▸ (Touch.refl [] w).alloc _
  have hb0 := hW ▸ heap_alloc_new w (.cells #[.int .i64 k0, .string k1, .slice A2 n2 c2', .int .i64 ck, .string cn, .int .i64 cvk, .int .i64 cvn, .string cvt, .string cop, .slice CA cnn cc, .slice NA names.length nc, .slice EA en ec, .slice OA ol oc, .slice GA aggs.length gc, .slice BA bn bc, .int .i64 count] 49)
  have c10 : W.cell? ⟨w.heap.size, 10, none⟩ = some (.slice NA names.length nc) := cell_blk hb0 rfl
  have c13 : W.cell? ⟨w.heap.size, 13, none⟩ = some (.slice GA aggs.length gc) := cell_blk hb0 rfl
  have HW := Lib.hid hW
  have HT0 := Lib.hid (And.intro t0 c13)
  have HRW := Lib.hid (And.intro (hr.touch0 t0) (And.intro (hg.touch0 t0) (ha.touch0 t0)))
  clear t0 hb0 hW c13 hr hg ha
  go_enter Tryz.func92, Tryz.ntmps92
  go_wp2_with fail
  rw [← HW.out]
  go_loopw [6, 18] (fun o i wr => ∃ (k : Nat) (A : Option Addr) (c : Nat) (acc : List CD), k ≤ names.length ∧ i = .int .i64 k ∧ o = .slice A k c ∧ Hid (acc.length = k) ∧ Hid (gnL a [] names = gnL a acc (names.drop k)) ∧ Hid (Made 29 2 cdE acc A c W wr)) (fun _ i _ => names.length - (intOf i).toNat)
  case atStart => exact ⟨0, none, 0, [], by omega, rfl, rfl, Lib.hid rfl, Lib.hid (by rw [List.drop_zero]), Lib.hid (Made.nil _ _ _ _)⟩
  case round =>
    obtain ⟨k, A, c, acc, hk, rfl, rfl, HL, Hd, HM⟩ := hrel
    by_cases hlt : k < names.length
    · obtain ⟨ad, b1, o1, rfl, hadd, hc⟩ := RdK.cells (HRW.out.1.touch0 HM.out.t) 1 btE_length (by omega) k hlt
      rw [Nat.mul_one] at hadd
      have e0 := hc 0 _ rfl
      rw [Nat.add_zero] at e0
      have hst := gnL_step a acc names k hlt
      obtain ⟨p, hp⟩ : ∃ p, p = names[k] := ⟨_, rfl⟩
      rw [← hp] at hst e0
      have hfa := fun w' (t : Touch [] W w') => findC_any SA c1 a.length a rfl p w' (HRW.out.2.2.touch0 t) (by omega)
      have hkn : (k : Int) < (names.length : Int) := by omega
      rcases hpa : placeV a p with _ | i
      · rw [hpa] at hfa
        have Hq2 := Lib.hid (show V = (13, []) by rw [Hv.out, Hd.out, hst, hpa])
        have Hfa := Lib.hid (hfa _ HM.out.t)
        clear hfa hpa hst hc hp
        go_wp2_with fail
        refine Hfa.out.mono ?_
        rintro e w1 ⟨rfl, t1⟩
        go_wp2
        go_ret2
        rw [Hq2.out]
        exact SchPost.err 13 ((HT0.out.1.trans0 HM.out.t).trans0 t1)
      · rw [hpa] at hfa
        have hil := placeV_lt hpa
        obtain ⟨ad2, b2, o2, rfl, hadd2, e2, e3⟩ := (HRW.out.2.2.touch0 HM.out.t).at_ i hil
        have hts : gnL a acc (names.drop k) = gnL a (acc ++ [a[i]]) (names.drop (k + 1)) := by
          rw [hst, hpa]; simp [hil]
        obtain ⟨cd, hcd⟩ : ∃ cd, cd = a[i] := ⟨_, rfl⟩
        rw [← hcd] at e2 e3 hts
        obtain ⟨cnm, cty⟩ := cd
        have hi0 : (0 : Int) ≤ (i : Int) := by omega
        have hin : (i : Int) < (a.length : Int) := by omega
        have Hn := Lib.hid (show gnL a [] names = gnL a (acc ++ [⟨cnm, cty⟩]) (names.drop (k + 1)) by rw [Hd.out, hts])
        have Hfa := Lib.hid (hfa _ HM.out.t)
        clear hfa hpa hst hc hp hts hcd
        go_wp2_with fail
        refine Hfa.out.mono ?_
        rintro e w1 ⟨rfl, t1⟩
        have e2' := t1.cell e2 (by simp)
        have e3' := t1.cell e3 (by simp)
        have HM1 := Lib.hid (HM.out.touch0 t1)
        clear t1 HM
        go_wp2_with (at_builtin; refine stop ?_)
        refine go ?_
        have ta := (Touch.refl [] w1).alloc (.cells #[.string cnm, .int .i64 cty] 29)
        refine wpList_appK (enc := cdE) rfl (.tmp 30) (.tmp 35) 24 rfl 29 _ 2 24 info_c5 Tryz.underlying24 rfl (by omega) cdE_length cdE_one A k c acc HL.out rfl (HM1.out.touch0 ta).own
          (some ⟨w1.heap.size, 0, none⟩) 1 1 [⟨cnm, cty⟩] rfl rfl (RdK.one (enc := cdE) w1 29 ⟨cnm, cty⟩ _ rfl) (by omega) (by omega) ?_
        intro A' c' w' hown ht hf
        have HX := Lib.hid ((HM1.out.touch0 ta).step hown ht hf)
        clear hown ht hf ta
        go_wp2_with fail
        go_roundw
        case rel => exact ⟨k + 1, A', c', acc ++ [⟨cnm, cty⟩], by omega, by go_num, rfl, Lib.hid (by rw [List.length_append, HL.out]; rfl), Hn, HX⟩
        case measure => simp [intOf]; omega
    · obtain rfl : k = names.length := by omega
      have Hl := Lib.hid (show V = gaL a acc (aggs.drop 0) by rw [Hv.out, Hd.out, List.drop_length, List.drop_zero]; rfl)
      have d13 := HM.out.t.cell HT0.out.2 (by simp)
      clear Hd Hv
      go_wp2_with fail
      go_loopw [6, 41] (fun o i w1 => ∃ (j m : Nat) (A : Option Addr) (c : Nat) (acc : List CD), j ≤ aggs.length ∧ m ≤ 200000 ∧ i = .int .i64 j ∧ o = .slice A m c ∧ Hid (acc.length = m ∧ m = names.length + j) ∧ Hid (V = gaL a acc (aggs.drop j)) ∧ Hid (Made 29 2 cdE acc A c W w1)) (fun _ i _ => aggs.length - (intOf i).toNat)
      case atStart => exact ⟨0, names.length, A, c, acc, by omega, by omega, rfl, rfl, Lib.hid ⟨HL.out, rfl⟩, Hl, HM⟩
      case round =>
        clear Hl HM HL hlt d13
        obtain ⟨j, m, A, c, acc, hj, hmb, rfl, rfl, HL, Hd, HM⟩ := hrel
        by_cases hlt : j < aggs.length
        · obtain ⟨ad, b1, o1, rfl, hadd, hc⟩ := RdK.cells (HRW.out.2.1.touch0 HM.out.t) 3 agE_length (by omega) j hlt
          have hst := gaL_step a acc aggs j hlt
          obtain ⟨p, hp⟩ : ∃ p, p = aggs[j] := ⟨_, rfl⟩
          rw [← hp] at hst hc
          have e0 := hc 0 _ rfl
          have e1 := hc 1 _ rfl
          have e2 := hc 2 _ rfl
          rw [Nat.add_zero] at e0
          have hag := fun w' (t : Touch [] W w') => agg_any p SA c1 a.length a rfl (by omega) w' (HRW.out.2.2.touch0 t)
          obtain ⟨op, col, nm⟩ := p
          dsimp only at e0 e1 e2 hag hst
          have ta := (Touch.refl [] wr).alloc (.cells #[.string op, .string col, .string nm] 79)
          have hbl := heap_alloc_new wr (.cells #[.string op, .string col, .string nm] 79)
          obtain ⟨g, hg⟩ : ∃ g, g = aggV a ⟨op, col, nm⟩ := ⟨_, rfl⟩
          rw [← hg] at hag hst
          obtain ⟨ty, er⟩ := g
          dsimp only at hag hst
          have hkn : (j : Int) < (aggs.length : Int) := by omega
          have Hag := Lib.hid (hag _ (HM.out.t.trans0 ta))
          have HTa := Lib.hid (And.intro ta hbl)
          by_cases her : er = 0
          · subst her
            have Hn := Lib.hid (show V = gaL a (acc ++ [⟨nm, ty⟩]) (aggs.drop (j + 1)) by rw [Hd.out, hst, if_pos rfl])
            clear hag hst hc hp hg ta hbl
            go_wp2_with fail
            refine Hag.out.mono ?_
            rintro e w1 ⟨rfl, t1⟩
            obtain ⟨g0, g1, g2, _, _, _⟩ := blk3 (t1.blk HTa.out.2 (by simp))
            have HM1 := Lib.hid ((HM.out.touch0 HTa.out.1).touch0 t1)
            clear t1 HM
            go_wp2_with (at_builtin; refine stop ?_)
            refine go ?_
            have ta := (Touch.refl [] w1).alloc (.cells #[.string nm, .int .i64 ty] 29)
            refine wpList_appK (enc := cdE) rfl (.tmp 54) (.tmp 59) 24 rfl 29 _ 2 24 info_c5 Tryz.underlying24 rfl (by omega) cdE_length cdE_one A m c acc HL.out.1 rfl (HM1.out.touch0 ta).own
              (some ⟨w1.heap.size, 0, none⟩) 1 1 [⟨nm, ty⟩] rfl rfl (RdK.one (enc := cdE) w1 29 ⟨nm, ty⟩ _ rfl) (by omega) (by omega) ?_
            intro A' c' w' hown ht hf
            have HX := Lib.hid ((HM1.out.touch0 ta).step hown ht hf)
            clear hown ht hf ta
            go_wp2_with fail
            go_roundw
            case rel => exact ⟨j + 1, m + 1, A', c', acc ++ [⟨nm, ty⟩], by omega, by have := HL.out.2; omega, by go_num, rfl, Lib.hid ⟨by rw [List.length_append, HL.out.1]; rfl, by rw [HL.out.2]; omega⟩, Hn, HX⟩
            case measure => simp [intOf]; omega
          · have Hn := Lib.hid (show V = (er, []) by rw [Hd.out, hst, if_neg her])
            have hq : (er == 0) = false := by rw [beq_eq_false_iff_ne]; exact her
            have hq' : (er != 0) = true := by rw [bne, hq]; rfl
            clear hag hst hc hp hg ta hbl
            go_wp2_with fail
            refine Hag.out.mono ?_
            rintro e w1 ⟨rfl, t1⟩
            go_wp2
            go_ret2
            rw [Hn.out]
            exact SchPost.err er (((HT0.out.1.trans0 HM.out.t).trans0 HTa.out.1).trans0 t1)
        · obtain rfl : j = aggs.length := by omega
          have Hn := Lib.hid (show V = (0, acc) by rw [Hd.out, List.drop_length]; rfl)
          clear Hd
          go_wp2
          go_ret2
          rw [Hn.out]
          obtain ⟨hm1, _⟩ := HL.out
          subst hm1
          exact ⟨A, c, rfl, HM.out.own, HT0.out.1.trans0 HM.out.t, fun b hb => Nat.le_trans HT0.out.1.size (HM.out.f b hb)⟩
end Go.Proofs.YtafoklilkdnepaaGreatDoor

/- relop.Plan.schema: a plan's own schema by those of its Args: at joins and groups. (gen_rlschema.py) -/
namespace Go.Proofs.YtafoklilkdnepaaGreatDoor
open Go.RowKit

theorem keep17 {w w' : World} (ht : Touch [] w w') {a0 a1 a2 a3 a4 a5 a6 a7 a8 a9 a10 a11 a12 a13 a14 a15 a16 : Addr} {v0 v1 v2 v3 v4 v5 v6 v7 v8 v9 v10 v11 v12 v13 v14 v15 v16 : Value} (h : w.cell? a0 = some v0 ∧ w.cell? a1 = some v1 ∧ w.cell? a2 = some v2 ∧ w.cell? a3 = some v3 ∧ w.cell? a4 = some v4 ∧ w.cell? a5 = some v5 ∧ w.cell? a6 = some v6 ∧ w.cell? a7 = some v7 ∧ w.cell? a8 = some v8 ∧ w.cell? a9 = some v9 ∧ w.cell? a10 = some v10 ∧ w.cell? a11 = some v11 ∧ w.cell? a12 = some v12 ∧ w.cell? a13 = some v13 ∧ w.cell? a14 = some v14 ∧ w.cell? a15 = some v15 ∧ w.cell? a16 = some v16) : w'.cell? a0 = some v0 ∧ w'.cell? a1 = some v1 ∧ w'.cell? a2 = some v2 ∧ w'.cell? a3 = some v3 ∧ w'.cell? a4 = some v4 ∧ w'.cell? a5 = some v5 ∧ w'.cell? a6 = some v6 ∧ w'.cell? a7 = some v7 ∧ w'.cell? a8 = some v8 ∧ w'.cell? a9 = some v9 ∧ w'.cell? a10 = some v10 ∧ w'.cell? a11 = some v11 ∧ w'.cell? a12 = some v12 ∧ w'.cell? a13 = some v13 ∧ w'.cell? a14 = some v14 ∧ w'.cell? a15 = some v15 ∧ w'.cell? a16 = some v16 := by
  obtain ⟨h0, h1, h2, h3, h4, h5, h6, h7, h8, h9, h10, h11, h12, h13, h14, h15, h16⟩ := h
  exact ⟨ht.cell h0 (by simp), ht.cell h1 (by simp), ht.cell h2 (by simp), ht.cell h3 (by simp), ht.cell h4 (by simp), ht.cell h5 (by simp), ht.cell h6 (by simp), ht.cell h7 (by simp), ht.cell h8 (by simp), ht.cell h9 (by simp), ht.cell h10 (by simp), ht.cell h11 (by simp), ht.cell h12 (by simp), ht.cell h13 (by simp), ht.cell h14 (by simp), ht.cell h15 (by simp), ht.cell h16 (by simp)⟩
theorem keep18 {w w' : World} (ht : Touch [] w w') {a0 a1 a2 a3 a4 a5 a6 a7 a8 a9 a10 a11 a12 a13 a14 a15 a16 a17 : Addr} {v0 v1 v2 v3 v4 v5 v6 v7 v8 v9 v10 v11 v12 v13 v14 v15 v16 v17 : Value} (h : w.cell? a0 = some v0 ∧ w.cell? a1 = some v1 ∧ w.cell? a2 = some v2 ∧ w.cell? a3 = some v3 ∧ w.cell? a4 = some v4 ∧ w.cell? a5 = some v5 ∧ w.cell? a6 = some v6 ∧ w.cell? a7 = some v7 ∧ w.cell? a8 = some v8 ∧ w.cell? a9 = some v9 ∧ w.cell? a10 = some v10 ∧ w.cell? a11 = some v11 ∧ w.cell? a12 = some v12 ∧ w.cell? a13 = some v13 ∧ w.cell? a14 = some v14 ∧ w.cell? a15 = some v15 ∧ w.cell? a16 = some v16 ∧ w.cell? a17 = some v17) : w'.cell? a0 = some v0 ∧ w'.cell? a1 = some v1 ∧ w'.cell? a2 = some v2 ∧ w'.cell? a3 = some v3 ∧ w'.cell? a4 = some v4 ∧ w'.cell? a5 = some v5 ∧ w'.cell? a6 = some v6 ∧ w'.cell? a7 = some v7 ∧ w'.cell? a8 = some v8 ∧ w'.cell? a9 = some v9 ∧ w'.cell? a10 = some v10 ∧ w'.cell? a11 = some v11 ∧ w'.cell? a12 = some v12 ∧ w'.cell? a13 = some v13 ∧ w'.cell? a14 = some v14 ∧ w'.cell? a15 = some v15 ∧ w'.cell? a16 = some v16 ∧ w'.cell? a17 = some v17 := by
  obtain ⟨h0, h1, h2, h3, h4, h5, h6, h7, h8, h9, h10, h11, h12, h13, h14, h15, h16, h17⟩ := h
  exact ⟨ht.cell h0 (by simp), ht.cell h1 (by simp), ht.cell h2 (by simp), ht.cell h3 (by simp), ht.cell h4 (by simp), ht.cell h5 (by simp), ht.cell h6 (by simp), ht.cell h7 (by simp), ht.cell h8 (by simp), ht.cell h9 (by simp), ht.cell h10 (by simp), ht.cell h11 (by simp), ht.cell h12 (by simp), ht.cell h13 (by simp), ht.cell h14 (by simp), ht.cell h15 (by simp), ht.cell h16 (by simp), ht.cell h17 (by simp)⟩
set_option maxRecDepth 40000 in
set_option maxHeartbeats 6400000 in
theorem schema_join (x : PC) (hk0 : x.kind = 4) (on : List (ByteArray × ByteArray)) (ho : x.on.n = on.length) (hlo : on.length ≤ 1000000) (L : Option Addr) (lc : Nat) (s1 s2 : SL) (a b : List CD) (h1 : s1.n = a.length) (h2 : s2.n = b.length) (hk1 : s1.n ≤ s1.c) (hk2 : s2.n ≤ s2.c) (hl1 : a.length ≤ 1000) (hl2 : b.length ≤ 1000) (w : World)
    (hL : RdK slE w L [s1, s2]) (hr : RdK prE w x.on.A on) (ha : ColsAt w s1.A a) (hb : ColsAt w s2.A b) :
    Calls Tryz.prog 64 #[x.val, .slice L 2 lc] w fun e w' => ∃ A c, e = .returned (.tuple #[.slice A (a ++ b).length c, .int .i64 (onV a b on)]) ∧ Made 29 2 cdE (a ++ b) A c w w' := by
  obtain ⟨SA, sn, sc⟩ := s1
  obtain ⟨SB, tn, tc⟩ := s2
  dsimp only at *
  subst h1 h2
  obtain ⟨k0, k1, ⟨A2, n2, c2'⟩, ⟨⟨ck, cn, ⟨cvk, cvn, cvt⟩, cop⟩, CA, cnn, cc⟩, ⟨NA, nn, nc⟩, ⟨EA, en, ec⟩, ⟨OA, ol, oc⟩, ⟨GA, gn, gc⟩, ⟨BA, bn, bc⟩, count⟩ := x
  dsimp only at hk0 ho hr
  subst hk0
  obtain ⟨ad, bl, bo, rfl, hadd0, hc0⟩ := RdK.cells hL 1 slE_length (by omega) 0 (by simp)
  obtain ⟨ad', bl', bo', e', hadd1, hc1⟩ := RdK.cells hL 1 slE_length (by omega) 1 (by simp)
  obtain rfl : ad = ad' := by injection e'
  have l0 := hc0 0 _ rfl
  have l1 := hc1 0 _ rfl
  simp only [Nat.zero_mul, Nat.one_mul, Nat.add_zero] at hadd0 hadd1 l0 l1
  simp only [List.getElem_cons_zero, List.getElem_cons_succ] at l0 l1
  have Hon := Lib.hid fun w' (t : Touch [] w w') => checkOn_any ⟨4, k1, ⟨A2, n2, c2'⟩, ⟨⟨ck, cn, ⟨cvk, cvn, cvt⟩, cop⟩, CA, cnn, cc⟩, ⟨NA, nn, nc⟩, ⟨EA, en, ec⟩, ⟨OA, ol, oc⟩, ⟨GA, gn, gc⟩, ⟨BA, bn, bc⟩, count⟩ on ho SA SB sc tc a.length b.length a b rfl rfl (by omega) (by omega) hlo w' (RdK.touch0 hr t) (ha.touch0 t) (hb.touch0 t)
  have Hcc := Lib.hid fun w' (t : Touch [] w w') => concatC_any SA SB a.length b.length sc tc a b rfl rfl hl1 hl2 hk1 hk2 w' (ha.touch0 t) (hb.touch0 t)
  simp only [PC.val] at *
  obtain ⟨K, hK⟩ : ∃ K, K = onV a b on := ⟨_, rfl⟩
  rw [← hK] at Hon ⊢
  obtain ⟨M, hM⟩ : ∃ M, M = (a ++ b).length := ⟨_, rfl⟩
  rw [← hM] at Hcc ⊢
  obtain ⟨W, hW⟩ : ∃ W, W = w.alloc (.cells #[.int .i64 4, .string k1, .slice A2 n2 c2', .int .i64 ck, .string cn, .int .i64 cvk, .int .i64 cvn, .string cvt, .string cop, .slice CA cnn cc, .slice NA nn nc, .slice EA en ec, .slice OA ol oc, .slice GA gn gc, .slice BA bn bc, .int .i64 count] 49) := ⟨_, rfl⟩
  have t0 : Touch [] w W := hW ▸ (Touch.refl [] w).alloc _
  have hb0 := hW ▸ heap_alloc_new w (.cells #[.int .i64 4, .string k1, .slice A2 n2 c2', .int .i64 ck, .string cn, .int .i64 cvk, .int .i64 cvn, .string cvt, .string cop, .slice CA cnn cc, .slice NA nn nc, .slice EA en ec, .slice OA ol oc, .slice GA gn gc, .slice BA bn bc, .int .i64 count] 49)
  have l0d := t0.drew.cell l0 (by simp)
  have l1d := t0.drew.cell l1 (by simp)
  obtain ⟨p0, p1, p2, p3, p4, p5, p6, p7, p8, p9, p10, p11, p12, p13, p14, p15⟩ := blk16 ((Touch.refl [] W).drew.blk hb0 (by simp))
  have HP : Hid (W.drew.cell? ⟨w.heap.size, 0, none⟩ = some (.int .i64 4) ∧ W.drew.cell? ⟨w.heap.size, 1, none⟩ = some (.string k1) ∧ W.drew.cell? ⟨w.heap.size, 2, none⟩ = some (.slice A2 n2 c2') ∧ W.drew.cell? ⟨w.heap.size, 3, none⟩ = some (.int .i64 ck) ∧ W.drew.cell? ⟨w.heap.size, 4, none⟩ = some (.string cn) ∧ W.drew.cell? ⟨w.heap.size, 5, none⟩ = some (.int .i64 cvk) ∧ W.drew.cell? ⟨w.heap.size, 6, none⟩ = some (.int .i64 cvn) ∧ W.drew.cell? ⟨w.heap.size, 7, none⟩ = some (.string cvt) ∧ W.drew.cell? ⟨w.heap.size, 8, none⟩ = some (.string cop) ∧ W.drew.cell? ⟨w.heap.size, 9, none⟩ = some (.slice CA cnn cc) ∧ W.drew.cell? ⟨w.heap.size, 10, none⟩ = some (.slice NA nn nc) ∧ W.drew.cell? ⟨w.heap.size, 11, none⟩ = some (.slice EA en ec) ∧ W.drew.cell? ⟨w.heap.size, 12, none⟩ = some (.slice OA ol oc) ∧ W.drew.cell? ⟨w.heap.size, 13, none⟩ = some (.slice GA gn gc) ∧ W.drew.cell? ⟨w.heap.size, 14, none⟩ = some (.slice BA bn bc) ∧ W.drew.cell? ⟨w.heap.size, 15, none⟩ = some (.int .i64 count) ∧ W.drew.cell? ⟨bl, bo, none⟩ = some (.slice SA a.length sc) ∧ W.drew.cell? ⟨bl', bo', none⟩ = some (.slice SB b.length tc)) := Lib.hid ⟨p0, p1, p2, p3, p4, p5, p6, p7, p8, p9, p10, p11, p12, p13, p14, p15, l0d, l1d⟩
  have HW := Lib.hid hW
  have HT0 := Lib.hid t0.drew
  clear ho hr ha hb hL hc0 hc1 hK hM hW t0 l0 l1 e' hb0 l0d l1d p0 p1 p2 p3 p4 p5 p6 p7 p8 p9 p10 p11 p12 p13 p14 p15
  go_enter Tryz.func64, Tryz.ntmps64
  go_wp2_with fail
  rw [← HW.out]
  go_region_held3 (fun w' => w'.cell? ⟨w.heap.size, 0, none⟩ = some (.int .i64 4) ∧ w'.cell? ⟨w.heap.size, 1, none⟩ = some (.string k1) ∧ w'.cell? ⟨w.heap.size, 2, none⟩ = some (.slice A2 n2 c2') ∧ w'.cell? ⟨w.heap.size, 3, none⟩ = some (.int .i64 ck) ∧ w'.cell? ⟨w.heap.size, 4, none⟩ = some (.string cn) ∧ w'.cell? ⟨w.heap.size, 5, none⟩ = some (.int .i64 cvk) ∧ w'.cell? ⟨w.heap.size, 6, none⟩ = some (.int .i64 cvn) ∧ w'.cell? ⟨w.heap.size, 7, none⟩ = some (.string cvt) ∧ w'.cell? ⟨w.heap.size, 8, none⟩ = some (.string cop) ∧ w'.cell? ⟨w.heap.size, 9, none⟩ = some (.slice CA cnn cc) ∧ w'.cell? ⟨w.heap.size, 10, none⟩ = some (.slice NA nn nc) ∧ w'.cell? ⟨w.heap.size, 11, none⟩ = some (.slice EA en ec) ∧ w'.cell? ⟨w.heap.size, 12, none⟩ = some (.slice OA ol oc) ∧ w'.cell? ⟨w.heap.size, 13, none⟩ = some (.slice GA gn gc) ∧ w'.cell? ⟨w.heap.size, 14, none⟩ = some (.slice BA bn bc) ∧ w'.cell? ⟨w.heap.size, 15, none⟩ = some (.int .i64 count) ∧ w'.cell? ⟨bl, bo, none⟩ = some (.slice SA a.length sc) ∧ w'.cell? ⟨bl', bo', none⟩ = some (.slice SB b.length tc)) (first | exact HP.out | exact keep18 ((Touch.refl [] _).alloc _) HP.out | exact keep18 M1.out.t HP.out | exact keep18 (M1.out.t.trans0 t2) HP.out) (first
    | (go_at_call 90; refine (Hcc.out _ HT0.out).mono ?_; rintro e w1 ⟨A1, c1, rfl, m1⟩; have M1 := Lib.hid m1; clear m1)
    | (go_at_call 91; refine (Hon.out _ (HT0.out.trans0 M1.out.t)).mono ?_; rintro e w2 ⟨rfl, t2⟩))
  go_wp2_with fail
  go_ret2
  exact ⟨A1, c1, rfl, M1.out.own.touch0 t2, (HT0.out.trans0 M1.out.t).trans0 t2, fun b hb => Nat.le_trans HT0.out.size (M1.out.f b hb)⟩

set_option maxRecDepth 40000 in
set_option maxHeartbeats 6400000 in
theorem schema_left (x : PC) (hk0 : x.kind = 5) (on : List (ByteArray × ByteArray)) (ho : x.on.n = on.length) (hlo : on.length ≤ 1000000) (L : Option Addr) (lc : Nat) (s1 s2 : SL) (a b : List CD) (h1 : s1.n = a.length) (h2 : s2.n = b.length) (hk1 : s1.n ≤ s1.c) (hk2 : s2.n ≤ s2.c) (hl1 : a.length ≤ 1000) (hl2 : b.length ≤ 1000) (w : World)
    (hL : RdK slE w L [s1, s2]) (hr : RdK prE w x.on.A on) (ha : ColsAt w s1.A a) (hb : ColsAt w s2.A b) :
    Calls Tryz.prog 64 #[x.val, .slice L 2 lc] w fun e w' => ∃ A c, e = .returned (.tuple #[.slice A (a ++ b).length c, .int .i64 (onV a b on)]) ∧ Made 29 2 cdE (a ++ b) A c w w' := by
  obtain ⟨SA, sn, sc⟩ := s1
  obtain ⟨SB, tn, tc⟩ := s2
  dsimp only at *
  subst h1 h2
  obtain ⟨k0, k1, ⟨A2, n2, c2'⟩, ⟨⟨ck, cn, ⟨cvk, cvn, cvt⟩, cop⟩, CA, cnn, cc⟩, ⟨NA, nn, nc⟩, ⟨EA, en, ec⟩, ⟨OA, ol, oc⟩, ⟨GA, gn, gc⟩, ⟨BA, bn, bc⟩, count⟩ := x
  dsimp only at hk0 ho hr
  subst hk0
  obtain ⟨ad, bl, bo, rfl, hadd0, hc0⟩ := RdK.cells hL 1 slE_length (by omega) 0 (by simp)
  obtain ⟨ad', bl', bo', e', hadd1, hc1⟩ := RdK.cells hL 1 slE_length (by omega) 1 (by simp)
  obtain rfl : ad = ad' := by injection e'
  have l0 := hc0 0 _ rfl
  have l1 := hc1 0 _ rfl
  simp only [Nat.zero_mul, Nat.one_mul, Nat.add_zero] at hadd0 hadd1 l0 l1
  simp only [List.getElem_cons_zero, List.getElem_cons_succ] at l0 l1
  have Hon := Lib.hid fun w' (t : Touch [] w w') => checkOn_any ⟨5, k1, ⟨A2, n2, c2'⟩, ⟨⟨ck, cn, ⟨cvk, cvn, cvt⟩, cop⟩, CA, cnn, cc⟩, ⟨NA, nn, nc⟩, ⟨EA, en, ec⟩, ⟨OA, ol, oc⟩, ⟨GA, gn, gc⟩, ⟨BA, bn, bc⟩, count⟩ on ho SA SB sc tc a.length b.length a b rfl rfl (by omega) (by omega) hlo w' (RdK.touch0 hr t) (ha.touch0 t) (hb.touch0 t)
  have Hcc := Lib.hid fun w' (t : Touch [] w w') => concatC_any SA SB a.length b.length sc tc a b rfl rfl hl1 hl2 hk1 hk2 w' (ha.touch0 t) (hb.touch0 t)
  simp only [PC.val] at *
  obtain ⟨K, hK⟩ : ∃ K, K = onV a b on := ⟨_, rfl⟩
  rw [← hK] at Hon ⊢
  obtain ⟨M, hM⟩ : ∃ M, M = (a ++ b).length := ⟨_, rfl⟩
  rw [← hM] at Hcc ⊢
  obtain ⟨W, hW⟩ : ∃ W, W = w.alloc (.cells #[.int .i64 5, .string k1, .slice A2 n2 c2', .int .i64 ck, .string cn, .int .i64 cvk, .int .i64 cvn, .string cvt, .string cop, .slice CA cnn cc, .slice NA nn nc, .slice EA en ec, .slice OA ol oc, .slice GA gn gc, .slice BA bn bc, .int .i64 count] 49) := ⟨_, rfl⟩
  have t0 : Touch [] w W := hW ▸ (Touch.refl [] w).alloc _
  have hb0 := hW ▸ heap_alloc_new w (.cells #[.int .i64 5, .string k1, .slice A2 n2 c2', .int .i64 ck, .string cn, .int .i64 cvk, .int .i64 cvn, .string cvt, .string cop, .slice CA cnn cc, .slice NA nn nc, .slice EA en ec, .slice OA ol oc, .slice GA gn gc, .slice BA bn bc, .int .i64 count] 49)
  have l0d := t0.drew.cell l0 (by simp)
  have l1d := t0.drew.cell l1 (by simp)
  obtain ⟨p0, p1, p2, p3, p4, p5, p6, p7, p8, p9, p10, p11, p12, p13, p14, p15⟩ := blk16 ((Touch.refl [] W).drew.blk hb0 (by simp))
  have HP : Hid (W.drew.cell? ⟨w.heap.size, 0, none⟩ = some (.int .i64 5) ∧ W.drew.cell? ⟨w.heap.size, 1, none⟩ = some (.string k1) ∧ W.drew.cell? ⟨w.heap.size, 2, none⟩ = some (.slice A2 n2 c2') ∧ W.drew.cell? ⟨w.heap.size, 3, none⟩ = some (.int .i64 ck) ∧ W.drew.cell? ⟨w.heap.size, 4, none⟩ = some (.string cn) ∧ W.drew.cell? ⟨w.heap.size, 5, none⟩ = some (.int .i64 cvk) ∧ W.drew.cell? ⟨w.heap.size, 6, none⟩ = some (.int .i64 cvn) ∧ W.drew.cell? ⟨w.heap.size, 7, none⟩ = some (.string cvt) ∧ W.drew.cell? ⟨w.heap.size, 8, none⟩ = some (.string cop) ∧ W.drew.cell? ⟨w.heap.size, 9, none⟩ = some (.slice CA cnn cc) ∧ W.drew.cell? ⟨w.heap.size, 10, none⟩ = some (.slice NA nn nc) ∧ W.drew.cell? ⟨w.heap.size, 11, none⟩ = some (.slice EA en ec) ∧ W.drew.cell? ⟨w.heap.size, 12, none⟩ = some (.slice OA ol oc) ∧ W.drew.cell? ⟨w.heap.size, 13, none⟩ = some (.slice GA gn gc) ∧ W.drew.cell? ⟨w.heap.size, 14, none⟩ = some (.slice BA bn bc) ∧ W.drew.cell? ⟨w.heap.size, 15, none⟩ = some (.int .i64 count) ∧ W.drew.cell? ⟨bl, bo, none⟩ = some (.slice SA a.length sc) ∧ W.drew.cell? ⟨bl', bo', none⟩ = some (.slice SB b.length tc)) := Lib.hid ⟨p0, p1, p2, p3, p4, p5, p6, p7, p8, p9, p10, p11, p12, p13, p14, p15, l0d, l1d⟩
  have HW := Lib.hid hW
  have HT0 := Lib.hid t0.drew
  clear ho hr ha hb hL hc0 hc1 hK hM hW t0 l0 l1 e' hb0 l0d l1d p0 p1 p2 p3 p4 p5 p6 p7 p8 p9 p10 p11 p12 p13 p14 p15
  go_enter Tryz.func64, Tryz.ntmps64
  go_wp2_with fail
  rw [← HW.out]
  go_region_held3 (fun w' => w'.cell? ⟨w.heap.size, 0, none⟩ = some (.int .i64 5) ∧ w'.cell? ⟨w.heap.size, 1, none⟩ = some (.string k1) ∧ w'.cell? ⟨w.heap.size, 2, none⟩ = some (.slice A2 n2 c2') ∧ w'.cell? ⟨w.heap.size, 3, none⟩ = some (.int .i64 ck) ∧ w'.cell? ⟨w.heap.size, 4, none⟩ = some (.string cn) ∧ w'.cell? ⟨w.heap.size, 5, none⟩ = some (.int .i64 cvk) ∧ w'.cell? ⟨w.heap.size, 6, none⟩ = some (.int .i64 cvn) ∧ w'.cell? ⟨w.heap.size, 7, none⟩ = some (.string cvt) ∧ w'.cell? ⟨w.heap.size, 8, none⟩ = some (.string cop) ∧ w'.cell? ⟨w.heap.size, 9, none⟩ = some (.slice CA cnn cc) ∧ w'.cell? ⟨w.heap.size, 10, none⟩ = some (.slice NA nn nc) ∧ w'.cell? ⟨w.heap.size, 11, none⟩ = some (.slice EA en ec) ∧ w'.cell? ⟨w.heap.size, 12, none⟩ = some (.slice OA ol oc) ∧ w'.cell? ⟨w.heap.size, 13, none⟩ = some (.slice GA gn gc) ∧ w'.cell? ⟨w.heap.size, 14, none⟩ = some (.slice BA bn bc) ∧ w'.cell? ⟨w.heap.size, 15, none⟩ = some (.int .i64 count) ∧ w'.cell? ⟨bl, bo, none⟩ = some (.slice SA a.length sc) ∧ w'.cell? ⟨bl', bo', none⟩ = some (.slice SB b.length tc)) (first | exact HP.out | exact keep18 ((Touch.refl [] _).alloc _) HP.out | exact keep18 M1.out.t HP.out | exact keep18 (M1.out.t.trans0 t2) HP.out) (first
    | (go_at_call 90; refine (Hcc.out _ HT0.out).mono ?_; rintro e w1 ⟨A1, c1, rfl, m1⟩; have M1 := Lib.hid m1; clear m1)
    | (go_at_call 91; refine (Hon.out _ (HT0.out.trans0 M1.out.t)).mono ?_; rintro e w2 ⟨rfl, t2⟩))
  go_wp2_with fail
  go_ret2
  exact ⟨A1, c1, rfl, M1.out.own.touch0 t2, (HT0.out.trans0 M1.out.t).trans0 t2, fun b hb => Nat.le_trans HT0.out.size (M1.out.f b hb)⟩

set_option maxRecDepth 40000 in
set_option maxHeartbeats 6400000 in
theorem schema_group (x : PC) (hk0 : x.kind = 6) (names : List ByteArray) (aggs : List AG) (hnn : x.names.n = names.length) (han : x.aggs.n = aggs.length) (hln : names.length ≤ 100000) (hla : aggs.length ≤ 100000) (L : Option Addr) (lc : Nat) (s1 : SL) (a : List CD) (h1 : s1.n = a.length) (hl1 : a.length ≤ 1000) (w : World)
    (hL : RdK slE w L [s1]) (hr : RdK btE w x.names.A names) (hg : RdK agE w x.aggs.A aggs) (ha : ColsAt w s1.A a) :
    Calls Tryz.prog 64 #[x.val, .slice L 1 lc] w (SchPost (groupV a names aggs) w) := by
  obtain ⟨SA, sn, sc⟩ := s1
  dsimp only at *
  subst h1
  obtain ⟨k0, k1, ⟨A2, n2, c2'⟩, ⟨⟨ck, cn, ⟨cvk, cvn, cvt⟩, cop⟩, CA, cnn, cc⟩, ⟨NA, nn, nc⟩, ⟨EA, en, ec⟩, ⟨OA, ol, oc⟩, ⟨GA, gn, gc⟩, ⟨BA, bn, bc⟩, count⟩ := x
  dsimp only at hk0 hnn han hr hg
  subst hk0
  obtain ⟨ad, bl, bo, rfl, hadd0, hc0⟩ := RdK.cells hL 1 slE_length (by omega) 0 (by simp)
  have l0 := hc0 0 _ rfl
  simp only [Nat.zero_mul, Nat.add_zero] at hadd0 l0
  simp only [List.getElem_cons_zero] at l0
  have Hgs := Lib.hid fun w' (t : Touch [] w w') => groupSchema_any ⟨6, k1, ⟨A2, n2, c2'⟩, ⟨⟨ck, cn, ⟨cvk, cvn, cvt⟩, cop⟩, CA, cnn, cc⟩, ⟨NA, nn, nc⟩, ⟨EA, en, ec⟩, ⟨OA, ol, oc⟩, ⟨GA, gn, gc⟩, ⟨BA, bn, bc⟩, count⟩ names aggs hnn han SA sc a.length a rfl (by omega) hln hla w' (RdK.touch0 hr t) (RdK.touch0 hg t) (ha.touch0 t)
  simp only [PC.val] at *
  obtain ⟨V, hV⟩ : ∃ V, V = groupV a names aggs := ⟨_, rfl⟩
  rw [← hV] at Hgs ⊢
  obtain ⟨W, hW⟩ : ∃ W, W = w.alloc (.cells #[.int .i64 6, .string k1, .slice A2 n2 c2', .int .i64 ck, .string cn, .int .i64 cvk, .int .i64 cvn, .string cvt, .string cop, .slice CA cnn cc, .slice NA nn nc, .slice EA en ec, .slice OA ol oc, .slice GA gn gc, .slice BA bn bc, .int .i64 count] 49) := ⟨_, rfl⟩
  have t0 : Touch [] w W := hW ▸ (Touch.refl [] w).alloc _
  have hb0 := hW ▸ heap_alloc_new w (.cells #[.int .i64 6, .string k1, .slice A2 n2 c2', .int .i64 ck, .string cn, .int .i64 cvk, .int .i64 cvn, .string cvt, .string cop, .slice CA cnn cc, .slice NA nn nc, .slice EA en ec, .slice OA ol oc, .slice GA gn gc, .slice BA bn bc, .int .i64 count] 49)
  have l0d := t0.drew.cell l0 (by simp)
  obtain ⟨p0, p1, p2, p3, p4, p5, p6, p7, p8, p9, p10, p11, p12, p13, p14, p15⟩ := blk16 ((Touch.refl [] W).drew.blk hb0 (by simp))
  have HP : Hid (W.drew.cell? ⟨w.heap.size, 0, none⟩ = some (.int .i64 6) ∧ W.drew.cell? ⟨w.heap.size, 1, none⟩ = some (.string k1) ∧ W.drew.cell? ⟨w.heap.size, 2, none⟩ = some (.slice A2 n2 c2') ∧ W.drew.cell? ⟨w.heap.size, 3, none⟩ = some (.int .i64 ck) ∧ W.drew.cell? ⟨w.heap.size, 4, none⟩ = some (.string cn) ∧ W.drew.cell? ⟨w.heap.size, 5, none⟩ = some (.int .i64 cvk) ∧ W.drew.cell? ⟨w.heap.size, 6, none⟩ = some (.int .i64 cvn) ∧ W.drew.cell? ⟨w.heap.size, 7, none⟩ = some (.string cvt) ∧ W.drew.cell? ⟨w.heap.size, 8, none⟩ = some (.string cop) ∧ W.drew.cell? ⟨w.heap.size, 9, none⟩ = some (.slice CA cnn cc) ∧ W.drew.cell? ⟨w.heap.size, 10, none⟩ = some (.slice NA nn nc) ∧ W.drew.cell? ⟨w.heap.size, 11, none⟩ = some (.slice EA en ec) ∧ W.drew.cell? ⟨w.heap.size, 12, none⟩ = some (.slice OA ol oc) ∧ W.drew.cell? ⟨w.heap.size, 13, none⟩ = some (.slice GA gn gc) ∧ W.drew.cell? ⟨w.heap.size, 14, none⟩ = some (.slice BA bn bc) ∧ W.drew.cell? ⟨w.heap.size, 15, none⟩ = some (.int .i64 count) ∧ W.drew.cell? ⟨bl, bo, none⟩ = some (.slice SA a.length sc)) := Lib.hid ⟨p0, p1, p2, p3, p4, p5, p6, p7, p8, p9, p10, p11, p12, p13, p14, p15, l0d⟩
  have HW := Lib.hid hW
  have HT0 := Lib.hid t0.drew
  clear hnn han hr hg ha hL hc0 hV hW t0 l0 hb0 l0d p0 p1 p2 p3 p4 p5 p6 p7 p8 p9 p10 p11 p12 p13 p14 p15
  go_enter Tryz.func64, Tryz.ntmps64
  go_wp2_with fail
  rw [← HW.out]
  go_region_held3 (fun w' => w'.cell? ⟨w.heap.size, 0, none⟩ = some (.int .i64 6) ∧ w'.cell? ⟨w.heap.size, 1, none⟩ = some (.string k1) ∧ w'.cell? ⟨w.heap.size, 2, none⟩ = some (.slice A2 n2 c2') ∧ w'.cell? ⟨w.heap.size, 3, none⟩ = some (.int .i64 ck) ∧ w'.cell? ⟨w.heap.size, 4, none⟩ = some (.string cn) ∧ w'.cell? ⟨w.heap.size, 5, none⟩ = some (.int .i64 cvk) ∧ w'.cell? ⟨w.heap.size, 6, none⟩ = some (.int .i64 cvn) ∧ w'.cell? ⟨w.heap.size, 7, none⟩ = some (.string cvt) ∧ w'.cell? ⟨w.heap.size, 8, none⟩ = some (.string cop) ∧ w'.cell? ⟨w.heap.size, 9, none⟩ = some (.slice CA cnn cc) ∧ w'.cell? ⟨w.heap.size, 10, none⟩ = some (.slice NA nn nc) ∧ w'.cell? ⟨w.heap.size, 11, none⟩ = some (.slice EA en ec) ∧ w'.cell? ⟨w.heap.size, 12, none⟩ = some (.slice OA ol oc) ∧ w'.cell? ⟨w.heap.size, 13, none⟩ = some (.slice GA gn gc) ∧ w'.cell? ⟨w.heap.size, 14, none⟩ = some (.slice BA bn bc) ∧ w'.cell? ⟨w.heap.size, 15, none⟩ = some (.int .i64 count) ∧ w'.cell? ⟨bl, bo, none⟩ = some (.slice SA a.length sc)) (first | exact HP.out | exact keep17 M1.out.t HP.out) (first
    | (go_at_call 92; refine (Hgs.out _ HT0.out).mono ?_; rintro e w1 ⟨A1, c1, rfl, m1⟩; have M1 := Lib.hid m1; clear m1))
  go_wp2_with fail
  go_ret2
  exact ⟨A1, c1, rfl, M1.out.own, HT0.out.trans0 M1.out.t, fun b hb => Nat.le_trans HT0.out.size (M1.out.f b hb)⟩

end Go.Proofs.YtafoklilkdnepaaGreatDoor

/- relop.Plan.typed at scans. For every sources. -/
namespace Go.Proofs.YtafoklilkdnepaaGreatDoor
open Go.RowKit

/-- how many Args a kind needs -/
def needV : Nat → Nat
  | 2 => 1 | 3 => 1 | 4 => 2 | 5 => 2 | 6 => 1 | 7 => 2 | 8 => 1 | 9 => 1 | _ => 0
/-- the package's table lies there -/
def NeedsAt (w : World) : Prop := ∀ k, k < 10 → w.cell? ⟨0, k, none⟩ = some (.int .i64 (needV k))
theorem NeedsAt.touch0 {w w' : World} (h : NeedsAt w) (ht : Touch [] w w') : NeedsAt w' := fun k hk => ht.cell (h k hk) (by simp)
/-- a schema that lies in memory made since base, and an error -/
def TyPost (base : Nat) (v : Int × List CD) (w : World) (e : Ending) (w' : World) : Prop := ∃ s : SL, e = .returned (.tuple #[.slice s.A s.n s.c, .int .i64 v.1]) ∧ s.n = v.2.length ∧ s.n ≤ s.c ∧ ColsAt w' s.A v.2 ∧ (∀ b ∈ fpo s.A, base ≤ b ∧ b < w'.heap.size) ∧ Touch [] w w'
theorem TyPost.err {w w' : World} (base : Nat) (k : Int) (ht : Touch [] w w') : TyPost base (k, []) w (.returned (.tuple #[.slice none 0 0, .int .i64 k])) w' :=
  ⟨⟨none, 0, 0⟩, rfl, rfl, Nat.le_refl _, RdK.nil _ _ _, by simp [fpo], ht⟩
theorem TyPost.made {w w' : World} {k : Int} {l : List CD} {A : Option Addr} {c : Nat} (h : Made 29 2 cdE l A c w w') : TyPost w.heap.size (k, l) w (.returned (.tuple #[.slice A l.length c, .int .i64 k])) w' :=
  ⟨⟨A, l.length, c⟩, rfl, rfl, h.own.le, h.own.rd, fun b hb => ⟨h.f b hb, h.own.lt b hb⟩, h.t⟩
theorem TyPost.of {v : Int × List CD} {w : World} {e : Ending} {w' : World} (h : SchPost v w e w') : TyPost w.heap.size v w e w' := by
  obtain ⟨A, c, rfl, hm⟩ := h
  exact TyPost.made hm
/-- what the schema of a plan is, wherever it is asked for -/
def TypedC (w : World) (I : Option Addr) (ic n : Nat) (x : PC) (d : Int) (v : Int × List CD) : Prop := ∀ w', Touch [] w w' → Calls Tryz.prog 31 #[x.val, .slice I n ic, .int .i64 d] w' (TyPost w'.heap.size v w')
/-- a scan's -/
def scanV (l : List SrcD) (s : ByteArray) : Int × List CD := match srcI l s with
  | none => (13, [])
  | some k => match l[k]? with
    | none => (13, [])
    | some d => if checkT d.cs d.rows = 0 then (0, d.cs) else (12, [])

set_option maxRecDepth 40000 in
set_option maxHeartbeats 6400000 in
theorem typed_scan (x : PC) (hk0 : x.kind = 1) (ha0 : x.args.n = 0) (d : Int) (hd : d ≤ 16) (I : Option Addr) (ic n : Nat) (l : List SrcD) (hn : l.length = n) (hl : n ≤ 1000000) (hok : ∀ d ∈ l, d.Ok) (w : World) (hG : NeedsAt w) (h : SrcsAt w I l) :
    Calls Tryz.prog 31 #[x.val, .slice I n ic, .int .i64 d] w (TyPost w.heap.size (scanV l x.name) w) := by
  obtain ⟨k0, k1, ⟨A2, n2, c2'⟩, ⟨⟨ck, cn, ⟨cvk, cvn, cvt⟩, cop⟩, CA, cnn, cc⟩, ⟨NA, nn, nc⟩, ⟨EA, en, ec⟩, ⟨OA, ol, oc⟩, ⟨GA, gn, gc⟩, ⟨BA, bn, bc⟩, count⟩ := x
  dsimp only at hk0 ha0 ⊢
  subst hk0 ha0
  simp only [PC.val]
  obtain ⟨W, hW⟩ : ∃ W, W = w.alloc (.cells #[.int .i64 1, .string k1, .slice A2 0 c2', .int .i64 ck, .string cn, .int .i64 cvk, .int .i64 cvn, .string cvt, .string cop, .slice CA cnn cc, .slice NA nn nc, .slice EA en ec, .slice OA ol oc, .slice GA gn gc, .slice BA bn bc, .int .i64 count] 49) := ⟨_, rfl⟩
  have t0 : Touch [] w W := hW ▸ (Touch.refl [] w).alloc _
  have hb0 := hW ▸ heap_alloc_new w (.cells #[.int .i64 1, .string k1, .slice A2 0 c2', .int .i64 ck, .string cn, .int .i64 cvk, .int .i64 cvn, .string cvt, .string cop, .slice CA cnn cc, .slice NA nn nc, .slice EA en ec, .slice OA ol oc, .slice GA gn gc, .slice BA bn bc, .int .i64 count] 49)
  have g1 := t0.cell (hG 1 (by omega)) (by simp)
  have q0 : W.cell? ⟨w.heap.size, 0, none⟩ = some (.int .i64 1) := cell_blk hb0 rfl
  have q1 : W.cell? ⟨w.heap.size, 1, none⟩ = some (.string k1) := cell_blk hb0 rfl
  have q2 : W.cell? ⟨w.heap.size, 2, none⟩ = some (.slice A2 0 c2') := cell_blk hb0 rfl
  have hd2 : (16 < d) = False := by simp; omega
  have HW := Lib.hid hW
  have HT0 := Lib.hid t0
  simp only [needV] at g1
  rcases hs : srcI l k1 with _ | k
  · have Hs := Lib.hid fun w' (t : Touch [] W w') => source_no I ic n l hn k1 w' (h.touch0 (t0.trans0 t)) (by omega) hs
    have Hv := Lib.hid (show scanV l k1 = (13, []) by unfold scanV; rw [hs])
    clear hs h hb0 hW t0
    go_enter Tryz.func31, Tryz.ntmps31
    go_wp2_with fail
    rw [← HW.out]
    go_quiet (fail)
    go_wp2_with fail
    refine (Hs.out _ ((Touch.refl _ _).drewN _)).mono ?_
    rintro e w1 ⟨rfl, t1⟩
    have HT1 := Lib.hid ((HT0.out.drewN _).trans0 t1)
    clear t1
    go_wp2_with fail
    go_ret2
    rw [Hv.out]
    exact TyPost.err _ 13 (HT1.out.alloc _)
  · have hkl := srcI_lt hs
    have Hs := Lib.hid fun w' (t : Touch [] W w') => source_yes I ic n l hn k1 w' (h.touch0 (t0.trans0 t)) (by omega) k hkl hs
    have hdk := hok _ (List.getElem_mem hkl)
    have hlk : l[k]? = some l[k] := List.getElem?_eq_getElem hkl
    obtain ⟨sd, hsd⟩ : ∃ sd, sd = l[k] := ⟨_, rfl⟩
    rw [← hsd] at Hs hdk hlk
    obtain ⟨snm, cs, rows⟩ := sd
    dsimp only at Hs
    have Hv := Lib.hid (show scanV l k1 = if checkT cs rows = 0 then (0, cs) else (12, []) by unfold scanV; rw [hs]; dsimp only; rw [hlk])
    have Hok := Lib.hid hdk
    clear hs h hb0 hW t0 hsd hlk hdk
    go_enter Tryz.func31, Tryz.ntmps31
    go_wp2_with fail
    rw [← HW.out]
    go_quiet (fail)
    go_wp2_with fail
    refine (Hs.out _ ((Touch.refl _ _).drewN _)).mono ?_
    rintro e w1 ⟨s1, r1, rfl, htab, t1⟩
    obtain ⟨SA, sn, sc⟩ := s1
    obtain ⟨RA, rn, rc⟩ := r1
    have HT1 := Lib.hid ((HT0.out.drewN _).trans0 t1)
    have ta := (Touch.refl [] w1).alloc (.cells #[.slice SA sn sc, .slice RA rn rc] 27)
    have hbt := heap_alloc_new w1 (.cells #[.slice SA sn sc, .slice RA rn rc] 27)
    obtain ⟨h1, h2, h3, h4, h5⟩ := htab
    dsimp only at h1 h2 h3 h4 h5
    have hck := checkT_any SA sc sn cs h1.symm Hok.out.cols RA rc rn rows h4.symm Hok.out.rows _ (h3.touch0 ta) (h5.touch0 ta) (by have := Hok.out.n; dsimp only at this; omega) (by have := Hok.out.m; dsimp only at this; omega)
    obtain ⟨K, hK⟩ : ∃ K, K = checkT cs rows := ⟨_, rfl⟩
    rw [← hK] at hck Hv
    have Hck := Lib.hid hck
    have HX := Lib.hid (And.intro ta (And.intro hbt (And.intro h1 (And.intro h2 h3))))
    clear t1 ta hbt h1 h2 h3 h4 h5 hck hK
    by_cases hz : K = 0
    · have Hv0 := Lib.hid (show scanV l k1 = (0, cs) by rw [Hv.out, if_pos hz])
      subst hz
      clear Hv
      go_wp2_with fail
      refine Hck.out.mono ?_
      rintro e w2 ⟨rfl, t2⟩
      obtain ⟨ta, hbt, h1, h2, h3⟩ := HX.out
      obtain ⟨f0, f1, _, _⟩ := blk2 (t2.blk hbt (by simp))
      have Hcl := Lib.hid (cloneC_any SA sc sn cs h1.symm (by have := Hok.out.n; dsimp only at this; omega) w2 (h3.touch0 (ta.trans0 t2)))
      have HT2 := Lib.hid ((HT1.out.trans0 ta).trans0 t2)
      clear ta hbt h1 h2 h3 t2
      go_wp2_with fail
      refine Hcl.out.mono ?_
      rintro e w3 ⟨A3, c3, rfl, hm⟩
      have HM := Lib.hid hm
      clear hm
      go_wp2_with fail
      go_ret2
      rw [Hv0.out]
      exact ⟨⟨A3, sn, c3⟩, rfl, HX.out.2.2.1, by have := HM.out.own.le; have := HX.out.2.2.1; dsimp only; omega, HM.out.own.rd, fun b hb => ⟨Nat.le_trans HT2.out.size (HM.out.f b hb), HM.out.own.lt b hb⟩, HT2.out.trans0 HM.out.t⟩
    · have Hv0 := Lib.hid (show scanV l k1 = (12, []) by rw [Hv.out, if_neg hz])
      have hq : (K == 0) = false := by rw [beq_eq_false_iff_ne]; exact hz
      have hq' : (K != 0) = true := by rw [bne, hq]; rfl
      go_wp2_with fail
      refine Hck.out.mono ?_
      rintro e w2 ⟨rfl, t2⟩
      have HT2 := Lib.hid ((HT1.out.trans0 HX.out.1).trans0 t2)
      clear t2
      go_wp2_with fail
      go_ret2
      rw [Hv0.out]
      exact TyPost.err _ 12 HT2.out
end Go.Proofs.YtafoklilkdnepaaGreatDoor

/- relop.Plan.typed at plans with Args. For every such plan, by what its Args and its own schema tell. -/
namespace Go.Proofs.YtafoklilkdnepaaGreatDoor
open Go.RowKit

/-- the first error -/
def errL : List (Int × List CD) → Int
  | [] => 0
  | v :: r => if v.1 = 0 then errL r else v.1
theorem errL_zero : ∀ {l : List (Int × List CD)}, (∀ v ∈ l, v.1 = 0) → errL l = 0
  | [], _ => rfl
  | v :: l, h => by rw [errL, if_pos (h v List.mem_cons_self)]; exact errL_zero fun x hx => h x (List.mem_cons_of_mem _ hx)
theorem errL_at : ∀ {l : List (Int × List CD)} {j : Nat} (hj : j < l.length), (∀ i (hi : i < j), l[i].1 = 0) → l[j].1 ≠ 0 → errL l = l[j].1
  | v :: l, 0, _, _, h => by
    have h : v.1 ≠ 0 := h
    rw [errL, if_neg h]; rfl
  | v :: l, j + 1, hj, h0, h => by
    have hz : v.1 = 0 := h0 0 (by omega)
    rw [errL, if_pos hz]
    exact errL_at (by simpa using hj) (fun i hi => by have := h0 (i + 1) (by omega); simpa using this) (by simpa using h)
/-- a plan's schema, by those of its Args and its own -/
def nodeV (vs : List (Int × List CD)) (v : Int × List CD) : Int × List CD :=
  if errL vs = 0 then (if v.1 = 0 then (if checkV v.2 = 0 then (0, v.2) else (checkV v.2, [])) else (v.1, [])) else (errL vs, [])
/-- slices that lead to these schemas, made since base -/
def SlcsAt (base : Nat) (w : World) (sl : List SL) (css : List (List CD)) : Prop := sl.length = css.length ∧ ∀ i (h1 : i < sl.length) (h2 : i < css.length), sl[i].n = css[i].length ∧ sl[i].n ≤ sl[i].c ∧ ColsAt w sl[i].A css[i] ∧ ∀ b ∈ fpo sl[i].A, base ≤ b ∧ b < w.heap.size
theorem SlcsAt.nil (base : Nat) (w : World) : SlcsAt base w [] [] := ⟨rfl, fun i h => absurd h (by simp)⟩
theorem SlcsAt.touch {base : Nat} {w w' : World} {sl : List SL} {css : List (List CD)} {fp : List Nat} (h : SlcsAt base w sl css) (ht : Touch fp w w') (hn : ∀ s ∈ sl, ∀ b ∈ fpo s.A, b ∉ fp) : SlcsAt base w' sl css :=
  ⟨h.1, fun i a b => ⟨(h.2 i a b).1, (h.2 i a b).2.1, RdK.touch (h.2 i a b).2.2.1 ht (hn _ (List.getElem_mem a)), fun x hx => ⟨((h.2 i a b).2.2.2 x hx).1, Nat.lt_of_lt_of_le ((h.2 i a b).2.2.2 x hx).2 ht.size⟩⟩⟩
theorem SlcsAt.touch0 {base : Nat} {w w' : World} {sl : List SL} {css : List (List CD)} (h : SlcsAt base w sl css) (ht : Touch [] w w') : SlcsAt base w' sl css := h.touch ht (by simp)
theorem SlcsAt.snoc {base : Nat} {w : World} {sl : List SL} {css : List (List CD)} (h : SlcsAt base w sl css) (s : SL) (cs : List CD) (h1 : s.n = cs.length) (h2 : s.n ≤ s.c) (h3 : ColsAt w s.A cs) (h4 : ∀ b ∈ fpo s.A, base ≤ b ∧ b < w.heap.size) : SlcsAt base w (sl ++ [s]) (css ++ [cs]) := by
  refine ⟨by rw [List.length_append, List.length_append, h.1]; rfl, fun i a b => ?_⟩
  by_cases hi : i < sl.length
  · have hi2 : i < css.length := by rw [← h.1]; exact hi
    rw [List.getElem_append_left hi, List.getElem_append_left hi2]
    exact h.2 i hi hi2
  · have hi' : i = sl.length := by rw [List.length_append] at a; simp at a; omega
    subst hi'
    have e1 : (sl ++ [s])[sl.length] = s := by simp
    have e2 : (css ++ [cs])[sl.length] = cs := by rw [List.getElem_append_right (by rw [h.1]; exact Nat.le_refl _)]; simp [h.1]
    rw [e1, e2]
    exact ⟨h1, h2, h3, h4⟩
/-- what a plan's own schema is, wherever it is asked for with schemas made since -/
def SchemaC (w : World) (x : PC) (css : List (List CD)) (v : Int × List CD) : Prop := ∀ w' (base : Nat) (L : Option Addr) (lc : Nat) (sl : List SL), Touch [] w w' → base ≤ w'.heap.size → SlcsAt base w' sl css → RdK slE w' L sl →
  Calls Tryz.prog 64 #[x.val, .slice L css.length lc] w' (TyPost base v w')
theorem info_s5 : (Tryz.prog.info? 24).map (fun i => (i.zero, i.size, i.bytes)) = some (some (.slice none 0 0), 1, 24) := by kernel_rfl

set_option maxRecDepth 40000 in
set_option maxHeartbeats 12800000 in
theorem typed_node (x : PC) (kk m : Nat) (hk0 : x.kind = kk) (hk2 : 2 ≤ kk) (hk9 : kk ≤ 9) (hm : x.args.n = m) (hnd : needV kk = m) (d : Int) (hd0 : 0 ≤ d) (hd : d ≤ 16) (I : Option Addr) (ic n : Nat) (w : World) (hG : NeedsAt w)
    (xs : List PC) (vs : List (Int × List CD)) (hxs : xs.length = m) (hvs : vs.length = m) (hX : RdK pcE w x.args.A xs) (hT : ∀ i (h1 : i < xs.length) (h2 : i < vs.length), TypedC w I ic n xs[i] (d + 1) vs[i])
    (v : Int × List CD) (hv : errL vs = 0 → SchemaC w x (vs.map (·.2)) v) (hok : ∀ c ∈ v.2, c.Ok) (hvl : v.2.length ≤ 1000000) :
    Calls Tryz.prog 31 #[x.val, .slice I n ic, .int .i64 d] w (TyPost w.heap.size (nodeV vs v) w) := by
  obtain ⟨V, hV⟩ : ∃ V, V = nodeV vs v := ⟨_, rfl⟩
  rw [← hV]
  have HV := Lib.hid hV
  have Hv := Lib.hid hv
  obtain ⟨k0, k1, ⟨A2, n2, c2'⟩, ⟨⟨ck, cn, ⟨cvk, cvn, cvt⟩, cop⟩, CA, cnn, cc⟩, ⟨NA, nn, nc⟩, ⟨EA, en, ec⟩, ⟨OA, ol, oc⟩, ⟨GA, gn, gc⟩, ⟨BA, bn, bc⟩, count⟩ := x
  dsimp only at hk0 hm hX ⊢
  subst hk0 hm
  simp only [PC.val]
  have hneed : n2 ≤ 2 := by
    rw [← hnd]
    have : kk = 2 ∨ kk = 3 ∨ kk = 4 ∨ kk = 5 ∨ kk = 6 ∨ kk = 7 ∨ kk = 8 ∨ kk = 9 := by omega
    rcases this with rfl | rfl | rfl | rfl | rfl | rfl | rfl | rfl <;> simp [needV]
  obtain ⟨W, hW⟩ : ∃ W, W = w.alloc (.cells #[.int .i64 (kk : Nat), .string k1, .slice A2 n2 c2', .int .i64 ck, .string cn, .int .i64 cvk, .int .i64 cvn, .string cvt, .string cop, .slice CA cnn cc, .slice NA nn nc, .slice EA en ec, .slice OA ol oc, .slice GA gn gc, .slice BA bn bc, .int .i64 count] 49) := ⟨_, rfl⟩
  have t0 : Touch [] w W := hW ▸ (Touch.refl [] w).alloc _
  have hb0 := hW ▸ heap_alloc_new w (.cells #[.int .i64 (kk : Nat), .string k1, .slice A2 n2 c2', .int .i64 ck, .string cn, .int .i64 cvk, .int .i64 cvn, .string cvt, .string cop, .slice CA cnn cc, .slice NA nn nc, .slice EA en ec, .slice OA ol oc, .slice GA gn gc, .slice BA bn bc, .int .i64 count] 49)
  have g1 := t0.cell (hG kk (by omega)) (by simp)
  rw [hnd] at g1
  have q0 : W.cell? ⟨w.heap.size, 0, none⟩ = some (.int .i64 kk) := cell_blk hb0 rfl
  have q2 : W.cell? ⟨w.heap.size, 2, none⟩ = some (.slice A2 n2 c2') := cell_blk hb0 rfl
  have hd2 : (16 < d) = False := by simp; omega
  have hka : ((kk : Int) < 1) = False := by simp; omega
  have hkb : (9 < (kk : Int)) = False := by simp; omega
  have hkc : ((kk : Int) == 1) = false := by rw [beq_eq_false_iff_ne]; omega
  have hkd : (0 : Int) ≤ (kk : Int) := by omega
  have hke : (kk : Int) < 10 := by omega
  have hadd0 : (⟨0, 0, none⟩ : Addr).add kk = ⟨0, kk, none⟩ := add_blk _ _
  have HW := Lib.hid hW
  have HT0 := Lib.hid t0
  have HB0 := Lib.hid hb0
  have HX := Lib.hid (RdK.touch0 hX t0)
  have HTy := Lib.hid hT
  have Hok := Lib.hid hok
  have Hxs := Lib.hid hxs
  have Hvs := Lib.hid hvs
  clear hV hv hb0 hW t0 hX hT hok hxs hvs hnd
  go_enter Tryz.func31, Tryz.ntmps31
  go_wp2_with fail
  rw [← HW.out]
  go_quiet (fail)
  go_wp2_with fail
  go_loopw [10, 61] (fun o i wr => ∃ (j : Nat) (L : Option Addr) (lc : Nat) (sl : List SL), j ≤ n2 ∧ i = .int .i64 j ∧ o = .slice L j lc ∧ Hid (∀ i (hi : i < j) (h2 : i < vs.length), vs[i].1 = 0) ∧ Hid (SlcsAt w.heap.size wr sl ((vs.map (·.2)).take j)) ∧ Hid (OwnK 24 1 slE wr L lc sl) ∧ Hid (∀ b ∈ fpo L, W.heap.size ≤ b) ∧ Hid (∀ s ∈ sl, ∀ b ∈ fpo s.A, b ∉ fpo L) ∧ Hid (Touch [] W wr)) (fun _ i _ => n2 - (intOf i).toNat)
  case atStart => exact ⟨0, none, 0, [], by omega, rfl, rfl, Lib.hid (fun i h => absurd h (by omega)), Lib.hid (SlcsAt.nil _ _), Lib.hid (OwnK.nil _ _ _ _), Lib.hid (by simp [fpo]), Lib.hid (by simp), Lib.hid ((Touch.refl _ _).drewN _)⟩
  case round =>
    obtain ⟨j, L, lc, sl, hj, rfl, rfl, HE, HS, HO, HF, HN, HT⟩ := hrel
    have hslj : Hid (sl.length = j) := Lib.hid (by rw [HS.out.1, List.length_take, List.length_map, Hvs.out]; omega)
    by_cases hlt : j < n2
    · have hjx : j < xs.length := by rw [Hxs.out]; exact hlt
      have hjv : j < vs.length := by rw [Hvs.out]; exact hlt
      obtain ⟨ad, b1, o1, rfl, hadd, hc⟩ := RdK.cells (HX.out.touch0 HT.out) 16 pcE_length (by omega) j hjx
      have hty := HTy.out j hjx hjv
      have hmv : (vs.map (·.2)).take (j + 1) = (vs.map (·.2)).take j ++ [vs[j].2] := by
        rw [List.take_succ_eq_append_getElem (by rw [List.length_map]; exact hjv), List.getElem_map]
      have her := fun h0 => errL_at (l := vs) hjv (fun i hi => HE.out i hi (by omega)) h0
      obtain ⟨y, hy⟩ : ∃ y, y = xs[j] := ⟨_, rfl⟩
      obtain ⟨u, hu⟩ : ∃ u, u = vs[j] := ⟨_, rfl⟩
      rw [← hy] at hc hty
      rw [← hu] at hty hmv her
      obtain ⟨y0, y1, ⟨yA2, yn2, yc2⟩, ⟨⟨yck, ycn, ⟨ycvk, ycvn, ycvt⟩, ycop⟩, yCA, ycnn, ycc⟩, ⟨yNA, ynn, ync⟩, ⟨yEA, yen, yec⟩, ⟨yOA, yol, yoc⟩, ⟨yGA, ygn, ygc⟩, ⟨yBA, ybn, ybc⟩, ycount⟩ := y
      have e0 := hc 0 _ rfl; have e1 := hc 1 _ rfl; have e2 := hc 2 _ rfl; have e3 := hc 3 _ rfl; have e4 := hc 4 _ rfl; have e5 := hc 5 _ rfl; have e6 := hc 6 _ rfl; have e7 := hc 7 _ rfl
      have e8 := hc 8 _ rfl; have e9 := hc 9 _ rfl; have e10 := hc 10 _ rfl; have e11 := hc 11 _ rfl; have e12 := hc 12 _ rfl; have e13 := hc 13 _ rfl; have e14 := hc 14 _ rfl; have e15 := hc 15 _ rfl
      rw [Nat.add_zero] at e0
      dsimp only at e0 e1 e2 e3 e4 e5 e6 e7 e8 e9 e10 e11 e12 e13 e14 e15
      have ta := (Touch.refl [] wr).alloc (.cells #[.int .i64 y0, .string y1, .slice yA2 yn2 yc2, .int .i64 yck, .string ycn, .int .i64 ycvk, .int .i64 ycvn, .string ycvt, .string ycop, .slice yCA ycnn ycc, .slice yNA ynn ync, .slice yEA yen yec, .slice yOA yol yoc, .slice yGA ygn ygc, .slice yBA ybn ybc, .int .i64 ycount] 49)
      have hty2 := hty _ ((HT0.out.trans0 HT.out).trans0 ta)
      simp only [PC.val] at hty2
      have Hty := Lib.hid hty2
      have Hmv := Lib.hid hmv
      have HTa := Lib.hid ta
      have hjn : (j : Int) < (n2 : Int) := by omega
      obtain ⟨uer, ucs⟩ := u
      dsimp only at her hmv Hmv Hty
      have Hu := Lib.hid hu
      clear hc hty hty2 hy hu hmv ta
      by_cases hz : uer = 0
      · subst hz
        clear her
        go_wp2_with fail
        refine Hty.out.mono ?_
        rintro e w1 ⟨s, rfl, s1, s2, s3, s4, t1⟩
        obtain ⟨sA, sn, sc⟩ := s
        have T1 := HTa.out.trans0 t1
        have HY := Lib.hid (And.intro s1 (And.intro s2 (And.intro s3 s4)))
        have HT1 := Lib.hid T1
        clear s1 s2 s3 s4 t1 T1
        go_wp2_with (at_builtin; refine stop ?_)
        refine go ?_
        have tb := (Touch.refl [] w1).alloc (.cells #[.slice sA sn sc] 24)
        refine wpList_appK (enc := slE) rfl (.tmp 76) (.tmp 78) 119 rfl 24 _ 1 24 info_s5 Tryz.underlying119 rfl (by omega) slE_length slE_one L j lc sl hslj.out rfl (HO.out.touch0 (HT1.out.trans0 tb))
          (some ⟨w1.heap.size, 0, none⟩) 1 1 [⟨sA, sn, sc⟩] rfl rfl (RdK.one (enc := slE) w1 24 ⟨sA, sn, sc⟩ _ rfl) (by omega) (by omega) ?_
        intro L' lc' w' hown ht hf
        have HN2 := Lib.hid (And.intro hown (And.intro ht hf))
        clear hown ht hf tb
        go_wp2_with fail
        go_roundw
        case rel =>
          obtain ⟨hown, ht, hf⟩ := HN2.out
          obtain ⟨s1, s2, s3, s4⟩ := HY.out
          have tb := (Touch.refl [] w1).alloc (.cells #[.slice sA sn sc] 24)
          have hLlt := HO.out.lt
          have hsz := HT1.out.size
          rw [World.size_alloc] at hf s4
          have hbase : w.heap.size ≤ wr.heap.size := (HT0.out.trans0 HT.out).size
          have hbase2 : W.heap.size ≤ wr.heap.size := HT.out.size
          have hs4 : ∀ b ∈ fpo sA, w.heap.size ≤ b ∧ b < w1.heap.size := fun b hb => ⟨by have := (s4 b hb).1; omega, (s4 b hb).2⟩
          have hnew : ∀ b ∈ fpo sA, b ∉ fpo L := fun b hb hm => by have := hLlt b hm; have := (s4 b hb).1; omega
          have hsn := ((HS.out.touch0 HT1.out).snoc ⟨sA, sn, sc⟩ ucs s1 s2 s3 hs4).touch0 tb
          have hall : ∀ s ∈ sl ++ [(⟨sA, sn, sc⟩ : SL)], ∀ b ∈ fpo s.A, b ∉ fpo L := fun s hs b hb => by
            rcases List.mem_append.1 hs with q | q
            · exact HN.out s q b hb
            · simp only [List.mem_singleton] at q; subst q; exact hnew b hb
          have hlt2 : ∀ s ∈ sl ++ [(⟨sA, sn, sc⟩ : SL)], ∀ b ∈ fpo s.A, b < w1.heap.size := fun s hs b hb => by
            obtain ⟨i, hi, rfl⟩ := List.mem_iff_getElem.1 hs
            have h0 := ((HS.out.touch0 HT1.out).snoc ⟨sA, sn, sc⟩ ucs s1 s2 s3 hs4)
            exact (((h0.2 i hi (by rw [← h0.1]; exact hi)).2.2.2) b hb).2
          refine ⟨j + 1, L', lc', sl ++ [⟨sA, sn, sc⟩], by omega, by go_num, rfl, Lib.hid (fun i hi h2 => ?_), Lib.hid (by rw [Hmv.out]; exact hsn.touch ht hall), Lib.hid hown, Lib.hid (fun b hb => ?_), Lib.hid (fun s hs b hb hm => ?_), Lib.hid (((HT.out.trans0 HT1.out).trans0 tb).trans ht (fun b hb => .inr ?_))⟩
          · by_cases hij : i = j
            · subst hij; rw [← Hu.out]
            · exact HE.out i (by omega) h2
          · rcases hf b hb with q | q
            · exact HF.out b q
            · omega
          · rcases hf b hm with q | q
            · exact hall s hs b hb q
            · have := hlt2 s hs b hb; omega
          · exact HF.out b hb
        case measure => simp [intOf]; omega
      · have HVe := Lib.hid (show V = (uer, []) by
          rw [HV.out]; unfold nodeV; rw [her hz, if_neg hz])
        have hq : (uer == 0) = false := by rw [beq_eq_false_iff_ne]; exact hz
        have hq' : (uer != 0) = true := by rw [bne, hq]; rfl
        clear her
        go_wp2_with fail
        refine Hty.out.mono ?_
        rintro e w1 ⟨s, rfl, s1, s2, s3, s4, t1⟩
        have HT1 := Lib.hid (((HT0.out.trans0 HT.out).trans0 HTa.out).trans0 t1)
        clear s1 s2 s3 s4 t1
        go_wp2_with fail
        go_ret2
        rw [HVe.out]
        exact TyPost.err _ uer HT1.out
    · obtain rfl : j = n2 := by omega
      have hz : errL vs = 0 := errL_zero fun u hu => by
        obtain ⟨i, hi, rfl⟩ := List.mem_iff_getElem.1 hu
        exact HE.out i (by rw [← Hvs.out]; exact hi) hi
      have HVe := Lib.hid (show V = if v.1 = 0 then (if checkV v.2 = 0 then (0, v.2) else (checkV v.2, [])) else (v.1, []) by rw [HV.out]; unfold nodeV; rw [if_pos hz])
      have hlen : (vs.map (·.2)).length = j := by rw [List.length_map]; exact Hvs.out
      have hsl : SlcsAt w.heap.size wr sl (vs.map (·.2)) := by
        have := HS.out
        rwa [← hlen, List.take_length] at this
      have hsc := Hv.out hz wr w.heap.size L lc sl (HT0.out.trans0 HT.out) (HT0.out.trans0 HT.out).size hsl HO.out.rd
      rw [hlen] at hsc
      simp only [PC.val] at hsc
      have Hsc := Lib.hid hsc
      obtain ⟨p0, p1, p2, p3, p4, p5, p6, p7, p8, p9, p10, p11, p12, p13, p14, p15⟩ := blk16 (HT.out.blk HB0.out (by simp))
      have HT1 := Lib.hid (HT0.out.trans0 HT.out)
      obtain ⟨ver, vcs⟩ := v
      dsimp only at hvl HVe
      have hck : Hid (∀ (A : Option Addr) (c : Nat) (w' : World), ColsAt w' A vcs → Calls Tryz.prog 33 #[.slice A vcs.length c] w' fun e w'' => e = .returned (.int .i64 (checkV vcs)) ∧ Touch [] w' w'') := Lib.hid fun A c w' hcs => check_any A c vcs.length vcs rfl Hok.out w' hcs (by omega)
      obtain ⟨K, hK⟩ : ∃ K, K = checkV vcs := ⟨_, rfl⟩
      rw [← hK] at hck HVe
      clear hsc hz hlen hsl hK HE HS HO HF HN HT hslj hlt q0 q2 g1 hadd0
      by_cases hv0 : ver = 0
      · have HVf := Lib.hid (show V = if K = 0 then (0, vcs) else (K, []) by rw [HVe.out, if_pos hv0])
        subst hv0
        clear HVe
        by_cases hK0 : K = 0
        · have HVg := Lib.hid (show V = (0, vcs) by rw [HVf.out, if_pos hK0])
          subst hK0
          clear HVf
          go_wp2_with fail
          refine Hsc.out.mono ?_
          rintro e w1 ⟨⟨sA, sn, sc⟩, rfl, s1, s2, s3, s4, t1⟩
          have HY := Lib.hid (And.intro s1 (And.intro s2 (And.intro s3 s4)))
          have hcc := hck.out sA sc w1 s3
          rw [← show sn = vcs.length from s1] at hcc
          have Hcc := Lib.hid hcc
          have HT2 := Lib.hid (HT1.out.trans0 t1)
          clear s1 s2 s3 s4 t1 hcc
          go_wp2_with fail
          refine Hcc.out.mono ?_
          rintro e w2 ⟨rfl, t2⟩
          have HT3 := Lib.hid t2
          clear t2
          go_wp2_with fail
          go_ret2
          rw [HVg.out]
          obtain ⟨s1, s2, s3, s4⟩ := HY.out
          exact ⟨⟨sA, sn, sc⟩, rfl, s1, s2, s3.touch0 HT3.out, fun b hb => ⟨(s4 b hb).1, Nat.lt_of_lt_of_le (s4 b hb).2 HT3.out.size⟩, HT2.out.trans0 HT3.out⟩
        · have HVg := Lib.hid (show V = (K, []) by rw [HVf.out, if_neg hK0])
          have hq : (K == 0) = false := by rw [beq_eq_false_iff_ne]; exact hK0
          have hq' : (K != 0) = true := by rw [bne, hq]; rfl
          clear HVf
          go_wp2_with fail
          refine Hsc.out.mono ?_
          rintro e w1 ⟨⟨sA, sn, sc⟩, rfl, s1, s2, s3, s4, t1⟩
          have hcc := hck.out sA sc w1 s3
          rw [← show sn = vcs.length from s1] at hcc
          have Hcc := Lib.hid hcc
          have HT2 := Lib.hid (HT1.out.trans0 t1)
          clear s1 s2 s3 s4 t1 hcc
          go_wp2_with fail
          refine Hcc.out.mono ?_
          rintro e w2 ⟨rfl, t2⟩
          have HT3 := Lib.hid (HT2.out.trans0 t2)
          clear t2
          go_wp2_with fail
          go_ret2
          rw [HVg.out]
          exact TyPost.err _ K HT3.out
      · have HVf := Lib.hid (show V = (ver, []) by rw [HVe.out, if_neg hv0])
        have hq : (ver == 0) = false := by rw [beq_eq_false_iff_ne]; exact hv0
        have hq' : (ver != 0) = true := by rw [bne, hq]; rfl
        clear HVe
        go_wp2_with fail
        refine Hsc.out.mono ?_
        rintro e w1 ⟨⟨sA, sn, sc⟩, rfl, s1, s2, s3, s4, t1⟩
        have HT2 := Lib.hid (HT1.out.trans0 t1)
        clear s1 s2 s3 s4 t1
        go_wp2_with fail
        go_ret2
        rw [HVf.out]
        exact TyPost.err _ ver HT2.out
end Go.Proofs.YtafoklilkdnepaaGreatDoor
