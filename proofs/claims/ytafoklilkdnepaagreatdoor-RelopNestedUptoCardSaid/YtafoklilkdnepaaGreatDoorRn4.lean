/- Part 4 of the texts of this proof, one behind the other. No condition beyond those that its theorems state. -/
import Derived.Test.YtafoklilkdnepaaGreatDoorRn3
import Derived.WalkSpells
set_option maxRecDepth 40000
set_option maxHeartbeats 25600000
namespace Go.Proofs.YtafoklilkdnepaaGreatDoor
section
open Go.RowKit
theorem src1_any (nm : ByteArray) (s1 r1 : SL) (B : Nat) (s : ByteArray) (w : World) (hB : w.cell? ⟨B, 0, none⟩ = some (.string s)) :
  Calls Tryz.prog 87 #[.agg #[.string nm, .slice s1.A s1.n s1.c, .slice r1.A r1.n r1.c], .pointer (some ⟨B, 0, none⟩)] w fun e w' => e = .returned (.bool (decide (nm = s))) /\ Touch [] w w' := by
 have hbq := bs_beq nm s
 have t0 := (Touch.refl [] w).alloc (.cells #[.string nm, .slice s1.A s1.n s1.c, .slice r1.A r1.n r1.c] 36)
 have hlt : B < w.heap.size := World.block_lt_of_cell? w _ hB
 go_enter Tryz.func87, Tryz.ntmps87
 go_wp2
 all_goals
  go_ret
  exact ⟨rfl, t0⟩
theorem idxSrc_any (I : Option Addr) (cap n : Nat) (l : List SrcD) (hn : l.length = n) (B : Nat) (s : ByteArray) (w : World) (h : SrcsAt w I l) (hB : w.cell? ⟨B, 0, none⟩ = some (.string s)) (hl : n <= 140737000000000) :
  Calls Tryz.prog 86 #[.slice I n cap, .func (.func 87) #[] #[.pointer (some ⟨B, 0, none⟩)]] w fun e w' =>
   e = .returned (.int .i64 (srcN l s)) /\ Touch [] w w' := by
 subst hn
 go_enter Tryz.func86, Tryz.ntmps86
 go_wp2
 go_loopw [8] (fun i wr => ∃ k : Nat, k <= l.length /\ i = .int .i64 k /\ Hid (∀ j (hj : j < k) (hl : j < l.length), l[j].name ≠ s) /\ Touch [] w wr) (fun i _ => l.length - (intOf i).toNat)
 case atStart => exact ⟨0, by omega, rfl, lh (fun j hj => absurd hj (by omega)), Touch.refl _ _⟩
 case round =>
  obtain ⟨k, hk, rfl, Hno, ht⟩ := hrel
  by_cases hlt : k < l.length
  ·obtain ⟨ad, b, off, s1, r1, rfl, hadd, c0, c1, c2, _⟩ := (h.touch0 ht).at_ k hlt
   have hyes := srcI_some (s := s) hlt
   obtain ⟨c, hce⟩ : ∃ c, c = l[k] := ⟨_, rfl⟩
   rw [<- hce] at c0 hyes
   have Hce := lh hce; have Hyes := lh hyes
   clear hce hyes
   have hf := src1_any c.name s1 r1 B s wr (ht.cell hB (by simp))
   by_cases hcs : c.name = s
   ·rw [decide_eq_true hcs] at hf
    have Hf := lh hf
    have Hp := lh (Hyes.out hcs (fun j hj => Hno.out j hj (by omega)))
    clear hf hcs
    go_wp2_with (go_at_call 87; refine Hf.out.mono ?_; rintro e w1 ⟨rfl, t1⟩)
    go_ret
    exact ⟨ret_int (by unfold srcN; rw [Hp.out]), ht.trans0 t1⟩
   ·rw [decide_eq_false hcs] at hf
    have Hf := lh hf
    have Hcs := lh hcs
    clear hf hcs
    go_wp2_with (go_at_call 87; refine Hf.out.mono ?_; rintro e w1 ⟨rfl, t1⟩)
    go_roundw
    case rel => exact ⟨k + 1, by omega, by go_num, lh (fun j hj hl => by
     by_cases hjk : j = k
     ·subst hjk; rw [<- Hce.out]; exact Hcs.out
     ·exact Hno.out j (by omega) hl), ht.trans0 t1⟩
    case measure => simp [intOf]; omega
  ·obtain rfl : k = l.length := by omega
   have Hp := lh (srcI_none (l := l) (s := s) (fun j hj => Hno.out j hj hj))
   go_wp2
   go_ret
   exact ⟨ret_int (by unfold srcN; rw [Hp.out]), ht⟩
theorem source_no (I : Option Addr) (cap n : Nat) (l : List SrcD) (hn : l.length = n) (s : ByteArray) (w : World) (h : SrcsAt w I l) (hl : n <= 140737000000000) (hp : srcI l s = none) :
  Calls Tryz.prog 62 #[.slice I n cap, .string s] w fun e w' => e = .returned (.tuple #[.agg #[.slice none 0 0, .slice none 0 0], .bool false]) /\ Touch [] w w' := by
 have t0 := ((Touch.refl [] w).alloc (.cells #[.string s] 9)).alloc (.cells #[.slice none 0 0, .slice none 0 0] 27)
 have hb := (((Touch.refl [] (w.alloc (.cells #[.string s] 9))).alloc (.cells #[.slice none 0 0, .slice none 0 0] 27)).blk (heap_alloc_new w (.cells #[.string s] 9)) (by simp))
 have hr := heap_alloc_new (w.alloc (.cells #[.string s] 9)) (.cells #[.slice none 0 0, .slice none 0 0] 27)
 rw [World.size_alloc] at hr
 have hi := idxSrc_any I cap n l hn w.heap.size s _ (h.touch0 t0) (cell_blk hb (i := 0) rfl) hl
 rw [show srcN l s = -1 by unfold srcN; rw [hp]] at hi
 have Hi := lh hi
 have HR := lh (And.intro t0 hr)
 clear hi hp hb hr t0
 go_enter Tryz.func62, Tryz.ntmps62
 go_wp2_with fail
 refine Hi.out.mono ?_
 rintro e w1 ⟨rfl, t1⟩
 have hr1 := t1.blk HR.out.2 (by simp)
 obtain ⟨z0, z1, y0, y1⟩ := blk2 hr1
 have HT := lh (And.intro (HR.out.1.trans0 t1) hr1)
 clear hr1 t1
 go_wp2_with fail
 refine bodyPost_ret (results_cell_two rfl _ _ (w.heap.size + 1) _ _ _ _ rfl (set2 HT.out.2 rfl _ _) Tryz.underlying27 rfl rfl) rfl ⟨rfl, HT.out.1.trans (touch2 _ _ _ _) (fun b hb => .inr (by simp at hb; omega))⟩
theorem source_yes (I : Option Addr) (cap n : Nat) (l : List SrcD) (hn : l.length = n) (s : ByteArray) (w : World) (h : SrcsAt w I l) (hl : n <= 140737000000000) (k : Nat) (hk : k < l.length) (hp : srcI l s = some k) :
  Calls Tryz.prog 62 #[.slice I n cap, .string s] w fun e w' => ∃ s1 r1 : SL, e = .returned (.tuple #[.agg #[.slice s1.A s1.n s1.c, .slice r1.A r1.n r1.c], .bool true]) /\ TabAt w' s1 r1 l[k].cs l[k].rows /\ Touch [] w w' := by
 have t0 := ((Touch.refl [] w).alloc (.cells #[.string s] 9)).alloc (.cells #[.slice none 0 0, .slice none 0 0] 27)
 have hb := (((Touch.refl [] (w.alloc (.cells #[.string s] 9))).alloc (.cells #[.slice none 0 0, .slice none 0 0] 27)).blk (heap_alloc_new w (.cells #[.string s] 9)) (by simp))
 have hr := heap_alloc_new (w.alloc (.cells #[.string s] 9)) (.cells #[.slice none 0 0, .slice none 0 0] 27)
 rw [World.size_alloc] at hr
 have hi := idxSrc_any I cap n l hn w.heap.size s _ (h.touch0 t0) (cell_blk hb (i := 0) rfl) hl
 rw [show srcN l s = (k : Int) by unfold srcN; rw [hp]] at hi
 obtain ⟨ad, b, off, s1, r1, rfl, hadd, c0, c1, c2, hT⟩ := h.at_ k hk
 have hkn : (k : Int) < (n : Int) := by omega
 have hk0 : ((k : Int) < 0) = False := by simp
 have Hi := lh hi
 have HR := lh (And.intro t0 (And.intro hr (And.intro hT (And.intro c1 c2))))
 clear hi hp hb hr t0 hT c0 c1 c2
 go_enter Tryz.func62, Tryz.ntmps62
 go_wp2_with fail
 refine Hi.out.mono ?_
 rintro e w1 ⟨rfl, t1⟩
 have hr1 := t1.blk HR.out.2.1 (by simp)
 obtain ⟨z0, z1, y0, y1⟩ := blk2 hr1
 have T1 := HR.out.1.trans0 t1
 have d1 := T1.cell HR.out.2.2.2.1 (by simp)
 have d2 := T1.cell HR.out.2.2.2.2 (by simp)
 have HT := lh (And.intro T1 hr1)
 clear hr1 t1 T1
 go_wp2_with fail
 refine bodyPost_ret (results_cell_two rfl _ _ (w.heap.size + 1) _ _ _ _ rfl (set2 HT.out.2 rfl _ _) Tryz.underlying27 rfl rfl) rfl ⟨s1, r1, rfl, ?_, ?_⟩
 ·exact HR.out.2.2.1.touch0 (HT.out.1.trans (touch2 _ _ _ _) (fun b hb => .inr (by simp at hb; omega)))
 ·exact HT.out.1.trans (touch2 _ _ _ _) (fun b hb => .inr (by simp at hb; omega))
end
section
open Go.RowKit
def placeV (cs : List CD) (s : ByteArray) : Option Nat := cs.findIdx? fun c => decide (c.name = s)
def placeI (cs : List CD) (s : ByteArray) : Int := match placeV cs s with | some k => (k : Int) | none => -1
theorem placeV_some {cs : List CD} {s : ByteArray} {k : Nat} (h : k < cs.length) (hk : cs[k].name = s) (hno : ∀ j (hj : j < k), cs[j].name ≠ s) : placeV cs s = some k := by
 unfold placeV
 rw [List.findIdx?_eq_some_iff_getElem]
 exact ⟨h, by simpa using hk, fun j hj => by simpa using hno j hj⟩
theorem placeV_none {cs : List CD} {s : ByteArray} (hno : ∀ j (hj : j < cs.length), cs[j].name ≠ s) : placeV cs s = none := by
 unfold placeV
 rw [List.findIdx?_eq_none_iff]
 intro c hc
 obtain ⟨j, hj, rfl⟩ := List.mem_iff_getElem.1 hc
 simpa using hno j hj
theorem placeV_lt {cs : List CD} {s : ByteArray} {k : Nat} (h : placeV cs s = some k) : k < cs.length := by
 unfold placeV at h
 rw [List.findIdx?_eq_some_iff_getElem] at h
 exact h.1
theorem find1_any (c : CD) (B : Nat) (s : ByteArray) (w : World) (hB : w.cell? ⟨B, 0, none⟩ = some (.string s)) :
  Calls Tryz.prog 166 #[.agg #[.string c.name, .int .i64 c.typ], .pointer (some ⟨B, 0, none⟩)] w fun e w' => e = .returned (.bool (decide (c.name = s))) /\ Touch [] w w' := by
 have hbq := bs_beq c.name s
 have t0 := (Touch.refl [] w).alloc (.cells #[.string c.name, .int .i64 c.typ] 29)
 have hlt : B < w.heap.size := World.block_lt_of_cell? w _ hB
 go_enter Tryz.func166, Tryz.ntmps166
 go_wp2
 all_goals
  go_ret
  exact ⟨rfl, t0⟩
theorem indexFunc_any (A : Option Addr) (cap n : Nat) (cs : List CD) (hn : cs.length = n) (B : Nat) (s : ByteArray) (w : World) (h : ColsAt w A cs) (hB : w.cell? ⟨B, 0, none⟩ = some (.string s)) (hl : n <= 140737000000000) :
  Calls Tryz.prog 165 #[.slice A n cap, .func (.func 166) #[] #[.pointer (some ⟨B, 0, none⟩)]] w fun e w' =>
   e = .returned (.int .i64 (placeI cs s)) /\ Touch [] w w' := by
 subst hn
 go_enter Tryz.func165, Tryz.ntmps165
 go_wp2
 go_loopw [8] (fun i wr => ∃ k : Nat, k <= cs.length /\ i = .int .i64 k /\ Hid (∀ j (hj : j < k) (hl : j < cs.length), cs[j].name ≠ s) /\ Touch [] w wr) (fun i _ => cs.length - (intOf i).toNat)
 case atStart => exact ⟨0, by omega, rfl, lh (fun j hj => absurd hj (by omega)), Touch.refl _ _⟩
 case round =>
  obtain ⟨k, hk, rfl, Hno, ht⟩ := hrel
  by_cases hlt : k < cs.length
  ·obtain ⟨ad, b, off, rfl, hadd, c0, c1⟩ := (h.touch0 ht).at_ k hlt
   have hyes := placeV_some (s := s) hlt
   obtain ⟨c, hce⟩ : ∃ c, c = cs[k] := ⟨_, rfl⟩
   rw [<- hce] at c0 c1 hyes
   have Hce := lh hce; have Hyes := lh hyes
   clear hce hyes
   have hf := find1_any c B s wr (ht.cell hB (by simp))
   by_cases hcs : c.name = s
   ·rw [decide_eq_true hcs] at hf
    have Hf := lh hf
    have Hp := lh (Hyes.out hcs (fun j hj => Hno.out j hj (by omega)))
    clear hf hcs
    go_wp2_with (go_at_call 166; refine Hf.out.mono ?_; rintro e w1 ⟨rfl, t1⟩)
    go_ret
    exact ⟨ret_int (by unfold placeI; rw [Hp.out]), ht.trans0 t1⟩
   ·rw [decide_eq_false hcs] at hf
    have Hf := lh hf
    have Hcs := lh hcs
    clear hf hcs
    go_wp2_with (go_at_call 166; refine Hf.out.mono ?_; rintro e w1 ⟨rfl, t1⟩)
    go_roundw
    case rel => exact ⟨k + 1, by omega, by go_num, lh (fun j hj hl => by
     by_cases hjk : j = k
     ·subst hjk; rw [<- Hce.out]; exact Hcs.out
     ·exact Hno.out j (by omega) hl), ht.trans0 t1⟩
    case measure => simp [intOf]; omega
  ·obtain rfl : k = cs.length := by omega
   have Hp := lh (placeV_none (cs := cs) (s := s) (fun j hj => Hno.out j hj hj))
   go_wp2
   go_ret
   exact ⟨ret_int (by unfold placeI; rw [Hp.out]), ht⟩
theorem findC_any (A : Option Addr) (cap n : Nat) (cs : List CD) (hn : cs.length = n) (s : ByteArray) (w : World) (h : ColsAt w A cs) (hl : n <= 140737000000000) :
  Calls Tryz.prog 130 #[.slice A n cap, .string s] w fun e w' =>
   e = .returned (.tuple #[.int .i64 (((placeV cs s).getD 0 : Nat) : Int), .bool (placeV cs s).isSome]) /\ Touch [] w w' := by
 subst hn
 have t0 := (Touch.refl [] w).alloc (.cells #[.string s] 9)
 have hb := heap_alloc_new w (.cells #[.string s] 9)
 have hi := indexFunc_any A cap cs.length cs rfl w.heap.size s _ (h.touch0 t0) (cell_blk hb (i := 0) rfl) hl
 rcases hp : placeV cs s with _ | k
 ·rw [show placeI cs s = -1 by unfold placeI; rw [hp]] at hi
  have Hi := lh hi
  clear hi hp hb
  go_enter Tryz.func130, Tryz.ntmps130
  go_wp2_with (go_at_call 165; refine Hi.out.mono ?_; rintro e w1 ⟨rfl, t1⟩)
  go_ret2
  exact ⟨rfl, t0.trans0 t1⟩
 ·rw [show placeI cs s = (k : Int) by unfold placeI; rw [hp]] at hi
  have hkl := placeV_lt hp
  have Hi := lh hi
  clear hi hp hb
  have hmx : max (k : Int) 0 = k := by omega
  have hk0 : (0 : Int) <= k := by omega
  go_enter Tryz.func130, Tryz.ntmps130
  go_wp2_with (go_at_call 165; refine Hi.out.mono ?_; rintro e w1 ⟨rfl, t1⟩)
  go_ret2
  exact ⟨rfl, t0.trans0 t1⟩
end
section
open Go.RowKit
def strO (l : List ByteArray) (s : ByteArray) : Option Nat := l.findIdx? fun x => decide (s = x)
def strN (l : List ByteArray) (s : ByteArray) : Int := match strO l s with | some k => (k : Int) | none => -1
theorem strO_some {l : List ByteArray} {s : ByteArray} {k : Nat} (h : k < l.length) (hk : s = l[k]) (hno : ∀ j (hj : j < k), s ≠ l[j]) : strO l s = some k := by
 unfold strO
 rw [List.findIdx?_eq_some_iff_getElem]
 exact ⟨h, by simpa using hk, fun j hj => by simpa using hno j hj⟩
theorem strO_none {l : List ByteArray} {s : ByteArray} (hno : ∀ j (hj : j < l.length), s ≠ l[j]) : strO l s = none := by
 unfold strO
 rw [List.findIdx?_eq_none_iff]
 intro c hc
 obtain ⟨j, hj, rfl⟩ := List.mem_iff_getElem.1 hc
 simpa using hno j hj
def memS (l : List ByteArray) (s : ByteArray) : Bool := l.any fun x => decide (s = x)
theorem strN_mem (l : List ByteArray) (s : ByteArray) : decide (0 <= strN l s) = memS l s := by
 by_cases h : s ∈ l
 ·have h2 : memS l s = true := List.any_eq_true.2 ⟨s, h, decide_eq_true rfl⟩
  have : strO l s ≠ none := by
   unfold strO
   rw [Ne, List.findIdx?_eq_none_iff]
   intro hn
   have := hn s h
   simp at this
  unfold strN
  rw [h2]
  rcases hs : strO l s with _ | k
  ·exact absurd hs this
  ·simp
 ·have : strO l s = none := strO_none fun j hj e => h (e ▸ List.getElem_mem hj)
  have h2 : memS l s = false := List.any_eq_false.2 fun x hx => by
   have : s ≠ x := fun e => h (e ▸ hx)
   simpa using this
  unfold strN
  rw [this, h2]
  simp
theorem strN_b (l : List ByteArray) (s : ByteArray) : -1 <= strN l s /\ strN l s <= l.length := by
 unfold strN
 rcases hs : strO l s with _ | k
 ·dsimp only; omega
 ·have := (List.findIdx?_eq_some_iff_getElem.1 hs).1
  dsimp only; omega
theorem indexS_any (A : Option Addr) (c n : Nat) (l : List ByteArray) (hn : l.length = n) (s : ByteArray) (w : World) (h : RdK btE w A l) (hl : n <= 140737000000000) :
  Calls Tryz.prog 184 #[.slice A n c, .string s] w fun e w' => e = .returned (.int .i64 (strN l s)) /\ Touch [] w w' := by
 subst hn
 go_enter Tryz.func184, Tryz.ntmps184
 go_wp2
 go_loopw [8] (fun i wr => ∃ k : Nat, k <= l.length /\ i = .int .i64 k /\ Hid (∀ j (hj : j < k) (hl : j < l.length), s ≠ l[j]) /\ Touch [] w wr) (fun i _ => l.length - (intOf i).toNat)
 case atStart => exact ⟨0, by omega, rfl, lh (fun j hj => absurd hj (by omega)), Touch.refl _ _⟩
 case round =>
  obtain ⟨k, hk, rfl, Hno, ht⟩ := hrel
  by_cases hlt : k < l.length
  ·obtain ⟨ad, b, off, rfl, hadd, hc⟩ := RdK.cells (h.touch0 ht) 1 btE_length (by omega) k hlt
   rw [Nat.mul_one] at hadd
   have c0 := hc 0 _ rfl
   rw [Nat.add_zero] at c0
   have hyes := strO_some (s := s) hlt
   obtain ⟨x, hx⟩ : ∃ x, x = l[k] := ⟨_, rfl⟩
   rw [<- hx] at c0 hyes
   have Hx := lh hx; have Hyes := lh hyes
   clear hx hyes hc
   by_cases hcs : s = x
   ·have Hp := lh (Hyes.out hcs (fun j hj => Hno.out j hj (by omega)))
    have hb : (s.toList == x.toList) = true := by rw [bs_beq]; exact decide_eq_true hcs
    clear hcs
    go_wp2
    go_ret
    exact ⟨ret_int (by unfold strN; rw [Hp.out]), ht⟩
   ·have hb : (s.toList == x.toList) = false := by rw [bs_beq]; exact decide_eq_false hcs
    have Hcs := lh hcs
    clear hcs
    go_wp2
    go_roundw
    case rel => exact ⟨k + 1, by omega, by go_num, lh (fun j hj hl => by
     by_cases hjk : j = k
     ·subst hjk; rw [<- Hx.out]; exact Hcs.out
     ·exact Hno.out j (by omega) hl), ht⟩
    case measure => simp [intOf]; omega
  ·obtain rfl : k = l.length := by omega
   have Hp := lh (strO_none (l := l) (s := s) (fun j hj => Hno.out j hj hj))
   go_wp2
   go_ret
   exact ⟨ret_int (by unfold strN; rw [Hp.out]), ht⟩
theorem containsS_any (A : Option Addr) (c n : Nat) (l : List ByteArray) (hn : l.length = n) (s : ByteArray) (w : World) (h : RdK btE w A l) (hl : n <= 140737000000000) :
  Calls Tryz.prog 167 #[.slice A n c, .string s] w fun e w' => e = .returned (.bool (memS l s)) /\ Touch [] w w' := by
 have hi := indexS_any A c n l hn s w h hl
 have hm := strN_mem l s
 have hb := strN_b l s
 obtain ⟨i, hie⟩ : ∃ i, i = strN l s := ⟨_, rfl⟩
 rw [<- hie] at hi hm hb
 have Hi := lh hi
 have Hm := lh hm
 clear hi hm hie
 go_enter Tryz.func167, Tryz.ntmps167
 go_wp2_with fail
 refine Hi.out.mono ?_
 rintro e w1 ⟨rfl, t1⟩
 go_wp2
 go_ret
 exact ⟨ret_bool (by rw [<- Hm.out]), t1⟩
theorem of_num (n : Int) (w : World) : Calls Tryz.prog 11 #[.int .i64 n] w fun e w' => e = .returned (.agg #[.int .i64 1, .int .i64 n, .string ⟨#[]⟩]) /\ Touch [] w w' := by
 go_enter Tryz.func11, Tryz.ntmps11
 go_wp2_with fail
 refine bodyPost_ret (results_cell_row rfl _ _ w.heap.size _ _ _ _ rfl (heap_alloc_new w _) Tryz.underlying31 rfl rfl) rfl ⟨rfl, (Touch.refl _ _).alloc _⟩
end
section
open Go.RowKit
def OwnR (t : TypeId) (base : Nat) (w : World) (B : Option Addr) (c : Nat) (rows : List (List VD)) : Prop :=
 ∃ sl, SlsAt w sl rows /\ OwnK t 1 slE w B c sl /\ ∀ s ∈ sl, ∀ b ∈ fpo s.A, b ∉ fpo B /\ b < w.heap.size /\ base <= b
theorem OwnR.nil (t : TypeId) (base : Nat) (w : World) : OwnR t base w none 0 [] := ⟨[], ⟨rfl, fun i h => absurd h (by simp)⟩, OwnK.nil _ _ _ _, by simp⟩
theorem OwnR.rowsAt {t base : Nat} {w : World} {B : Option Addr} {c : Nat} {rows : List (List VD)} (h : OwnR t base w B c rows) : RowsAt w B rows := by
 obtain ⟨sl, h1, h2, _⟩ := h
 exact ⟨sl, h1, h2.rd⟩
theorem OwnR.lt {t base : Nat} {w : World} {B : Option Addr} {c : Nat} {rows : List (List VD)} (h : OwnR t base w B c rows) : ∀ b ∈ fpo B, b < w.heap.size := by
 obtain ⟨sl, h1, h2, _⟩ := h
 exact h2.lt
theorem SlsAt.touch {w w' : World} {sl : List SL} {rows : List (List VD)} {fp : List Nat} (h : SlsAt w sl rows) (ht : Touch fp w w') (hn : ∀ s ∈ sl, ∀ b ∈ fpo s.A, b ∉ fp) : SlsAt w' sl rows :=
 ⟨h.1, fun i a b => ⟨(h.2 i a b).1, RdK.touch (h.2 i a b).2 ht (hn _ (List.getElem_mem a))⟩⟩
theorem OwnR.touch {t base : Nat} {w w' : World} {B : Option Addr} {c : Nat} {rows : List (List VD)} {fp : List Nat} (h : OwnR t base w B c rows) (ht : Touch fp w w') (hfp : ∀ b ∈ fp, b < base) (hB : ∀ b ∈ fpo B, base <= b) : OwnR t base w' B c rows := by
 obtain ⟨sl, h1, h2, h3⟩ := h
 exact ⟨sl, h1.touch ht (fun s hs b hb hm => by have := hfp b hm; have := (h3 s hs b hb).2.2; omega), h2.touch ht (fun b hb hm => by have := hfp b hm; have := hB b hb; omega), fun s hs b hb => ⟨(h3 s hs b hb).1, Nat.lt_of_lt_of_le (h3 s hs b hb).2.1 ht.size, (h3 s hs b hb).2.2⟩⟩
theorem OwnR.touch0 {t base : Nat} {w w' : World} {B : Option Addr} {c : Nat} {rows : List (List VD)} (h : OwnR t base w B c rows) (ht : Touch [] w w') : OwnR t base w' B c rows := by
 obtain ⟨sl, h1, h2, h3⟩ := h
 exact ⟨sl, h1.touch ht (fun _ _ _ _ => by simp), h2.touch0 ht, fun s hs b hb => ⟨(h3 s hs b hb).1, Nat.lt_of_lt_of_le (h3 s hs b hb).2.1 ht.size, (h3 s hs b hb).2.2⟩⟩
theorem wpList_appR {w : World} {ops : Array Oper} {rest : List Oper} {o : Oper} {a : Act} {Q : Exit -> Act -> World -> Prop} (hgd : o.guard = none) (s x : Operand) (t : TypeId)
  (ho : o.op = .call { callee := .builtin .append, args := #[s, x], argTypes := #[t, t] })
  (e : TypeId) (hinfo : (Tryz.prog.info? e).map (fun i => (i.zero, i.size, i.bytes)) = some (some (.slice none 0 0), 1, 24)) (ht : Tryz.prog.underlying t = some (.slice e))
  (base : Nat) (B : Option Addr) (m c : Nat) (rows : List (List VD)) (hm : rows.length = m) (hs : a.eval s = .slice B m c) (hown : OwnR e base w B c rows)
  (A : Option Addr) (ca : Nat) (r : List VD) (hr : ValsAt w A r) (hA : ∀ b ∈ fpo A, b ∉ fpo B /\ b < w.heap.size /\ base <= b)
  (g : Nat) (hx : a.eval x = .slice (some ⟨w.heap.size, 0, none⟩) 1 g) (h63 : m + 1 <= 1000000000) {cs : Array Value} (hcs : cs.toList = [.slice A r.length ca])
  (h : ∀ B' c' w', OwnR e base w' B' c' (rows ++ [r]) -> Touch (fpo B) (w.alloc (.cells cs e)) w' -> (∀ b ∈ fpo B', b ∈ fpo B \/ b = w.heap.size + 1) -> wpList Tryz.prog ops Q rest (a.put o.dst (.slice B' (m + 1) c')) w') :
  wpList Tryz.prog ops Q (o :: rest) a (w.alloc (.cells cs e)) := by
 obtain ⟨sl, h1, h2, h3⟩ := hown
 have ta := (Touch.refl [] w).alloc (.cells cs e)
 refine wpList_appK (enc := slE) hgd s x t ho e (.slice none 0 0) 1 24 hinfo ht rfl (by omega) slE_length slE_one B m c sl (by rw [h1.1, hm]) hs (h2.touch0 ta)
  (some ⟨w.heap.size, 0, none⟩) 1 g [⟨A, r.length, ca⟩] rfl hx (RdK.one (enc := slE) w e ⟨A, r.length, ca⟩ cs hcs) h63 (by omega) ?_
 intro B' c' w' hown' t' hf'
 rw [World.size_alloc] at hf'
 have hw := ta.size
 refine h B' c' w' ⟨sl ++ [⟨A, r.length, ca⟩], ⟨by rw [List.length_append, List.length_append, h1.1]; rfl, fun i a1 b1 => ?_⟩, hown', fun s' hs' b hb => ?_⟩ t' hf'
 ·by_cases hi : i < sl.length
  ·have hi2 : i < rows.length := by rw [<- h1.1]; exact hi
   rw [List.getElem_append_left hi, List.getElem_append_left hi2]
   have := h1.2 i hi hi2
   exact ⟨this.1, RdK.touch (RdK.touch0 this.2 ta) t' (fun b hb => (h3 _ (List.getElem_mem hi) b hb).1)⟩
  ·have hi' : i = sl.length := by rw [List.length_append] at a1; simp at a1; omega
   subst hi'
   have e1 : (sl ++ [(⟨A, r.length, ca⟩ : SL)])[sl.length] = ⟨A, r.length, ca⟩ := by rw [List.getElem_append_right (Nat.le_refl _)]; simp
   have e2 : (rows ++ [r])[sl.length] = r := by rw [List.getElem_append_right (by rw [h1.1]; exact Nat.le_refl _)]; simp [h1.1]
   rw [e1, e2]
   exact ⟨rfl, RdK.touch (RdK.touch0 hr ta) t' (fun b hb => (hA b hb).1)⟩
 ·have key : b ∉ fpo B /\ b < w.heap.size /\ base <= b := by
   rcases List.mem_append.1 hs' with q | q
   ·exact h3 s' q b hb
   ·simp only [List.mem_singleton] at q
    subst q
    exact hA b hb
  refine ⟨fun hm' => ?_, Nat.lt_of_lt_of_le key.2.1 (Nat.le_trans hw t'.size), key.2.2⟩
  rcases hf' b hm' with q | q
  ·exact key.1 q
  ·have := key.2.1; omega
end
section
open Go.RowKit
theorem add_blk (g j : Nat) : (⟨g, 0, none⟩ : Addr).add j = ⟨g, j, none⟩ := by unfold Addr.add; split <;> simp_all
theorem OwnK.free_ {α : Type} {t k : Nat} {enc : α -> List Value} {w : World} {G c : Nat} {xs : List α} (h : OwnK t k enc w (some ⟨G, 0, none⟩) c xs) (i : Nat) : w.frozen? ⟨G, i, none⟩ = false := by
 rcases h.2 with ⟨hv, _⟩ | ⟨g, cap, cur, hv, _, hg, _, _, _, _⟩
 ·injection hv with hA; cases hA
 ·have hA : (some ⟨G, 0, none⟩ : Option Addr) = some ⟨g, 0, none⟩ := by injection hv
  injection hA with hA; injection hA with hG; subst hG
  simp [World.frozen?, hg]
theorem flat_set {α β : Type} (enc : α -> List β) (k : Nat) (hk : ∀ x, (enc x).length = k) (v : β) (o : Nat) (ho : o < k) : ∀ (xs : List α) (i : Nat) (hi : i < xs.length) (y : α), enc y = (enc xs[i]).set o v -> (xs.set i y).flatMap enc = (xs.flatMap enc).set (i * k + o) v
 | [], i => fun hi => absurd hi (by simp)
 | x :: xs, 0 => fun _ y hy => by
  rw [List.set_cons_zero, List.flatMap_cons, List.flatMap_cons, hy, List.getElem_cons_zero, Nat.zero_mul, Nat.zero_add, List.set_append_left _ _ (by rw [hk]; exact ho)]
 | x :: xs, i + 1 => fun hi y hy => by
  have ih := flat_set enc k hk v o ho xs i (by simpa using hi) y (by simpa using hy)
  have e1 : (i + 1) * k + o = k + (i * k + o) := by rw [Nat.add_mul]; omega
  rw [List.set_cons_succ, List.flatMap_cons, List.flatMap_cons, ih, List.set_append_right _ _ (by rw [hk, e1]; omega), hk, e1, Nat.add_sub_cancel_left]
theorem OwnK.set {α : Type} {t k : Nat} {enc : α -> List Value} {w : World} {G c : Nat} {xs : List α} (h : OwnK t k enc w (some ⟨G, 0, none⟩) c xs) (hk : ∀ x, (enc x).length = k) (i : Nat) (hi : i < xs.length) (o : Nat) (ho : o < k) (v : Value) (y : α)
  (hy : enc y = (enc xs[i]).set o v) : OwnK t k enc (w.setCell ⟨G, i * k + o, none⟩ v) (some ⟨G, 0, none⟩) c (xs.set i y) := by
 have := (World.ownsRow.stored h (i * k + o) v).1
 unfold OwnK
 rw [List.length_set, flat_set enc k hk v o ho xs i hi y hy]
 exact this
theorem OwnK.set1 {α : Type} {t : Nat} {val : α -> Value} {w : World} {G c : Nat} {xs : List α} (h : OwnK t 1 (fun x => [val x]) w (some ⟨G, 0, none⟩) c xs) (i : Nat) (hi : i < xs.length) (y : α) : OwnK t 1 (fun x => [val x]) (w.setCell ⟨G, i, none⟩ (val y)) (some ⟨G, 0, none⟩) c (xs.set i y) := by
 have := h.set (fun _ => rfl) i hi 0 (by omega) (val y) y rfl
 rwa [Nat.mul_one] at this
theorem flat_one {α : Type} {val : α -> Value} (xs : List α) : (xs.flatMap fun x => [val x]) = xs.map val := by
 induction xs with
 | nil => rfl
 | cons x xs ih => rw [List.flatMap_cons, ih]; rfl
theorem OwnK.cell1 {α : Type} {t : Nat} {val : α -> Value} {w : World} {G c : Nat} {xs : List α} (h : OwnK t 1 (fun x => [val x]) w (some ⟨G, 0, none⟩) c xs) (i : Nat) (hi : i < xs.length) : w.cell? ⟨G, i, none⟩ = some (val xs[i]) := by
 have := World.ownsRow.cells h (g := G) rfl i (val xs[i]) (by rw [flat_one]; simp [hi])
 rwa [add_blk] at this
theorem OwnK.made {α : Type} (t : Nat) (val : α -> Value) (w : World) (n : Nat) (z : α) (hn : n <= maxLen) : OwnK t 1 (fun x => [val x]) (w.alloc (.cells (madeCells #[val z] n) t)) (some ⟨w.heap.size, 0, none⟩) n (List.replicate n z) := by
 refine ⟨by simp, .inr ⟨w.heap.size, n, madeCells #[val z] n, by simp, Nat.zero_le _, heap_alloc_new w _, by simp, hn, ?_, ?_⟩⟩
 ·rw [madeCells_one]; simp
 ·rw [madeCells_one, flat_one]; simp
theorem OwnK.mono {α : Type} {t k : Nat} {enc : α -> List Value} {w : World} {A : Option Addr} {c : Nat} {xs : List α} (h : OwnK t k enc w A c xs) {w' : World} (hb : ∀ b ∈ fpo A, w'.heap[b]? = w.heap[b]?) : OwnK t k enc w' A c xs := by
 refine ⟨h.1, ?_⟩
 rcases h.2 with hv | ⟨g, cap, cur, hv, hb', hg, rest⟩
 ·exact .inl hv
 ·have hA : A = some ⟨g, 0, none⟩ := by injection hv
  subst hA
  exact .inr ⟨g, cap, cur, hv, hb', by rw [hb g (by simp [fpo])]; exact hg, rest⟩
end
section
open Go.RowKit
theorem info_v5 : (Tryz.prog.info? 31).map (fun i => (i.zero, i.size, i.bytes)) = some (some (.agg #[.int .i64 0, .int .i64 0, .string ⟨#[]⟩]), 3, 32) := by kernel_rfl
theorem info_c5 : (Tryz.prog.info? 29).map (fun i => (i.zero, i.size, i.bytes)) = some (some (.agg #[.string ⟨#[]⟩, .int .i64 0]), 2, 24) := by kernel_rfl
theorem info_r5 : (Tryz.prog.info? 33).map (fun i => (i.zero, i.size, i.bytes)) = some (some (.slice none 0 0), 1, 24) := by kernel_rfl
theorem RdK.none_nil {α : Type} {enc : α -> List Value} (k : Nat) (hk : ∀ x, (enc x).length = k) (h0 : 0 < k) {w : World} {l : List α} (h : RdK enc w none l) : l = [] := by
 rcases l with _ | ⟨x, l⟩
 ·rfl
 ·obtain ⟨ad, b, off, e, _⟩ := RdK.at_ h k hk h0 0 (by simp)
  cases e
theorem cloneV_any (A : Option Addr) (c n : Nat) (l : List VD) (hn : l.length = n) (hl : n <= 1000000) (w : World) (h : RdK vdE w A l) :
  Calls Tryz.prog 126 #[.slice A n c] w fun e w' => ∃ A' c', e = .returned (.slice A' n c') /\ Made 31 3 vdE l A' c' w w' := by
 rcases A with _ | ad
 ·have hl0 := RdK.none_nil 3 vdE_length (by omega) h
  subst hl0
  obtain rfl : n = 0 := by simpa using hn.symm
  go_enter Tryz.func126, Tryz.ntmps126
  have hnil := run_eql_slice_nil (P := Tryz.prog) w 33 31 none 0 c Tryz.underlying33
  go_wp2
  go_ret
  exact ⟨none, 0, rfl, Made.nil _ _ _ _⟩
 ·subst hn
  have ho := OwnK.empty_new 31 3 vdE w
  have tb := (Touch.refl [] w).alloc (.cells #[] 31)
  have HO := lh (And.intro ho (And.intro (RdK.touch0 h tb) tb))
  clear ho tb
  go_enter Tryz.func126, Tryz.ntmps126
  have hnil := run_eql_slice_nil (P := Tryz.prog) w 33 31 (some ad) l.length c Tryz.underlying33
  go_wp2_with (at_builtin; refine stop ?_)
  refine go ?_
  refine wpList_appK (enc := vdE) rfl (.tmp 5) (.tmp 6) 33 rfl 31 (.agg #[.int .i64 0, .int .i64 0, .string ⟨#[]⟩]) 3 32 info_v5 Tryz.underlying33 rfl (by omega) vdE_length vdE_one (some ⟨w.heap.size, 0, none⟩) 0 0 [] rfl rfl HO.out.1 (some ad) l.length c l rfl rfl HO.out.2.1 (by omega) (by omega) ?_
  intro A3 c3 w3 hown3 ht3 hf3
  have H3 := lh (And.intro hown3 (And.intro ht3 hf3))
  clear hown3 ht3 hf3
  go_wp2
  go_ret
  obtain ⟨hown3, ht3, hf3⟩ := H3.out
  refine ⟨A3, c3, by first | rfl | (simp; rfl) | simp, by simpa using hown3, HO.out.2.2.trans ht3 (fun b hb => by simp [fpo] at hb; subst hb; exact .inr (Nat.le_refl _)), fun b hb => ?_⟩
  rcases hf3 b hb with e | e
  ·simp [fpo] at e; omega
  ·rw [World.size_alloc] at e; omega
theorem cloneC_any (A : Option Addr) (c n : Nat) (l : List CD) (hn : l.length = n) (hl : n <= 1000000) (w : World) (h : RdK cdE w A l) :
  Calls Tryz.prog 67 #[.slice A n c] w fun e w' => ∃ A' c', e = .returned (.slice A' n c') /\ Made 29 2 cdE l A' c' w w' := by
 rcases A with _ | ad
 ·have hl0 := RdK.none_nil 2 cdE_length (by omega) h
  subst hl0
  obtain rfl : n = 0 := by simpa using hn.symm
  go_enter Tryz.func67, Tryz.ntmps67
  have hnil := run_eql_slice_nil (P := Tryz.prog) w 24 29 none 0 c Tryz.underlying24
  go_wp2
  go_ret
  exact ⟨none, 0, rfl, Made.nil _ _ _ _⟩
 ·subst hn
  have ho := OwnK.empty_new 29 2 cdE w
  have tb := (Touch.refl [] w).alloc (.cells #[] 29)
  have HO := lh (And.intro ho (And.intro (RdK.touch0 h tb) tb))
  clear ho tb
  go_enter Tryz.func67, Tryz.ntmps67
  have hnil := run_eql_slice_nil (P := Tryz.prog) w 24 29 (some ad) l.length c Tryz.underlying24
  go_wp2_with (at_builtin; refine stop ?_)
  refine go ?_
  refine wpList_appK (enc := cdE) rfl (.tmp 5) (.tmp 6) 24 rfl 29 (.agg #[.string ⟨#[]⟩, .int .i64 0]) 2 24 info_c5 Tryz.underlying24 rfl (by omega) cdE_length cdE_one (some ⟨w.heap.size, 0, none⟩) 0 0 [] rfl rfl HO.out.1 (some ad) l.length c l rfl rfl HO.out.2.1 (by omega) (by omega) ?_
  intro A3 c3 w3 hown3 ht3 hf3
  have H3 := lh (And.intro hown3 (And.intro ht3 hf3))
  clear hown3 ht3 hf3
  go_wp2
  go_ret
  obtain ⟨hown3, ht3, hf3⟩ := H3.out
  refine ⟨A3, c3, by first | rfl | (simp; rfl) | simp, by simpa using hown3, HO.out.2.2.trans ht3 (fun b hb => by simp [fpo] at hb; subst hb; exact .inr (Nat.le_refl _)), fun b hb => ?_⟩
  rcases hf3 b hb with e | e
  ·simp [fpo] at e; omega
  ·rw [World.size_alloc] at e; omega
theorem cloneR_any (A : Option Addr) (c n : Nat) (l : List SL) (hn : l.length = n) (hl : n <= 1000000) (w : World) (h : RdK slE w A l) :
  Calls Tryz.prog 141 #[.slice A n c] w fun e w' => ∃ A' c', e = .returned (.slice A' n c') /\ Made 33 1 slE l A' c' w w' := by
 rcases A with _ | ad
 ·have hl0 := RdK.none_nil 1 slE_length (by omega) h
  subst hl0
  obtain rfl : n = 0 := by simpa using hn.symm
  go_enter Tryz.func141, Tryz.ntmps141
  have hnil := run_eql_slice_nil (P := Tryz.prog) w 25 33 none 0 c Tryz.underlying25
  go_wp2
  go_ret
  exact ⟨none, 0, rfl, Made.nil _ _ _ _⟩
 ·subst hn
  have ho := OwnK.empty_new 33 1 slE w
  have tb := (Touch.refl [] w).alloc (.cells #[] 33)
  have HO := lh (And.intro ho (And.intro (RdK.touch0 h tb) tb))
  clear ho tb
  go_enter Tryz.func141, Tryz.ntmps141
  have hnil := run_eql_slice_nil (P := Tryz.prog) w 25 33 (some ad) l.length c Tryz.underlying25
  go_wp2_with (at_builtin; refine stop ?_)
  refine go ?_
  refine wpList_appK (enc := slE) rfl (.tmp 5) (.tmp 6) 25 rfl 33 (.slice none 0 0) 1 24 info_r5 Tryz.underlying25 rfl (by omega) slE_length slE_one (some ⟨w.heap.size, 0, none⟩) 0 0 [] rfl rfl HO.out.1 (some ad) l.length c l rfl rfl HO.out.2.1 (by omega) (by omega) ?_
  intro A3 c3 w3 hown3 ht3 hf3
  have H3 := lh (And.intro hown3 (And.intro ht3 hf3))
  clear hown3 ht3 hf3
  go_wp2
  go_ret
  obtain ⟨hown3, ht3, hf3⟩ := H3.out
  refine ⟨A3, c3, by first | rfl | (simp; rfl) | simp, by simpa using hown3, HO.out.2.2.trans ht3 (fun b hb => by simp [fpo] at hb; subst hb; exact .inr (Nat.le_refl _)), fun b hb => ?_⟩
  rcases hf3 b hb with e | e
  ·simp [fpo] at e; omega
  ·rw [World.size_alloc] at e; omega
end
section
open Go.RowKit
def naE (n : Nat) : List Value := [.int .i64 n]
theorem naE_length (n : Nat) : (naE n).length = 1 := rfl
theorem naE_one (n : Nat) : ∀ u ∈ naE n, u.oneCell' = true := by
 intro u hu
 simp only [naE, List.mem_cons, List.not_mem_nil, or_false] at hu
 subst hu; rfl
theorem info_i5 : (Tryz.prog.info? 3).map (fun i => (i.zero, i.size, i.bytes)) = some (some (.int .i64 0), 1, 8) := by kernel_rfl
def placesV (cs : List CD) (names : List ByteArray) : List Nat := names.map fun n => (placeV cs n).getD 0
def pickV (r : List VD) (at_ : List Nat) : List VD := at_.map fun i => r.getD i ⟨0, 0, ⟨#[]⟩⟩
def nullV (l : List VD) : Bool := l.any fun v => decide (v.kind = 0)
theorem places_any (SA : Option Addr) (c1 n1 : Nat) (a : List CD) (h1 : a.length = n1) (hl1 : n1 <= 1000000) (NA : Option Addr) (nc n2 : Nat) (names : List ByteArray) (h2 : names.length = n2) (hl2 : n2 <= 1000000) (w : World) (ha : ColsAt w SA a) (hr : RdK btE w NA names) :
  Calls Tryz.prog 133 #[.slice SA n1 c1, .slice NA n2 nc] w fun e w' => ∃ A c, e = .returned (.slice A n2 c) /\ Made 3 1 naE (placesV a names) A c w w' := by
 subst h1 h2
 have HRD := lh (And.intro ha hr)
 clear ha hr
 go_enter Tryz.func133, Tryz.ntmps133
 go_wp2_with fail
 go_loopw [5, 12] (fun o i wr => ∃ (k : Nat) (A : Option Addr) (c : Nat), k <= names.length /\ i = .int .i64 k /\ o = .slice A k c /\ Hid (Made 3 1 naE (placesV a (names.take k)) A c w wr)) (fun _ i _ => names.length - (intOf i).toNat)
 case atStart => exact ⟨0, none, 0, by omega, rfl, rfl, lh (Made.nil _ _ _ _)⟩
 case round =>
  obtain ⟨k, A, c, hk, rfl, rfl, HM⟩ := hrel
  by_cases hlt : k < names.length
  ·obtain ⟨ad, b1, o1, rfl, hadd, hc⟩ := RdK.cells (HRD.out.2.touch0 HM.out.t) 1 btE_length (by omega) k hlt
   rw [Nat.mul_one] at hadd
   have e0 := hc 0 _ rfl
   rw [Nat.add_zero] at e0
   have htk := List.take_succ_eq_append_getElem hlt
   obtain ⟨p, hp⟩ : ∃ p, p = names[k] := ⟨_, rfl⟩
   rw [<- hp] at e0 htk
   have hfa := findC_any SA c1 a.length a rfl p wr (HRD.out.1.touch0 HM.out.t) (by omega)
   have hnx : placesV a (names.take (k + 1)) = placesV a (names.take k) ++ [(placeV a p).getD 0] := by
    rw [htk]; unfold placesV; rw [List.map_append]; rfl
   have hln : Hid ((placesV a (names.take k)).length = k) := lh (by unfold placesV; rw [List.length_map, List.length_take]; omega)
   obtain ⟨i, hi⟩ : ∃ i, i = (placeV a p).getD 0 := ⟨_, rfl⟩
   obtain ⟨b, hb⟩ : ∃ b, b = (placeV a p).isSome := ⟨_, rfl⟩
   rw [<- hi, <- hb] at hfa
   rw [<- hi] at hnx
   have Hfa := lh hfa
   have Hnx := lh hnx
   have hkn : (k : Int) < (names.length : Int) := by omega
   clear hfa hnx htk hc hp hi hb
   go_wp2_with fail
   refine Hfa.out.mono ?_
   rintro e w1 ⟨rfl, t1⟩
   have HM1 := lh (HM.out.touch0 t1)
   clear t1 HM
   go_wp2_with (at_builtin; refine stop ?_)
   refine go ?_
   have ta := (Touch.refl [] w1).alloc (.cells #[.int .i64 i] 3)
   refine wpList_appK (enc := naE) rfl (.tmp 22) (.tmp 24) 97 rfl 3 _ 1 8 info_i5 Tryz.underlying97 rfl (by omega) naE_length naE_one A k c _ hln.out rfl (HM1.out.touch0 ta).own
    (some ⟨w1.heap.size, 0, none⟩) 1 1 [i] rfl rfl (RdK.one (enc := naE) w1 3 i _ rfl) (by omega) (by omega) ?_
   intro A' c' w' hown ht hf
   have HX := lh ((HM1.out.touch0 ta).step hown ht hf)
   clear hown ht hf ta
   go_wp2_with fail
   go_roundw
   case rel => exact ⟨k + 1, A', c', by omega, by go_num, rfl, lh (by rw [Hnx.out]; exact HX.out)⟩
   case measure => simp [intOf]; omega
  ·obtain rfl : k = names.length := by omega
   have HM2 : Hid (Made 3 1 naE (placesV a names) A c w wr) := lh (by have := HM.out; rwa [List.take_length] at this)
   clear HM
   go_wp2
   go_ret
   exact ⟨A, c, rfl, HM2.out⟩
theorem picked_any (RA : Option Addr) (rc n1 : Nat) (r : List VD) (h1 : r.length = n1) (hl1 : n1 <= 1000000) (PA : Option Addr) (pc n2 : Nat) (at_ : List Nat) (h2 : at_.length = n2) (hl2 : n2 <= 1000000) (hat : ∀ i ∈ at_, i < n1) (w : World) (hr : ValsAt w RA r) (hp : RdK naE w PA at_) :
  Calls Tryz.prog 134 #[.slice RA n1 rc, .slice PA n2 pc] w fun e w' => ∃ A c, e = .returned (.slice A n2 c) /\ Made 31 3 vdE (pickV r at_) A c w w' := by
 subst h1 h2
 have HRD := lh (And.intro hr hp)
 have Hat := lh hat
 clear hr hp hat
 go_enter Tryz.func134, Tryz.ntmps134
 go_wp2_with fail
 go_loopw [5, 10] (fun o i wr => ∃ (k : Nat) (A : Option Addr) (c : Nat), k <= at_.length /\ i = .int .i64 k /\ o = .slice A k c /\ Hid (Made 31 3 vdE (pickV r (at_.take k)) A c w wr)) (fun _ i _ => at_.length - (intOf i).toNat)
 case atStart => exact ⟨0, none, 0, by omega, rfl, rfl, lh (Made.nil _ _ _ _)⟩
 case round =>
  obtain ⟨k, A, c, hk, rfl, rfl, HM⟩ := hrel
  by_cases hlt : k < at_.length
  ·obtain ⟨ad, b1, o1, rfl, hadd, hc⟩ := RdK.cells (HRD.out.2.touch0 HM.out.t) 1 naE_length (by omega) k hlt
   rw [Nat.mul_one] at hadd
   have e0 := hc 0 _ rfl
   rw [Nat.add_zero] at e0
   have htk := List.take_succ_eq_append_getElem hlt
   have hil := Hat.out _ (List.getElem_mem hlt)
   obtain ⟨i, hi⟩ : ∃ i, i = at_[k] := ⟨_, rfl⟩
   rw [<- hi] at e0 htk hil
   obtain ⟨ad2, b2, o2, rfl, hadd2, c0, c1, c2⟩ := (HRD.out.1.touch0 HM.out.t).at_ i hil
   have hnx : pickV r (at_.take (k + 1)) = pickV r (at_.take k) ++ [r[i]] := by
    rw [htk]; unfold pickV; rw [List.map_append]; simp [hil]
   have hln : Hid ((pickV r (at_.take k)).length = k) := lh (by unfold pickV; rw [List.length_map, List.length_take]; omega)
   obtain ⟨v, hv⟩ : ∃ v, v = r[i] := ⟨_, rfl⟩
   rw [<- hv] at c0 c1 c2 hnx
   obtain ⟨vk, vn, vt⟩ := v
   dsimp only at c0 c1 c2
   have Hnx := lh hnx
   have hkn : (k : Int) < (at_.length : Int) := by omega
   have hin : (i : Int) < (r.length : Int) := by omega
   have hi0 : (0 : Int) <= (i : Int) := by omega
   clear hnx htk hc hi hv
   go_wp2_with (at_builtin; refine stop ?_)
   refine go ?_
   have ta := (Touch.refl [] wr).alloc (.cells #[.int .i64 vk, .int .i64 vn, .string vt] 31)
   refine wpList_appK (enc := vdE) rfl (.tmp 14) (.tmp 19) 33 rfl 31 _ 3 32 info_v5 Tryz.underlying33 rfl (by omega) vdE_length vdE_one A k c _ hln.out rfl (HM.out.touch0 ta).own
    (some ⟨wr.heap.size, 0, none⟩) 1 1 [⟨vk, vn, vt⟩] rfl rfl (RdK.one (enc := vdE) wr 31 ⟨vk, vn, vt⟩ _ rfl) (by omega) (by omega) ?_
   intro A' c' w' hown ht hf
   have HX := lh ((HM.out.touch0 ta).step hown ht hf)
   clear hown ht hf ta
   go_wp2_with fail
   go_roundw
   case rel => exact ⟨k + 1, A', c', by omega, by go_num, rfl, lh (by rw [Hnx.out]; exact HX.out)⟩
   case measure => simp [intOf]; omega
  ·obtain rfl : k = at_.length := by omega
   have HM2 : Hid (Made 31 3 vdE (pickV r at_) A c w wr) := lh (by have := HM.out; rwa [List.take_length] at this)
   clear HM
   go_wp2
   go_ret
   exact ⟨A, c, rfl, HM2.out⟩
theorem null1_any (v : VD) (w : World) :
  Calls Tryz.prog 169 #[.agg #[.int .i64 v.kind, .int .i64 v.num, .string v.text]] w fun e w' => e = .returned (.bool (decide (v.kind = 0))) /\ Touch [] w w' := by
 obtain ⟨vk, vn, vt⟩ := v
 dsimp only
 have t0 := (Touch.refl [] w).alloc (.cells #[.int .i64 vk, .int .i64 vn, .string vt] 31)
 by_cases h : vk = 0
 ·subst h
  go_enter Tryz.func169, Tryz.ntmps169
  go_wp2
  go_ret
  exact ⟨rfl, t0⟩
 ·have hq : (vk == 0) = false := by rw [beq_eq_false_iff_ne]; exact h
  have hd := lh (decide_eq_false h)
  go_enter Tryz.func169, Tryz.ntmps169
  go_wp2
  go_ret
  exact ⟨ret_bool hd.out.symm, t0⟩
theorem indexNull_any (A : Option Addr) (c m : Nat) (l : List VD) (hm : l.length = m) (w : World) (hv : ValsAt w A l) (hl2 : m <= 140737000000000) :
  Calls Tryz.prog 192 #[.slice A m c, .func (.func 169) #[] #[]] w fun e w' =>
   (∃ i : Int, e = .returned (.int .i64 i) /\ -1 <= i /\ i <= m /\ (decide (0 <= i) = nullV l)) /\ Touch [] w w' := by
 subst hm
 go_enter Tryz.func192, Tryz.ntmps192
 go_wp2
 go_loopw [8] (fun i wr => ∃ k : Nat, k <= l.length /\ i = .int .i64 k /\ Hid (nullV (l.take k) = false) /\ Touch [] w wr) (fun i _ => l.length - (intOf i).toNat)
 case atStart => exact ⟨0, by omega, rfl, lh rfl, Touch.refl _ _⟩
 case round =>
  obtain ⟨k, hk, rfl, Hall, ht⟩ := hrel
  by_cases hlt : k < l.length
  ·obtain ⟨ad, b, off, rfl, hadd, c0, c1, c2⟩ := (hv.touch0 ht).at_ k hlt
   have htk := List.take_succ_eq_append_getElem hlt
   have hmem := List.getElem_mem hlt
   obtain ⟨v, hve⟩ : ∃ v, v = l[k] := ⟨_, rfl⟩
   rw [<- hve] at c0 c1 c2 htk hmem
   have hst : nullV (l.take (k + 1)) = decide (v.kind = 0) := by
    rw [htk]; unfold nullV
    rw [List.any_append]
    have := Hall.out
    unfold nullV at this
    rw [this]; simp
   have hyes : decide (v.kind = 0) = true -> nullV l = true := fun h => List.any_eq_true.2 ⟨v, hmem, h⟩
   have Hst := lh hst
   have hf := fun w' => null1_any v w'
   have hkn : (k : Int) < (l.length : Int) := by omega
   have Hyes := lh hyes
   clear hst htk hve hyes hmem Hall
   obtain ⟨vk, vn, vt⟩ := v
   dsimp only at c0 c1 c2 hf Hst Hyes
   rcases hb : decide (vk = 0) with _ | _
   ·rw [hb] at hf
    have Hf := lh hf
    have Hs := lh (Hst.out.trans hb)
    clear hf hb
    go_wp2_with fail
    refine (Hf.out _).mono ?_
    rintro e w1 ⟨rfl, t1⟩
    go_wp2
    go_roundw
    case rel => exact ⟨k + 1, by omega, by go_num, Hs, ht.trans0 t1⟩
    case measure => simp [intOf]; omega
   ·rw [hb] at hf
    have Hf := lh hf
    have Hs := lh (Hyes.out hb)
    clear hf hb
    go_wp2_with fail
    refine (Hf.out _).mono ?_
    rintro e w1 ⟨rfl, t1⟩
    go_wp2
    go_ret
    exact ⟨⟨k, rfl, by omega, by omega, by rw [Hs.out]; simp⟩, ht.trans0 t1⟩
  ·obtain rfl : k = l.length := by omega
   have hall := Hall.out
   rw [List.take_length] at hall
   have Hs := lh hall
   clear hall
   go_wp2
   go_ret
   exact ⟨⟨-1, rfl, by omega, by omega, by rw [Hs.out]; rfl⟩, ht⟩
theorem containsNull_any (A : Option Addr) (c m : Nat) (l : List VD) (hm : l.length = m) (w : World) (hv : ValsAt w A l) (hl2 : m <= 140737000000000) :
  Calls Tryz.prog 168 #[.slice A m c, .func (.func 169) #[] #[]] w fun e w' => e = .returned (.bool (nullV l)) /\ Touch [] w w' := by
 have Hi := lh (indexNull_any A c m l hm w hv hl2)
 go_enter Tryz.func168, Tryz.ntmps168
 go_wp2_with fail
 refine Hi.out.mono ?_
 rintro e w1 ⟨⟨i, rfl, i1, i2, i3⟩, t1⟩
 have I3 := lh i3
 clear i3
 go_wp2
 go_ret
 exact ⟨ret_bool (by rw [<- I3.out]), t1⟩
theorem null_any (A : Option Addr) (c m : Nat) (l : List VD) (hm : l.length = m) (w : World) (hv : ValsAt w A l) (hl2 : m <= 140737000000000) :
  Calls Tryz.prog 135 #[.slice A m c] w fun e w' => e = .returned (.bool (nullV l)) /\ Touch [] w w' := by
 have Hi := lh (containsNull_any A c m l hm w hv hl2)
 go_enter Tryz.func135, Tryz.ntmps135
 go_wp2_with fail
 refine Hi.out.mono ?_
 rintro e w1 ⟨rfl, t1⟩
 go_wp2
 go_ret
 exact ⟨rfl, t1⟩
end
end Go.Proofs.YtafoklilkdnepaaGreatDoor
