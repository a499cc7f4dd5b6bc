/- Part 4 of the texts of this proof, one behind the other; each begins with its own sentence. No condition beyond those that its theorems state. -/
import Derived.Test.YtafoklilkdnepaaGreatDoorRu3
import Derived.BigRegion
import Derived.BigQuiet
import Derived.IntWalk
/- slices.CompareFunc at rows of values, schema.CmpRows. For every rows. -/
namespace Go.Proofs.YtafoklilkdnepaaGreatDoor
open Go.RowKit

theorem cmpRV_step {l r : List VD} {k : Nat} (h1 : k < l.length) (h2 : k < r.length) : cmpRV (l.drop k) (r.drop k) = if cmpVV l[k] r[k] = 0 then cmpRV (l.drop (k + 1)) (r.drop (k + 1)) else cmpVV l[k] r[k] := by
 rw [List.drop_eq_getElem_cons h1, List.drop_eq_getElem_cons h2]; rfl
theorem cmpRV_end (l r : List VD) (h : l = [] ∨ r = []) : cmpRV l r = if l.length < r.length then -1 else if r.length < l.length then 1 else 0 := by
 rcases h with rfl | rfl
 ·cases r <;> rfl
 ·cases l <;> rfl

set_option maxRecDepth 20000 in
set_option maxHeartbeats 1600000 in
theorem compareFunc_any (A B : Option Addr) (c1 c2 n m : Nat) (l r : List VD) (hn : l.length = n) (hm : r.length = m) (w : World) (h : ValsAt w A l) (h2 : ValsAt w B r) (hl : n ≤ 140737000000000) (hl2 : m ≤ 140737000000000) :
  Calls Tryz.prog 111 #[.slice A n c1, .slice B m c2, .func (.func 112) #[] #[]] w fun e w' => e = .returned (.int .i64 (cmpRV l r)) ∧ Touch [] w w' := by
 subst hn hm
 go_enter Tryz.func111, Tryz.ntmps111
 go_wp2
 go_loopw [13] (fun i wr => ∃ k : Nat, k ≤ l.length ∧ k ≤ r.length ∧ i = .int .i64 k ∧ Hid (cmpRV l r = cmpRV (l.drop k) (r.drop k)) ∧ Touch [] w wr) (fun i _ => l.length - (intOf i).toNat)
 case atStart => exact ⟨0, by omega, by omega, rfl, Lib.hid rfl, Touch.refl _ _⟩
 case round =>
  obtain ⟨k, hka, hkb, rfl, Ho, ht⟩ := hrel
  by_cases h1 : k < l.length
  ·obtain ⟨ad, b, off, rfl, hadd, c0, c1, c2⟩ := (h.touch0 ht).at_ k h1
   by_cases h2' : k < r.length
   ·obtain ⟨bd, b2, off2, rfl, hadd2, d0, d1, d2⟩ := (h2.touch0 ht).at_ k h2'
    have hst := cmpRV_step h1 h2'
    obtain ⟨x, hx⟩ : ∃ x, x = l[k] := ⟨_, rfl⟩
    obtain ⟨y, hy⟩ : ∃ y, y = r[k] := ⟨_, rfl⟩
    rw [← hx, ← hy] at hst
    rw [← hx] at c0 c1 c2
    rw [← hy] at d0 d1 d2
    obtain ⟨k1, n1, s1⟩ := x
    obtain ⟨k2, n2, s2⟩ := y
    simp only at c0 c1 c2 d0 d1 d2
    have hcv := fun w' => cmpVal_any ⟨k1, n1, s1⟩ ⟨k2, n2, s2⟩ w'
    simp only [VD.val] at hcv
    obtain ⟨q, hq⟩ : ∃ q, q = cmpVV ⟨k1, n1, s1⟩ ⟨k2, n2, s2⟩ := ⟨_, rfl⟩
    rw [← hq] at hst hcv
    have Hcv := Lib.hid hcv
    have Hst := Lib.hid hst
    have ta := ((Touch.refl [] wr).alloc (.cells #[.int .i64 k1, .int .i64 n1, .string s1] 31))
    have e0 := ta.cell d0 (by simp)
    have e1 := ta.cell d1 (by simp)
    have e2 := ta.cell d2 (by simp)
    have hkI : (k : Int) < (r.length : Int) := by omega
    have h0I : (0 : Int) ≤ (k : Int) := by omega
    clear hst hcv hx hy hq d0 d1 d2 ta
    have tb := (ht.alloc (.cells #[.int .i64 k1, .int .i64 n1, .string s1] 31)).alloc (.cells #[.int .i64 k2, .int .i64 n2, .string s2] 31)
    by_cases h0 : q = 0
    ·subst h0
     have Hq := Lib.hid (show cmpRV l r = cmpRV (l.drop (k + 1)) (r.drop (k + 1)) by rw [Ho.out, Hst.out, if_pos rfl])
     go_wp2_with fail
     refine (Hcv.out _).mono ?_
     rintro e w1 ⟨rfl, t1⟩
     go_wp2
     go_roundw
     case rel => exact ⟨k + 1, by omega, by omega, by go_num, Hq, tb.trans0 t1⟩
     case measure => simp [intOf]; omega
    ·have Hq := Lib.hid (show cmpRV l r = q by rw [Ho.out, Hst.out, if_neg h0])
     have hq : (q == 0) = false := by rw [beq_eq_false_iff_ne]; exact h0
     have hq' : (q != 0) = true := by rw [bne, hq]; rfl
     go_wp2_with fail
     refine (Hcv.out _).mono ?_
     rintro e w1 ⟨rfl, t1⟩
     go_wp2
     go_ret
     exact ⟨ret_int Hq.out.symm, tb.trans0 t1⟩
   ·have hE := cmpRV_end (l.drop k) (r.drop k) (.inr (List.drop_of_length_le (by omega)))
    rw [List.length_drop, List.length_drop] at hE
    have Hq := Lib.hid (show cmpRV l r = 1 by rw [Ho.out, hE, if_neg (by omega), if_pos (by omega)])
    obtain ⟨x, hx⟩ : ∃ x, x = l[k] := ⟨_, rfl⟩
    rw [← hx] at c0 c1 c2
    obtain rfl : k = r.length := by omega
    clear hE hx Ho
    go_wp2
    go_ret
    exact ⟨ret_int Hq.out.symm, ht.alloc _⟩
  ·have hE := cmpRV_end (l.drop k) (r.drop k) (.inl (List.drop_of_length_le (by omega)))
   rw [List.length_drop, List.length_drop] at hE
   have HE := Lib.hid hE
   clear hE
   obtain rfl : k = l.length := by omega
   by_cases hq : l.length < r.length
   ·have Hq := Lib.hid (show cmpRV l r = -1 by rw [Ho.out, HE.out, if_pos (by omega)])
    have hqI : (l.length : Int) < (r.length : Int) := by omega
    clear HE Ho
    go_wp2
    go_ret
    exact ⟨ret_int Hq.out.symm, ht⟩
   ·have Hq := Lib.hid (show cmpRV l r = 0 by rw [Ho.out, HE.out, if_neg (by omega), if_neg (by omega)])
    have hqI : ¬ (l.length : Int) < (r.length : Int) := by omega
    clear HE Ho
    go_wp2
    go_ret
    exact ⟨ret_int Hq.out.symm, ht⟩

theorem cmpRows_any (A B : Option Addr) (c1 c2 n m : Nat) (l r : List VD) (hn : l.length = n) (hm : r.length = m) (w : World) (h : ValsAt w A l) (h2 : ValsAt w B r) (hl : n ≤ 140737000000000) (hl2 : m ≤ 140737000000000) :
  Calls Tryz.prog 81 #[.slice A n c1, .slice B m c2] w fun e w' => e = .returned (.int .i64 (cmpRV l r)) ∧ Touch [] w w' := by
 have hcf := compareFunc_any A B c1 c2 n m l r hn hm w h h2 hl hl2
 have Hcf := Lib.hid hcf
 clear hcf
 go_enter Tryz.func81, Tryz.ntmps81
 go_wp2_with fail
 refine Hcf.out.mono ?_
 rintro e w1 ⟨rfl, t1⟩
 go_wp2
 go_ret
 exact ⟨rfl, t1⟩
end Go.Proofs.YtafoklilkdnepaaGreatDoor

/- Rows of values that lie in memory; table.fit, table.Table.Check: for every schema and rows. -/
namespace Go.Proofs.YtafoklilkdnepaaGreatDoor
open Go.RowKit

/-- a slice's cell -/
structure SL where
 A : Option Addr
 n : Nat
 c : Nat
def slE (s : SL) : List Value := [.slice s.A s.n s.c]
theorem slE_length (s : SL) : (slE s).length = 1 := rfl
theorem slE_one (s : SL) : ∀ u ∈ slE s, u.oneCell' = true := by
 intro u hu
 simp only [slE, List.mem_cons, List.not_mem_nil, or_false] at hu
 subst hu; rfl
/-- slices that lead to these rows -/
def SlsAt (w : World) (sl : List SL) (rows : List (List VD)) : Prop := sl.length = rows.length ∧ ∀ i (h1 : i < sl.length) (h2 : i < rows.length), sl[i].n = rows[i].length ∧ ValsAt w sl[i].A rows[i]
def RowsAt (w : World) (B : Option Addr) (rows : List (List VD)) : Prop := ∃ sl, SlsAt w sl rows ∧ RdK slE w B sl
theorem RowsAt.touch0 {w w' : World} {B : Option Addr} {rows : List (List VD)} (h : RowsAt w B rows) (ht : Touch [] w w') : RowsAt w' B rows := by
 obtain ⟨sl, ⟨h1, h2⟩, h3⟩ := h
 exact ⟨sl, ⟨h1, fun i a b => ⟨(h2 i a b).1, ValsAt.touch0 (h2 i a b).2 ht⟩⟩, RdK.touch0 h3 ht⟩
theorem RowsAt.at_ {w : World} {B : Option Addr} {rows : List (List VD)} (h : RowsAt w B rows) (i : Nat) (hi : i < rows.length) : ∃ bd A c, B = some bd ∧ w.cell? (bd.add i) = some (.slice A rows[i].length c) ∧ ValsAt w A rows[i] := by
 obtain ⟨sl, ⟨h1, h2⟩, h3⟩ := h
 obtain ⟨ad, b, off, e1, e2, _, e3⟩ := RdK.at_ h3 1 slE_length (by omega) i (by omega)
 rw [Nat.mul_one] at e2
 have := h2 i (by omega) hi
 refine ⟨ad, sl[i].A, sl[i].c, e1, ?_, this.2⟩
 rw [e2, ← this.1]
 exact e3 0 _ rfl

/-- the first row that does not fit -/
def badR (cs : List CD) (rows : List (List VD)) : Option Nat := rows.findIdx? fun r => !fitR cs r
def fitV (cs : List CD) (rows : List (List VD)) : Int := if checkV cs = 0 then (if 4096 < rows.length then 31 else if rows.all (fitR cs) = true then 0 else 12) else checkV cs
/-- does every row stand behind the one ahead? -/
def sortedV (rows : List (List VD)) : Bool := (List.range (rows.length - 1)).all fun i => decide (0 ≤ cmpRV (rows.getD (i + 1) []) (rows.getD i []))
def checkT (cs : List CD) (rows : List (List VD)) : Int := if fitV cs rows = 0 then (if sortedV rows = true then 0 else 20) else fitV cs rows

set_option maxHeartbeats 800000 in
theorem fit1_any (B : Nat) (SA : Option Addr) (cap n : Nat) (cs : List CD) (hn : cs.length = n) (hok : ∀ c ∈ cs, c.Ok) (hc0 : checkV cs = 0) (A : Option Addr) (c m : Nat) (vs : List VD) (hm : vs.length = m) (hvk : ∀ v ∈ vs, v.Ok 140737000000000) (w : World)
  (hB : w.cell? ⟨B, 0, none⟩ = some (.slice SA n cap)) (h : ColsAt w SA cs) (hv : ValsAt w A vs) (hl : n ≤ 140737000000000) (hl2 : m ≤ 140737000000000) :
  Calls Tryz.prog 110 #[.slice A m c, .pointer (some ⟨B, 0, none⟩)] w fun e w' => e = .returned (.bool (!fitR cs vs)) ∧ Touch [] w w' := by
 have hf := fits_any SA cap n cs hn hok A c m vs hm hvk w h hv hl hl2
 rw [hc0] at hf
 have e : (decide ((0 : Int) = 0) && fitR cs vs) = fitR cs vs := by simp
 rw [e] at hf
 have Hf := Lib.hid hf
 clear hf e
 go_enter Tryz.func110, Tryz.ntmps110
 go_wp2_with fail
 refine Hf.out.mono ?_
 rintro e w1 ⟨rfl, t1⟩
 go_wp2
 go_ret
 exact ⟨rfl, t1⟩

theorem all_fit_no {cs : List CD} {rows : List (List VD)} {k : Nat} (h : k < rows.length) (hb : fitR cs rows[k] = false) : rows.all (fitR cs) = false := by
 rw [List.all_eq_false]
 exact ⟨_, List.getElem_mem h, by rw [hb]; simp⟩

set_option maxHeartbeats 1600000 in
theorem indexRows_any (B : Nat) (SA : Option Addr) (cap n : Nat) (cs : List CD) (hn : cs.length = n) (hok : ∀ c ∈ cs, c.Ok) (hc0 : checkV cs = 0) (A : Option Addr) (c m : Nat) (rows : List (List VD)) (hm : rows.length = m) (hvk : ∀ r ∈ rows, r.length ≤ 140737000000000 ∧ ∀ v ∈ r, v.Ok 140737000000000) (w : World)
  (hB : w.cell? ⟨B, 0, none⟩ = some (.slice SA n cap)) (h : ColsAt w SA cs) (hv : RowsAt w A rows) (hl : n ≤ 140737000000000) (hl2 : m ≤ 140737000000000) :
  Calls Tryz.prog 154 #[.slice A m c, .func (.func 110) #[] #[.pointer (some ⟨B, 0, none⟩)]] w fun e w' =>
   (∃ i : Int, e = .returned (.int .i64 i) ∧ -1 ≤ i ∧ i ≤ m ∧ (decide (0 ≤ i) = !rows.all (fitR cs))) ∧ Touch [] w w' := by
 subst hm
 go_enter Tryz.func154, Tryz.ntmps154
 go_wp2
 go_loopw [8] (fun i wr => ∃ k : Nat, k ≤ rows.length ∧ i = .int .i64 k ∧ Hid ((rows.take k).all (fitR cs) = true) ∧ Touch [] w wr) (fun i _ => rows.length - (intOf i).toNat)
 case atStart => exact ⟨0, by omega, rfl, Lib.hid rfl, Touch.refl _ _⟩
 case round =>
  obtain ⟨k, hk, rfl, Hall, ht⟩ := hrel
  by_cases hlt : k < rows.length
  ·obtain ⟨bd, A1, c1, rfl, e0, hr⟩ := (hv.touch0 ht).at_ k hlt
   have hvk1 := hvk _ (List.getElem_mem hlt)
   have hno := all_fit_no (cs := cs) hlt
   have hyes := all_snoc (p := fitR cs) hlt Hall.out
   obtain ⟨r, hre⟩ : ∃ r, r = rows[k] := ⟨_, rfl⟩
   rw [← hre] at e0 hr hvk1 hno hyes
   have hf := fun w' (t : Touch [] wr w') => fit1_any B SA cap n cs hn hok hc0 A1 c1 r.length r rfl hvk1.2 w' ((ht.trans0 t).cell hB (by simp)) (h.touch0 (ht.trans0 t)) (hr.touch0 t) hl hvk1.1
   have Hno := Lib.hid hno; have Hyes := Lib.hid hyes
   have hkI : (k : Int) < (rows.length : Int) := by omega
   clear hno hyes hre hr Hall
   rcases hb : fitR cs r with _ | _
   ·rw [hb] at hf
    have Hf := Lib.hid hf
    have Hs := Lib.hid (Hno.out hb)
    clear hf hb
    go_wp2_with fail
    refine (Hf.out _ (by first | exact Touch.refl _ _ | exact (Touch.refl _ _).drewN _)).mono ?_
    rintro e w1 ⟨rfl, t1⟩
    go_wp2
    go_ret
    exact ⟨⟨k, rfl, by omega, by omega, by rw [Hs.out]; simp⟩, ht.trans0 t1⟩
   ·rw [hb] at hf
    have Hf := Lib.hid hf
    have Hs := Lib.hid (Hyes.out hb)
    clear hf hb
    go_wp2_with fail
    refine (Hf.out _ (by first | exact Touch.refl _ _ | exact (Touch.refl _ _).drewN _)).mono ?_
    rintro e w1 ⟨rfl, t1⟩
    go_wp2
    go_roundw
    case rel => exact ⟨k + 1, by omega, by go_num, Hs, ht.trans0 t1⟩
    case measure => simp [intOf]; omega
  ·obtain rfl : k = rows.length := by omega
   have hall := Hall.out
   rw [List.take_length] at hall
   have Hs := Lib.hid hall
   go_wp2
   go_ret
   exact ⟨⟨-1, rfl, by omega, by omega, by rw [Hs.out]; rfl⟩, ht⟩
end Go.Proofs.YtafoklilkdnepaaGreatDoor

/- Rows of slices told by a function; swapRangeCmpFunc, rotateCmpFunc on them: slices of values. -/
namespace Go.Proofs.YtafoklilkdnepaaGreatDoor
open Go.RowKit

abbrev slV (s : SL) : Value := .slice s.A s.n s.c
/-- n slices told by a function, in a row -/
def RowV (S : Nat → SL) (w : World) (G c n : Nat) (f : Nat → Nat) : Prop := OwnK 33 1 (fun s => [slV s]) w (some ⟨G, 0, none⟩) c ((List.range n).map fun k => S (f k))
theorem RowV.cell {S : Nat → SL} {w : World} {G c n : Nat} {f : Nat → Nat} (h : RowV S w G c n f) (k : Nat) (hk : k < n) : w.cell? ⟨G, k, none⟩ = some (Value.slice (SL.A (S (f k))) (SL.n (S (f k))) (SL.c (S (f k)))) := by
 have := OwnK.cell1 h k (by simpa using hk)
 simpa using this
theorem RowV.free {S : Nat → SL} {w : World} {G c n : Nat} {f : Nat → Nat} (h : RowV S w G c n f) (k : Nat) : w.frozen? ⟨G, k, none⟩ = false := OwnK.free_ h k
theorem RowV.touch {S : Nat → SL} {w w' : World} {G c n : Nat} {f : Nat → Nat} {fp : List Nat} (h : RowV S w G c n f) (ht : Touch fp w w') (hn : G ∉ fp) : RowV S w' G c n f := OwnK.touch h ht (fun b hb => by simp [fpo] at hb; subst hb; exact hn)
theorem RowV.touch0 {S : Nat → SL} {w w' : World} {G c n : Nat} {f : Nat → Nat} (h : RowV S w G c n f) (ht : Touch [] w w') : RowV S w' G c n f := h.touch ht (by simp)
theorem RowV.set {S : Nat → SL} {w : World} {G c n : Nat} {f : Nat → Nat} (h : RowV S w G c n f) (i v : Nat) (hi : i < n) : RowV S (w.setCell ⟨G, i, none⟩ (Value.slice (SL.A (S v)) (SL.n (S v)) (SL.c (S v)))) G c n (upd f i v) := by
 have := OwnK.set1 h i (by simpa using hi) (S v)
 have e : ((List.range n).map fun k => S (f k)).set i (S v) = (List.range n).map fun k => S (upd f i v k) := by
  apply List.ext_getElem
  ·simp
  ·intro j h1 h2
   simp only [List.getElem_set, List.getElem_map, List.getElem_range, upd]
   by_cases q : i = j
   ·subst q; simp
   ·have q2 : ¬ j = i := fun e => q e.symm
    simp [q, q2]
 unfold RowV
 rw [← e]; exact this

set_option maxRecDepth 20000 in
set_option maxHeartbeats 3200000 in
/-- slices.swapRangeCmpFunc -/
theorem swapR_any (G c n : Nat) (hn : n ≤ 100000) (S : Nat → SL) (f : Nat → Nat) (a b q : Nat) (hab : a + q ≤ b) (hb : b + q ≤ n) (fv : Value) (w : World) (h : RowV S w G c n f) :
  Calls Tryz.prog 211 #[.slice (some ⟨G, 0, none⟩) n c, .int .i64 a, .int .i64 b, .int .i64 q, fv] w fun e w' => e = .returned (.tuple #[]) ∧ RowV S w' G c n (swp f a b q) ∧ Touch [G] w w' := by
 have H0 : Hid (RowV S w G c n (swp f a b 0)) := Lib.hid (by rw [swp_zero]; exact h)
 clear h
 go_enter Tryz.func211, Tryz.ntmps211
 go_wp2_with fail
 go_loopw [10] (fun y wr => ∃ i : Nat, i ≤ q ∧ y = .int .i64 i ∧ Hid (RowV S wr G c n (swp f a b i)) ∧ Hid (Touch [G] w wr)) (fun y _ => q - (intOf y).toNat)
 case atStart => exact ⟨0, by omega, rfl, H0, Lib.hid (Touch.refl _ _)⟩
 case round =>
  clear H0
  obtain ⟨i, hi, rfl, HR, HT⟩ := hrel
  by_cases hlt : i < q
  ·have ca := HR.out.cell (a + i) (by omega)
   have cb := HR.out.cell (b + i) (by omega)
   have fa := HR.out.free (a + i)
   have fb := HR.out.free (b + i)
   have hat := swp_at f a b i (by omega)
   rw [hat.1] at ca
   rw [hat.2] at cb
   have hne : a + i ≠ b + i := by omega
   obtain ⟨x, hx⟩ : ∃ x, x = f (a + i) := ⟨_, rfl⟩
   obtain ⟨y, hy⟩ : ∃ y, y = f (b + i) := ⟨_, rfl⟩
   rw [← hx] at ca
   rw [← hy] at cb
   have hs := (HR.out.set (a + i) y (by omega)).set (b + i) x (by omega)
   rw [hx, hy, swp_step f a b i (by omega), ← hx, ← hy] at hs
   have HS := Lib.hid hs
   have HT2 := Lib.hid ((HT.out.setCell (p := ⟨G, a + i, none⟩) (.inl (by simp)) (Value.slice (SL.A (S y)) (SL.n (S y)) (SL.c (S y)))).setCell (p := ⟨G, b + i, none⟩) (.inl (by simp)) (Value.slice (SL.A (S x)) (SL.n (S x)) (SL.c (S x))))
   clear hat hx hy hs
   go_wp2_with fail
   go_region
   go_wp2_with fail
   go_roundw
   case rel => exact ⟨i + 1, by omega, by go_num, Lib.hid (HS.out.touch0 (Touch.refl [] _).drew), Lib.hid HT2.out.drew⟩
   case measure => simp [intOf]; omega
  ·obtain rfl : i = q := by omega
   go_wp2
   go_end0
   exact ⟨rfl, HR.out, HT.out⟩

set_option maxRecDepth 20000 in
set_option maxHeartbeats 3200000 in
/-- slices.rotateCmpFunc -/
theorem rotate_any (G c n : Nat) (hn : n ≤ 100000) (S : Nat → SL) (f : Nat → Nat) (a m b : Nat) (ham : a < m) (hmb : m < b) (hb : b ≤ n) (fv : Value) (w : World) (h : RowV S w G c n f) :
  Calls Tryz.prog 203 #[.slice (some ⟨G, 0, none⟩) n c, .int .i64 a, .int .i64 m, .int .i64 b, fv] w fun e w' => e = .returned (.tuple #[]) ∧ RowV S w' G c n (rot f a m b) ∧ Touch [G] w w' := by
 have H0 : Hid (rot f (m - (m - a)) m (m + (b - m)) = rot f a m b) := Lib.hid (by rw [show m - (m - a) = a by omega, show m + (b - m) = b by omega])
 have HR0 := Lib.hid h
 clear h
 go_enter Tryz.func203, Tryz.ntmps203
 go_wp2_with fail
 go_loopw [10, 11] (fun x y wr => ∃ (i j : Nat) (g : Nat → Nat), 0 < i ∧ 0 < j ∧ i ≤ m - a ∧ j ≤ b - m ∧ x = .int .i64 i ∧ y = .int .i64 j ∧ Hid (rot g (m - i) m (m + j) = rot f a m b) ∧ Hid (RowV S wr G c n g) ∧ Hid (Touch [G] w wr)) (fun x y _ => (intOf x).toNat + (intOf y).toNat)
 case atStart => exact ⟨m - a, b - m, f, by omega, by omega, by omega, by omega, by congr 1; omega, by congr 1; omega, H0, HR0, Lib.hid (Touch.refl _ _)⟩
 case round =>
  clear H0 HR0
  obtain ⟨i, j, g, hi, hj, him, hjb, rfl, rfl, HE, HR, HT⟩ := hrel
  have e1 : (m : Int) - (i : Int) = ((m - i : Nat) : Int) := by omega
  by_cases hij : i = j
  ·subst hij
   have hS := swapR_any G c n hn S g (m - i) m i (by omega) (by omega) fv wr HR.out
   rw [rot_same g m i (by omega), HE.out] at hS
   have HS := Lib.hid hS
   clear hS
   go_wp2_with fail
   (try rw [e1])
   refine HS.out.mono ?_
   rintro e w2 ⟨rfl, hr, ht⟩
   go_wp2_with fail
   go_end0
   exact ⟨rfl, hr, HT.out.trans ht (fun b hb => .inl hb)⟩
  ·have hij' : (i : Int) ≠ j := by omega
   have hne : ((i : Int) != (j : Int)) = true := by simp; omega
   by_cases hlt : j < i
   ·have hS := swapR_any G c n hn S g (m - i) m j (by omega) (by omega) fv wr HR.out
    have HS := Lib.hid hS
    have HE2 := Lib.hid ((rot_left g m i j (by omega) hlt).trans HE.out)
    have e2 : (i : Int) - (j : Int) = ((i - j : Nat) : Int) := by omega
    have hlt' : (j : Int) < (i : Int) := by omega
    clear hS
    go_wp2_with fail
    (try rw [e1])
    refine HS.out.mono ?_
    rintro e w2 ⟨rfl, hr, ht⟩
    have HR2 := Lib.hid hr
    have HT2 := Lib.hid (HT.out.trans ht (fun b hb => .inl hb))
    clear hr ht HS
    go_wp2_with fail
    go_roundw
    case rel => exact ⟨i - j, j, _, by omega, by omega, by omega, by omega, by rw [← e2], rfl, HE2, HR2, HT2⟩
    case measure => simp [intOf]; omega
   ·have hlt' : ((j : Int) < (i : Int)) = False := by simp; omega
    have hS := swapR_any G c n hn S g (m - i) (m + j - i) i (by omega) (by omega) fv wr HR.out
    have HS := Lib.hid hS
    have HE2 := Lib.hid ((rot_right g m i j (by omega) (by omega)).trans HE.out)
    have e2 : (j : Int) - (i : Int) = ((j - i : Nat) : Int) := by omega
    have e3 : (m : Int) + (j : Int) - (i : Int) = ((m + j - i : Nat) : Int) := by omega
    clear hS
    go_wp2_with fail
    (try rw [e1])
    (try rw [e3])
    refine HS.out.mono ?_
    rintro e w2 ⟨rfl, hr, ht⟩
    have HR2 := Lib.hid hr
    have HT2 := Lib.hid (HT.out.trans ht (fun b hb => .inl hb))
    clear hr ht HS
    go_wp2_with fail
    go_roundw
    case rel => exact ⟨i, j - i, _, by omega, by omega, by omega, by omega, rfl, by rw [← e2], HE2, HR2, HT2⟩
    case measure => simp [intOf]; omega
end Go.Proofs.YtafoklilkdnepaaGreatDoor

/- slices.symMergeCmpFunc on rows of slices: one element ahead, one behind. (gen_st.py) -/
namespace Go.Proofs.YtafoklilkdnepaaGreatDoor
open Go.RowKit

/-- the comparing function, at whatever world of the sort's -/
def CmpOkV (S : Nat → SL) (R : Nat → Nat → Int) (G n : Nat) (w0 : World) : Prop := ∀ wr, Touch [G] w0 wr → ∀ x y : Nat, x < n → y < n →
 Calls Tryz.prog 81 #[(Value.slice (SL.A (S x)) (SL.n (S x)) (SL.c (S x))), (Value.slice (SL.A (S y)) (SL.n (S y)) (SL.c (S y)))] wr fun e w' => e = .returned (.int .i64 (R x y)) ∧ Touch [] wr w'
/-- what symMerge does -/
def SmSpecV (S : Nat → SL) (G c n : Nat) (D : Nat → Nat) (w0 : World) (a m b : Nat) : Prop := ∀ (f : Nat → Nat) (wr : World), RowV S wr G c n f → Touch [G] w0 wr → Srt D f a m → Srt D f m b → Lr f a m b → (∀ k, k < n → f k < n) →
 Calls Tryz.prog 178 #[.slice (some ⟨G, 0, none⟩) n c, .int .i64 a, .int .i64 m, .int .i64 b, .func (.func 81) #[] #[]] wr fun e w' =>
  e = .returned (.tuple #[]) ∧ ∃ g, RowV S w' G c n g ∧ SM D f a b g ∧ Touch [G] wr w'

set_option maxRecDepth 20000 in
set_option maxHeartbeats 8000000 in
/-- one element ahead -/
theorem sm_first (G c n : Nat) (hn : n ≤ 100000) (S : Nat → SL) (R : Nat → Nat → Int) (D : Nat → Nat) (hRD : ∀ x y, R x y < 0 ↔ D x < D y) (w0 : World) (hC : CmpOkV S R G n w0) (a b : Nat) (hab : a + 1 < b) (hb : b ≤ n) : SmSpecV S G c n D w0 a (a + 1) b := by
 intro f wr hR hT hs1 hs2 hlr hfn
 obtain ⟨W0, hW0⟩ : ∃ W0, W0 = wr := ⟨_, rfl⟩
 subst hW0
 have HR := Lib.hid hR
 have HT := Lib.hid hT
 have HS := Lib.hid (And.intro hs2 hlr)
 have HC := Lib.hid hC
 have e1 : (((a + 1 : Nat) : Int) - (a : Int)) = 1 := by omega
 clear hR hT hs1 hs2 hlr hC
 go_enter Tryz.func178, Tryz.ntmps178
 go_wp2_with fail
 go_loopw [10, 11] (fun x y w1 => ∃ i j : Nat, a + 1 ≤ i ∧ i ≤ j ∧ j ≤ b ∧ x = .int .i64 i ∧ y = .int .i64 j ∧ Hid (∀ h, a + 1 ≤ h → h < i → ltL D (f h) (f a)) ∧ Hid (∀ h, j ≤ h → h < b → ltL D (f a) (f h)) ∧ Hid (Touch [] W0 w1)) (fun x y _ => (intOf y).toNat - (intOf x).toNat)
 case atStart => exact ⟨a + 1, b, by omega, by omega, by omega, by go_num, rfl, Lib.hid (fun h q1 q2 => absurd q1 (by omega)), Lib.hid (fun h q1 q2 => absurd q1 (by omega)), Lib.hid (Touch.refl _ _)⟩
 case round =>
  obtain ⟨i, j, hi, hij, hj, rfl, rfl, HL, HH, HW⟩ := hrel
  have hT1 : Touch [G] w0 wr := HT.out.trans HW.out (by simp)
  have hR1 : RowV S wr G c n f := HR.out.touch0 HW.out
  by_cases hlt : i < j
  ·obtain ⟨h, hh⟩ : ∃ h, h = (i + j) / 2 := ⟨_, rfl⟩
   have hhi : i ≤ h := by omega
   have hhj : h < j := by omega
   have ch := TW.cell (hR1.cell h (by omega))
   have ca := TW.cell (hR1.cell a (by omega))
   obtain ⟨r, hr⟩ : ∃ r, r = R (f h) (f a) := ⟨_, rfl⟩
   have hc : ∀ x8 : TW wr, Calls Tryz.prog 81 #[(Value.slice (SL.A (S (f h))) (SL.n (S (f h))) (SL.c (S (f h)))), (Value.slice (SL.A (S (f a))) (SL.n (S (f a))) (SL.c (S (f a))))] x8.w fun e w' => e = .returned (.int .i64 r) ∧ Touch [] x8.w w' := fun x8 => by
    rw [hr]
    exact HC.out _ (Touch.trans hT1 x8.t (by simp)) (f h) (f a) (hfn _ (by omega)) (hfn _ (by omega))
   have HR1 := Lib.hid hR1
   have HT1 := Lib.hid hT1
   have HCC := Lib.hid hc
   have HQ := Lib.hid hr
   have he : ((i : Int) + (j : Int)) / 2 = (h : Int) := by omega
   clear hR1 hT1 hc hr hh
   go_wp2_with fail
   refine wp_region_tw wr (Touch.refl _ _) (by kernel_rfl) (by kernel_rfl) ?_
   repeat (go_big_quiet_step (((go_at_call 81; exact Calls.tw _ (HCC.out _)))))
   refine wpQuiet_nil ?_
   rintro _ ⟨x9, rfl⟩
   by_cases hr0 : r < 0
   ·go_wp2_with fail
    go_roundw
    case rel =>
     have q := (hRD _ _).1 (HQ.out ▸ hr0)
     have q2 : ltL D (f h) (f a) := .inl (by omega)
     exact ⟨h + 1, j, by omega, by omega, hj, by go_num, rfl, Lib.hid (fun x x1 x2 => srt_lt HS.out.1 x1 (by omega) (by omega) q2), HH, Lib.hid (HW.out.trans0 x9.t)⟩
    case measure => simp [intOf]; omega
   ·have hr1 : (r < 0) = False := by simp; omega
    go_wp2_with fail
    go_roundw
    case rel =>
     have q := mt (hRD (f h) (f a)).2 (HQ.out ▸ hr0)
     have q2 : ltL D (f a) (f h) := (ltL_num (HS.out.2 a h (by omega) (by omega) (by omega) (by omega))).2 (by omega)
     exact ⟨i, h, by omega, by omega, by omega, rfl, by go_num, HL, Lib.hid (fun x x1 x2 => srt_gt HS.out.1 (by omega) x1 x2 q2), Lib.hid (HW.out.trans0 x9.t)⟩
    case measure => simp [intOf]; omega
  ·obtain rfl : i = j := by omega
   have H0 : Hid (RowV S wr G c n (rot f a (a + 1) (a + 1))) := Lib.hid (by rw [rot_a]; exact hR1)
   have HT1 := Lib.hid hT1
   have HW1 : Hid (Touch [G] W0 wr) := Lib.hid (HW.out.mono (by simp))
   have e2 : (i : Int) - 1 = ((i - 1 : Nat) : Int) := by omega
   clear hR1 hT1
   go_wp2_with fail
   go_loopw [13] (fun y w1 => ∃ k : Nat, a ≤ k ∧ k + 1 ≤ i ∧ y = .int .i64 k ∧ Hid (RowV S w1 G c n (rot f a (a + 1) (k + 1))) ∧ Hid (Touch [G] W0 w1)) (fun y _ => i - (intOf y).toNat)
   case atStart => exact ⟨a, by omega, by omega, rfl, H0, HW1⟩
   case round =>
    clear H0 HW1 HT1
    obtain ⟨k, hk, hki, rfl, HRk, HTk⟩ := hrel
    by_cases hlt : k + 1 < i
    ·have hlt2 : (k : Int) < ((i - 1 : Nat) : Int) := by omega
     have ca := HRk.out.cell k (by omega)
     have cb := HRk.out.cell (k + 1) (by omega)
     have fa := HRk.out.free k
     have fb := HRk.out.free (k + 1)
     have hat := rot_up_at f a k hk
     rw [hat.1] at ca
     rw [hat.2] at cb
     obtain ⟨x, hx⟩ : ∃ x, x = f a := ⟨_, rfl⟩
     obtain ⟨y, hy⟩ : ∃ y, y = f (k + 1) := ⟨_, rfl⟩
     rw [← hx] at ca
     rw [← hy] at cb
     have hs := (HRk.out.set k y (by omega)).set (k + 1) x (by omega)
     rw [hx, hy, rot_up f a k hk, ← hx, ← hy] at hs
     have HS2 := Lib.hid hs
     have HT2 := Lib.hid ((HTk.out.setCell (p := ⟨G, k, none⟩) (.inl (by simp)) (Value.slice (SL.A (S y)) (SL.n (S y)) (SL.c (S y)))).setCell (p := ⟨G, k + 1, none⟩) (.inl (by simp)) (Value.slice (SL.A (S x)) (SL.n (S x)) (SL.c (S x))))
     have hne : k ≠ k + 1 := by omega
     clear hat hx hy hs
     go_wp2_with fail
     go_region
     go_wp2_with fail
     go_roundw
     case rel => exact ⟨k + 1, by omega, by omega, by go_num, Lib.hid (HS2.out.touch0 (Touch.refl [] _).drew), Lib.hid HT2.out.drew⟩
     case measure => simp [intOf]; omega
    ·have hlt2 : ((k : Int) < ((i - 1 : Nat) : Int)) = False := by simp; omega
     go_wp2
     refine bodyPost_ret (results_none rfl _ _ _) rfl ?_
     obtain rfl : k + 1 = i := by omega
     exact ⟨rfl, _, HRk.out, sm_one hab HS.out.1 (by omega) hj HL.out HH.out, HTk.out⟩
set_option maxRecDepth 20000 in
set_option maxHeartbeats 8000000 in
/-- one element behind -/
theorem sm_back (G c n : Nat) (hn : n ≤ 100000) (S : Nat → SL) (R : Nat → Nat → Int) (D : Nat → Nat) (hRD : ∀ x y, R x y < 0 ↔ D x < D y) (w0 : World) (hC : CmpOkV S R G n w0) (a m : Nat) (ham : a + 1 < m) (hb : m + 1 ≤ n) : SmSpecV S G c n D w0 a m (m + 1) := by
 intro f wr hR hT hs1 hs2 hlr hfn
 obtain ⟨W0, hW0⟩ : ∃ W0, W0 = wr := ⟨_, rfl⟩
 subst hW0
 have HR := Lib.hid hR
 have HT := Lib.hid hT
 have HS := Lib.hid (And.intro hs1 hlr)
 have HC := Lib.hid hC
 have HF := Lib.hid hfn
 have e1 : ((m : Int) - (a : Int) == 1) = false := by simp; omega
 have e2 : (((m + 1 : Nat) : Int) - (m : Int)) = 1 := by omega
 clear hR hT hs1 hs2 hlr hC hfn
 go_enter Tryz.func178, Tryz.ntmps178
 go_wp2_with fail
 go_loopw [14, 15] (fun x y w1 => ∃ i j : Nat, a ≤ i ∧ i ≤ j ∧ j ≤ m ∧ x = .int .i64 i ∧ y = .int .i64 j ∧ Hid (∀ h, a ≤ h → h < i → ltL D (f h) (f m)) ∧ Hid (∀ h, j ≤ h → h < m → ltL D (f m) (f h)) ∧ Hid (Touch [] W0 w1)) (fun x y _ => (intOf y).toNat - (intOf x).toNat)
 case atStart => exact ⟨a, m, by omega, by omega, by omega, rfl, rfl, Lib.hid (fun h q1 q2 => absurd q1 (by omega)), Lib.hid (fun h q1 q2 => absurd q1 (by omega)), Lib.hid (Touch.refl _ _)⟩
 case round =>
  obtain ⟨i, j, hi, hij, hj, rfl, rfl, HL, HH, HW⟩ := hrel
  have hT1 : Touch [G] w0 wr := HT.out.trans HW.out (by simp)
  have hR1 : RowV S wr G c n f := HR.out.touch0 HW.out
  by_cases hlt : i < j
  ·obtain ⟨h, hh⟩ : ∃ h, h = (i + j) / 2 := ⟨_, rfl⟩
   have hhi : i ≤ h := by omega
   have hhj : h < j := by omega
   have ch := TW.cell (hR1.cell h (by omega))
   have ca := TW.cell (hR1.cell m (by omega))
   obtain ⟨r, hr⟩ : ∃ r, r = R (f m) (f h) := ⟨_, rfl⟩
   have hc : ∀ x8 : TW wr, Calls Tryz.prog 81 #[(Value.slice (SL.A (S (f m))) (SL.n (S (f m))) (SL.c (S (f m)))), (Value.slice (SL.A (S (f h))) (SL.n (S (f h))) (SL.c (S (f h))))] x8.w fun e w' => e = .returned (.int .i64 r) ∧ Touch [] x8.w w' := fun x8 => by
    rw [hr]
    exact HC.out _ (Touch.trans hT1 x8.t (by simp)) (f m) (f h) (HF.out _ (by omega)) (HF.out _ (by omega))
   have HR1 := Lib.hid hR1
   have HT1 := Lib.hid hT1
   have HCC := Lib.hid hc
   have HQ := Lib.hid hr
   have he : ((i : Int) + (j : Int)) / 2 = (h : Int) := by omega
   clear hR1 hT1 hc hr hh
   go_wp2_with fail
   by_cases hr0 : r < 0
   ·refine wp_region_tw wr (Touch.refl _ _) (by kernel_rfl) (by kernel_rfl) ?_
    repeat (go_big_quiet_step (((go_at_call 81; exact Calls.tw _ (HCC.out _)))))
    refine wpQuiet_nil ?_
    rintro _ ⟨x9, rfl⟩
    go_wp2_with fail
    go_roundw
    case rel =>
     have q := (hRD _ _).1 (HQ.out ▸ hr0)
     have q2 : ltL D (f m) (f h) := .inl (by omega)
     exact ⟨i, h, by omega, by omega, by omega, rfl, by go_num, HL, Lib.hid (fun x x1 x2 => srt_gt HS.out.1 (by omega) x1 x2 q2), Lib.hid (HW.out.trans0 x9.t)⟩
    case measure => simp [intOf]; omega
   ·have hr1 : (r < 0) = False := by simp; omega
    refine wp_region_tw wr (Touch.refl _ _) (by kernel_rfl) (by kernel_rfl) ?_
    repeat (go_big_quiet_step (((go_at_call 81; exact Calls.tw _ (HCC.out _)))))
    refine wpQuiet_nil ?_
    rintro _ ⟨x9, rfl⟩
    go_wp2_with fail
    go_roundw
    case rel =>
     have q := mt (hRD (f m) (f h)).2 (HQ.out ▸ hr0)
     have q2 : ltL D (f h) (f m) := (ltL_num (HS.out.2 h m (by omega) (by omega) (by omega) (by omega))).2 (by omega)
     exact ⟨h + 1, j, by omega, by omega, hj, by go_num, rfl, Lib.hid (fun x x1 x2 => srt_lt HS.out.1 x1 (by omega) (by omega) q2), HH, Lib.hid (HW.out.trans0 x9.t)⟩
    case measure => simp [intOf]; omega
  ·obtain rfl : i = j := by omega
   have H0 : Hid (RowV S wr G c n (rot f m m (m + 1))) := Lib.hid (by rw [rot_b]; exact hR1)
   have HT1 := Lib.hid hT1
   have HW1 : Hid (Touch [G] W0 wr) := Lib.hid (HW.out.mono (by simp))
   clear hR1 hT1
   go_wp2_with fail
   go_loopw [17] (fun y w1 => ∃ k : Nat, i ≤ k ∧ k ≤ m ∧ y = .int .i64 k ∧ Hid (RowV S w1 G c n (rot f k m (m + 1))) ∧ Hid (Touch [G] W0 w1)) (fun y _ => (intOf y).toNat - i)
   case atStart => exact ⟨m, by omega, by omega, rfl, H0, HW1⟩
   case round =>
    clear H0 HW1 HT1
    obtain ⟨k', hk, hki, rfl, HRk, HTk⟩ := hrel
    by_cases hlt : i < k'
    ·obtain ⟨k, rfl⟩ : ∃ k, k' = k + 1 := ⟨k' - 1, by omega⟩
     have hlt2 : (i : Int) < ((k + 1 : Nat) : Int) := by omega
     have ca := HRk.out.cell k (by omega)
     have cb := HRk.out.cell (k + 1) (by omega)
     have fa := HRk.out.free k
     have fb := HRk.out.free (k + 1)
     have hat := rot_dn_at f m k hki
     rw [hat.1] at ca
     rw [hat.2] at cb
     obtain ⟨x, hx⟩ : ∃ x, x = f m := ⟨_, rfl⟩
     obtain ⟨y, hy⟩ : ∃ y, y = f k := ⟨_, rfl⟩
     rw [← hy] at ca
     rw [← hx] at cb
     have hs := (HRk.out.set (k + 1) y (by omega)).set k x (by omega)
     rw [hx, hy, rot_dn f m k hki, ← hx, ← hy] at hs
     have HS2 := Lib.hid hs
     have HT2 := Lib.hid ((HTk.out.setCell (p := ⟨G, k + 1, none⟩) (.inl (by simp)) (Value.slice (SL.A (S y)) (SL.n (S y)) (SL.c (S y)))).setCell (p := ⟨G, k, none⟩) (.inl (by simp)) (Value.slice (SL.A (S x)) (SL.n (S x)) (SL.c (S x))))
     have e3 : ((k + 1 : Nat) : Int) - 1 = (k : Int) := by omega
     have hne : k + 1 ≠ k := by omega
     clear hat hx hy hs
     go_wp2_with fail
     go_region
     go_wp2_with fail
     go_roundw
     case rel => exact ⟨k, by omega, by omega, by go_num, Lib.hid (HS2.out.touch0 (Touch.refl [] _).drew), Lib.hid HT2.out.drew⟩
     case measure => simp [intOf]; omega
    ·obtain rfl : i = k' := by omega
     have hlt2 : ((i : Int) < (i : Int)) = False := by simp
     go_wp2
     refine bodyPost_ret (results_none rfl _ _ _) rfl ?_
     exact ⟨rfl, _, HRk.out, sm_last (by omega) HS.out.1 hi hj HL.out HH.out, HTk.out⟩
end Go.Proofs.YtafoklilkdnepaaGreatDoor
