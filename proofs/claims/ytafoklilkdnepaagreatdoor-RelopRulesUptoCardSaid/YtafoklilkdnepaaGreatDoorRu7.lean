/- Part 7 of the texts of this proof, one behind the other; each begins with its own sentence. No condition beyond those that its theorems state. -/
import Derived.Test.YtafoklilkdnepaaGreatDoorRu6
import Derived.WalkSpells
/- slices.ContainsFunc, table.fit, slices.IsSortedFunc, table.Table.Check: for every schema and rows. -/
namespace Go.Proofs.YtafoklilkdnepaaGreatDoor
open Go.RowKit

/-- rows that are within bounds -/
def RowsOk (rows : List (List VD)) : Prop := ∀ r ∈ rows, r.length ≤ 140737000000000 ∧ ∀ v ∈ r, v.Ok 140737000000000

set_option maxHeartbeats 800000 in
theorem contains_any (B : Nat) (SA : Option Addr) (cap n : Nat) (cs : List CD) (hn : cs.length = n) (hok : ∀ c ∈ cs, c.Ok) (hc0 : checkV cs = 0) (A : Option Addr) (c m : Nat) (rows : List (List VD)) (hm : rows.length = m) (hvk : RowsOk rows) (w : World)
  (hB : w.cell? ⟨B, 0, none⟩ = some (.slice SA n cap)) (h : ColsAt w SA cs) (hv : RowsAt w A rows) (hl : n ≤ 140737000000000) (hl2 : m ≤ 140737000000000) :
  Calls Tryz.prog 109 #[.slice A m c, .func (.func 110) #[] #[.pointer (some ⟨B, 0, none⟩)]] w fun e w' => e = .returned (.bool (!rows.all (fitR cs))) ∧ Touch [] w w' := by
 have hi := indexRows_any B SA cap n cs hn hok hc0 A c m rows hm hvk w hB h hv hl hl2
 have Hi := Lib.hid hi
 clear hi
 go_enter Tryz.func109, Tryz.ntmps109
 go_wp2_with fail
 refine Hi.out.mono ?_
 rintro e w1 ⟨⟨i, rfl, i1, i2, i3⟩, t1⟩
 have I3 := Lib.hid i3
 clear i3
 go_wp2
 go_ret
 exact ⟨ret_bool (by rw [← I3.out]), t1⟩

set_option maxRecDepth 20000 in
set_option maxHeartbeats 1600000 in
theorem fit_any (SA : Option Addr) (cap n : Nat) (cs : List CD) (hn : cs.length = n) (hok : ∀ c ∈ cs, c.Ok) (A : Option Addr) (c m : Nat) (rows : List (List VD)) (hm : rows.length = m) (hvk : RowsOk rows) (w : World)
  (h : ColsAt w SA cs) (hv : RowsAt w A rows) (hl : n ≤ 140737000000000) (hl2 : m ≤ 140737000000000) :
  Calls Tryz.prog 79 #[.slice SA n cap, .slice A m c] w fun e w' => e = .returned (.int .i64 (fitV cs rows)) ∧ Touch [] w w' := by
 have t0 := (Touch.refl [] w).alloc (.cells #[.slice SA n cap] 24)
 have hb0 := heap_alloc_new w (.cells #[.slice SA n cap] 24)
 have hck := check_any SA cap n cs hn hok _ (h.touch0 t0) (by omega)
 by_cases hc : checkV cs = 0
 ·rw [hc] at hck
  have Hck := Lib.hid hck
  have Hcf := Lib.hid fun w' (t : Touch [] (w.alloc (.cells #[.slice SA n cap] 24)) w') => contains_any w.heap.size SA cap n cs hn hok hc A c m rows hm hvk w' (t.cell (cell_blk hb0 (i := 0) rfl) (by simp)) (h.touch0 (t0.trans0 t)) (hv.touch0 (t0.trans0 t)) hl hl2
  have Hfv := Lib.hid (show fitV cs rows = if 4096 < rows.length then 31 else if rows.all (fitR cs) = true then 0 else 12 by unfold fitV; rw [if_pos hc])
  have Hm := Lib.hid hm
  clear hck hc hm hvk hok
  by_cases h4 : 4096 < m
  ·have Hq := Lib.hid (show fitV cs rows = 31 by rw [Hfv.out, Hm.out, if_pos h4])
   go_enter Tryz.func79, Tryz.ntmps79
   go_wp2_with fail
   refine Hck.out.mono ?_
   rintro e w1 ⟨rfl, t1⟩
   go_wp2
   go_ret
   exact ⟨ret_int Hq.out.symm, t0.trans0 t1⟩
  ·rcases ha : rows.all (fitR cs) with _ | _
   ·have Hq := Lib.hid (show fitV cs rows = 12 by rw [Hfv.out, Hm.out, if_neg h4, ha]; rfl)
    rw [ha] at Hcf
    clear ha
    go_enter Tryz.func79, Tryz.ntmps79
    go_wp2_with fail
    refine Hck.out.mono ?_
    rintro e w1 ⟨rfl, t1⟩
    go_wp2_with fail
    refine (Hcf.out _ t1).mono ?_
    rintro e w2 ⟨rfl, t2⟩
    go_wp2
    go_ret
    exact ⟨ret_int Hq.out.symm, (t0.trans0 t1).trans0 t2⟩
   ·have Hq := Lib.hid (show fitV cs rows = 0 by rw [Hfv.out, Hm.out, if_neg h4, ha]; rfl)
    rw [ha] at Hcf
    clear ha
    go_enter Tryz.func79, Tryz.ntmps79
    go_wp2_with fail
    refine Hck.out.mono ?_
    rintro e w1 ⟨rfl, t1⟩
    go_wp2_with fail
    refine (Hcf.out _ t1).mono ?_
    rintro e w2 ⟨rfl, t2⟩
    go_wp2
    go_ret
    exact ⟨ret_int Hq.out.symm, (t0.trans0 t1).trans0 t2⟩
 ·have Hck := Lib.hid hck
  have hfv : fitV cs rows = checkV cs := by unfold fitV; rw [if_neg hc]
  rw [hfv]
  obtain ⟨k, hk⟩ : ∃ k, k = checkV cs := ⟨_, rfl⟩
  rw [← hk]
  rw [← hk] at Hck hc
  have hq : (k == 0) = false := by rw [beq_eq_false_iff_ne]; exact hc
  have hq' : (k != 0) = true := by rw [bne, hq]; rfl
  clear hck hfv hk
  go_enter Tryz.func79, Tryz.ntmps79
  go_wp2_with fail
  refine Hck.out.mono ?_
  rintro e w1 ⟨rfl, t1⟩
  go_wp2
  go_ret
  exact ⟨rfl, t0.trans0 t1⟩

theorem fitV_cases (cs : List CD) (rows : List (List VD)) : fitV cs rows = 0 ∨ fitV cs rows ≠ 0 := by omega

theorem sorted_no {rows : List (List VD)} {p : Nat} (h : p + 1 < rows.length) (hb : cmpRV (rows[p + 1]) (rows[p]) < 0) : sortedV rows = false := by
 unfold sortedV
 rw [List.all_eq_false]
 refine ⟨p, List.mem_range.2 (by omega), ?_⟩
 rw [List.getD_eq_getElem?_getD, List.getD_eq_getElem?_getD, List.getElem?_eq_getElem h, List.getElem?_eq_getElem (by omega : p < rows.length)]
 simpa using hb
theorem sorted_yes {rows : List (List VD)} (h : ∀ p (hp : p + 1 < rows.length), 0 ≤ cmpRV (rows[p + 1]) (rows[p])) : sortedV rows = true := by
 unfold sortedV
 rw [List.all_eq_true]
 intro p hp
 have hp' : p + 1 < rows.length := by have := List.mem_range.1 hp; omega
 rw [List.getD_eq_getElem?_getD, List.getD_eq_getElem?_getD, List.getElem?_eq_getElem hp', List.getElem?_eq_getElem (by omega : p < rows.length)]
 simpa using h p hp'

set_option maxRecDepth 20000 in
set_option maxHeartbeats 1600000 in
theorem isSorted_any (A : Option Addr) (c m : Nat) (rows : List (List VD)) (hm : rows.length = m) (hvk : RowsOk rows) (w : World) (hv : RowsAt w A rows) (hl2 : m ≤ 140737000000000) :
  Calls Tryz.prog 80 #[.slice A m c, .func (.func 81) #[] #[]] w fun e w' => e = .returned (.bool (sortedV rows)) ∧ Touch [] w w' := by
 subst hm
 have hn1 : IntKind.i64.wrap ((rows.length : Int) - 1) = (rows.length : Int) - 1 := IntWalk.i64_in _ (by omega)
 go_enter Tryz.func80, Tryz.ntmps80
 go_wp2
 clear hn1
 go_loopw [5] (fun i wr => ∃ j : Nat, j ≤ rows.length ∧ i = .int .i64 ((j : Int) - 1) ∧ Hid (∀ p (hp : p + 1 < rows.length), j ≤ p + 1 → 0 ≤ cmpRV (rows[p + 1]) (rows[p])) ∧ Touch [] w wr) (fun i _ => (intOf i + 1).toNat)
 case atStart => exact ⟨rows.length, Nat.le_refl _, rfl, Lib.hid (fun p hp h => by omega), Touch.refl _ _⟩
 case round =>
  obtain ⟨j, hj, rfl, Hs, ht⟩ := hrel
  by_cases h2 : 2 ≤ j
  ·obtain ⟨p, rfl⟩ : ∃ p, j = p + 2 := ⟨j - 2, by omega⟩
   have hp1 : p + 1 < rows.length := by omega
   have hp0 : p < rows.length := by omega
   obtain ⟨bd, A1, c1, rfl, e1, hr1⟩ := (hv.touch0 ht).at_ (p + 1) hp1
   obtain ⟨bd2, A2, c2, hbd, e2, hr2⟩ := (hv.touch0 ht).at_ p hp0
   obtain rfl : bd = bd2 := by injection hbd
   have hv1 := hvk _ (List.getElem_mem hp1)
   have hv2 := hvk _ (List.getElem_mem hp0)
   have hno := fun h => sorted_no (rows := rows) hp1 h
   obtain ⟨r1, hr1e⟩ : ∃ r, r = rows[p + 1] := ⟨_, rfl⟩
   obtain ⟨r2, hr2e⟩ : ∃ r, r = rows[p] := ⟨_, rfl⟩
   rw [← hr1e] at e1 hr1 hv1 hno
   rw [← hr2e] at e2 hr2 hv2 hno
   have hcv := fun w' (t : Touch [] wr w') => cmpRows_any A1 A2 c1 c2 r1.length r2.length r1 r2 rfl rfl w' (hr1.touch0 t) (hr2.touch0 t) hv1.1 hv2.1
   have hcb := cmpRV_b r1 r2
   obtain ⟨x, hx⟩ : ∃ x, x = cmpRV r1 r2 := ⟨_, rfl⟩
   rw [← hx] at hcv hno hcb
   have Hcv := Lib.hid hcv
   have Hno := Lib.hid hno
   have Hx := Lib.hid hx
   have Hr1 := Lib.hid hr1e; have Hr2 := Lib.hid hr2e
   obtain ⟨q, hq⟩ : ∃ q, q = p + 1 := ⟨_, rfl⟩
   have hi : (((p + 2 : Nat) : Int) - 1) = (q : Int) := by omega
   rw [hi]
   rw [← hq] at e1
   have hw : IntKind.i64.wrap ((q : Int) - 1) = (p : Int) := by rw [IntWalk.i64_in _ (by omega)]; omega
   have hq0 : (0 : Int) < (q : Int) := by omega
   have hq00 : (0 : Int) ≤ (q : Int) := by omega
   have hqn : (q : Int) < (rows.length : Int) := by omega
   have hpp : (0 : Int) ≤ (p : Int) := by omega
   have hpn : (p : Int) < (rows.length : Int) := by omega
   have g1 := TW.cell e1
   have g2 := TW.cell e2
   have Hq := Lib.hid hq
   clear hcv hno hx hr1e hr2e hi hq e1 e2 hr1 hr2 hv1 hv2 hbd
   by_cases hx0 : x < 0
   ·have Hf := Lib.hid (Hno.out hx0)
    go_wp2
    refine wp_region_tw wr (Touch.refl _ _) (by kernel_rfl) (by kernel_rfl) ?_
    repeat (go_big_quiet_step (((go_at_call 81; exact Calls.tw _ (Hcv.out _ (TW.t _))))))
    refine wpQuiet_nil ?_
    rintro _ ⟨x2, rfl⟩
    go_wp2
    go_ret
    exact ⟨ret_bool (by rw [Hf.out]), ht.trans0 x2.t⟩
   ·have Hg := Lib.hid (show ∀ p' (hp : p' + 1 < rows.length), q ≤ p' + 1 → 0 ≤ cmpRV (rows[p' + 1]) (rows[p']) from fun p' hp h => by
     by_cases he : p + 2 ≤ p' + 1
     ·exact Hs.out p' hp he
     ·obtain rfl : p' = p := by have := Hq.out; omega
      rw [← Hr1.out, ← Hr2.out, ← Hx.out]; omega)
    go_wp2
    refine wp_region_tw wr (Touch.refl _ _) (by kernel_rfl) (by kernel_rfl) ?_
    repeat (go_big_quiet_step (((go_at_call 81; exact Calls.tw _ (Hcv.out _ (TW.t _))))))
    refine wpQuiet_nil ?_
    rintro _ ⟨x2, rfl⟩
    go_wp2
    go_roundw
    case rel => exact ⟨q, by omega, by have := Hq.out; first | omega | (congr 1; omega), Hg, ht.trans0 x2.t⟩
    case measure => simp [intOf]; have := Hq.out; omega
  ·have Hf := Lib.hid (show sortedV rows = true from sorted_yes fun p hp => Hs.out p hp (by omega))
   have hle : ¬ (0 : Int) < (j : Int) - 1 := by omega
   go_wp2
   go_ret
   exact ⟨ret_bool (by rw [Hf.out]), ht⟩

set_option maxRecDepth 20000 in
set_option maxHeartbeats 1600000 in
theorem checkT_any (SA : Option Addr) (cap n : Nat) (cs : List CD) (hn : cs.length = n) (hok : ∀ c ∈ cs, c.Ok) (A : Option Addr) (c m : Nat) (rows : List (List VD)) (hm : rows.length = m) (hvk : RowsOk rows) (w : World)
  (h : ColsAt w SA cs) (hv : RowsAt w A rows) (hl : n ≤ 140737000000000) (hl2 : m ≤ 140737000000000) :
  Calls Tryz.prog 50 #[.agg #[.slice SA n cap, .slice A m c]] w fun e w' => e = .returned (.int .i64 (checkT cs rows)) ∧ Touch [] w w' := by
 have t0 := (Touch.refl [] w).alloc (.cells #[.slice SA n cap, .slice A m c] 27)
 have hb0 := heap_alloc_new w (.cells #[.slice SA n cap, .slice A m c] 27)
 have Hf := Lib.hid (fit_any SA cap n cs hn hok A c m rows hm hvk _ (h.touch0 t0) (hv.touch0 t0) hl hl2)
 have Hs := Lib.hid fun w' (t : Touch [] w w') => isSorted_any A c m rows hm hvk w' (hv.touch0 t) hl2
 have Hct := Lib.hid (show checkT cs rows = if fitV cs rows = 0 then (if sortedV rows = true then 0 else 20) else fitV cs rows from rfl)
 obtain ⟨k, hk⟩ : ∃ k, k = fitV cs rows := ⟨_, rfl⟩
 rw [← hk] at Hf Hct
 have Hb0 := Lib.hid hb0
 clear hb0 hk
 by_cases h0 : k = 0
 ·subst h0
  obtain ⟨b, hb⟩ : ∃ b, b = sortedV rows := ⟨_, rfl⟩
  rw [← hb] at Hs Hct
  clear hb
  cases b
  ·have Hq := Lib.hid (show checkT cs rows = 20 from Hct.out)
   go_enter Tryz.func50, Tryz.ntmps50
   go_wp2_with fail
   refine Hf.out.mono ?_
   rintro e w1 ⟨rfl, t1⟩
   have e1 := t1.cell (cell_blk Hb0.out (i := 1) rfl) (by simp)
   go_wp2_with fail
   refine (Hs.out _ (t0.trans0 t1)).mono ?_
   rintro e w2 ⟨rfl, t2⟩
   go_wp2
   go_ret
   exact ⟨ret_int Hq.out.symm, (t0.trans0 t1).trans0 t2⟩
  ·have Hq := Lib.hid (show checkT cs rows = 0 from Hct.out)
   go_enter Tryz.func50, Tryz.ntmps50
   go_wp2_with fail
   refine Hf.out.mono ?_
   rintro e w1 ⟨rfl, t1⟩
   have e1 := t1.cell (cell_blk Hb0.out (i := 1) rfl) (by simp)
   go_wp2_with fail
   refine (Hs.out _ (t0.trans0 t1)).mono ?_
   rintro e w2 ⟨rfl, t2⟩
   go_wp2
   go_ret
   exact ⟨ret_int Hq.out.symm, (t0.trans0 t1).trans0 t2⟩
 ·have Hq := Lib.hid (show checkT cs rows = k by rw [Hct.out, if_neg h0])
  have hq : (k == 0) = false := by rw [beq_eq_false_iff_ne]; exact h0
  have hq' : (k != 0) = true := by rw [bne, hq]; rfl
  go_enter Tryz.func50, Tryz.ntmps50
  go_wp2_with fail
  refine Hf.out.mono ?_
  rintro e w1 ⟨rfl, t1⟩
  go_wp2
  go_ret
  exact ⟨ret_int Hq.out.symm, t0.trans0 t1⟩
end Go.Proofs.YtafoklilkdnepaaGreatDoor

/- slices.SortStableFunc at rows of values by schema.CmpRows: of any rows that the calls own. -/
namespace Go.Proofs.YtafoklilkdnepaaGreatDoor
open Go.RowKit

set_option maxHeartbeats 1600000 in
theorem inR_nil (A : Option Addr) (c : Nat) (fv : Value) (w : World) : Calls Tryz.prog 177 #[.slice A 0 c, .int .i64 0, .int .i64 0, fv] w fun e w' => e = .returned (.tuple #[]) ∧ w' = w := by
 go_enter Tryz.func177, Tryz.ntmps177
 go_wp2_with fail
 go_loop [8] (fun y => y = .int .i64 1) (fun _ => 0)
 case atStart => rfl
 case round =>
  obtain rfl := hrel
  go_wp2
  go_end0
  exact ⟨rfl, rfl⟩
set_option maxHeartbeats 1600000 in
theorem stableR_nil (A : Option Addr) (c : Nat) (fv : Value) (w : World) : Calls Tryz.prog 143 #[.slice A 0 c, .int .i64 0, fv] w fun e w' => e = .returned (.tuple #[]) ∧ w' = w := by
 have Hi := Lib.hid (inR_nil A c fv)
 go_enter Tryz.func143, Tryz.ntmps143
 go_wp2
 go_loop [7, 8] (fun a b => a = .int .i64 0 ∧ b = .int .i64 20) (fun _ _ => 0)
 case atStart => exact ⟨rfl, rfl⟩
 case round =>
  obtain ⟨rfl, rfl⟩ := hrel
  go_wp2_with fail
  refine (Hi.out _).mono ?_
  rintro e w1 ⟨rfl, hw⟩
  have HW := Lib.hid hw
  clear hw
  go_wp2_with fail
  go_loop [6, 7, 8, 9] (fun a _ _ _ => a = .int .i64 20) (fun _ _ _ _ => 0)
  case atStart => rfl
  case round =>
   obtain rfl := hrel
   go_wp2_with fail
   go_end0
   exact ⟨rfl, HW.out⟩
set_option maxHeartbeats 1600000 in
theorem sortR_nil (A : Option Addr) (c : Nat) (fv : Value) (w : World) : Calls Tryz.prog 102 #[.slice A 0 c, fv] w fun e w' => e = .returned (.tuple #[]) ∧ w' = w := by
 have Hi := Lib.hid (stableR_nil A c fv)
 go_enter Tryz.func102, Tryz.ntmps102
 go_wp2_with fail
 refine (Hi.out _).mono ?_
 rintro e w1 ⟨rfl, hw⟩
 have HW := Lib.hid hw
 clear hw
 go_wp2_with fail
 go_end0
 exact ⟨rfl, HW.out⟩

theorem range_getD {α : Type} (l : List α) (z : α) (n : Nat) (hn : l.length = n) : (List.range n).map (fun k => l.getD k z) = l := by
 subst hn
 apply List.ext_getElem
 ·simp
 ·intro i h1 h2; simp [h2]

theorem sortRows_any (B : Option Addr) (c n : Nat) (rows : List (List VD)) (hn : rows.length = n) (hl : n ≤ 100000) (hok : RowsOk rows) (base : Nat) (w : World) (h : OwnR 33 base w B c rows) :
  Calls Tryz.prog 102 #[.slice B n c, .func (.func 81) #[] #[]] w fun e w' =>
   e = .returned (.tuple #[]) ∧ ∃ out, SortedOf rows out ∧ OwnR 33 base w' B c out ∧ Touch (fpo B) w w' := by
 subst hn
 obtain ⟨sl, ⟨h1, h1'⟩, h2, h3⟩ := h
 by_cases h0 : rows.length = 0
 ·obtain rfl : rows = [] := List.eq_nil_of_length_eq_zero h0
  obtain rfl : sl = [] := List.eq_nil_of_length_eq_zero h1
  refine (sortR_nil B c _ w).mono ?_
  rintro e w1 ⟨rfl, rfl⟩
  exact ⟨rfl, [], ⟨.refl _, .nil⟩, ⟨[], ⟨rfl, h1'⟩, h2, h3⟩, Touch.refl _ _⟩
 ·rcases h2.head with ⟨q1, q2, q3⟩ | ⟨G, rfl⟩
  ·exact absurd (by rw [← h1, q2]; rfl) h0
  ·have hget : ∀ x (hx : x < sl.length), sl.getD x ⟨none, 0, 0⟩ = sl[x] := fun x hx => by simp [hx]
   have hgr : ∀ x (hx : x < rows.length), rows.getD x [] = rows[x] := fun x hx => by simp [hx]
   have hat : ∀ wr, Touch [G] w wr → ∀ x (hx : x < rows.length), (sl.getD x ⟨none, 0, 0⟩).n = (rows.getD x []).length ∧ ValsAt wr (sl.getD x ⟨none, 0, 0⟩).A (rows.getD x []) := fun wr ht x hx => by
    have hx1 : x < sl.length := by omega
    rw [hget x hx1, hgr x hx]
    exact ⟨(h1' x hx1 hx).1, RdK.touch (h1' x hx1 hx).2 ht (fun b hb => by have := (h3 _ (List.getElem_mem hx1) b hb).1; simpa [fpo] using this)⟩
   have hC : CmpOkV (fun x => sl.getD x ⟨none, 0, 0⟩) (rowR rows) G rows.length w := by
    intro wr ht x y hx hy
    obtain ⟨a1, a2⟩ := hat wr ht x hx
    obtain ⟨b1, b2⟩ := hat wr ht y hy
    have k1 := hok _ (List.getElem_mem hx)
    have k2 := hok _ (List.getElem_mem hy)
    rw [← hgr x hx] at k1
    rw [← hgr y hy] at k2
    exact cmpRows_any _ _ _ _ _ _ _ _ a1.symm b1.symm wr a2 b2 (by rw [a1]; exact k1.1) (by rw [b1]; exact k2.1)
   have hR : RowV (fun x => sl.getD x ⟨none, 0, 0⟩) w G c rows.length (fun k => k) := by
    unfold RowV
    rw [range_getD sl _ _ h1]
    exact h2
   refine (sortStable_any G c rows.length (by omega) hl _ _ _ (rowD_iff rows) w hC w hR (Touch.refl _ _)).mono ?_
   rintro e w1 ⟨rfl, g, hr, hg, ht⟩
   have hgn : ∀ i, i < rows.length → g i < rows.length := fun i hi => ((hg.2 (g i)).1 ⟨i, Nat.zero_le _, hi, rfl⟩).2
   refine ⟨rfl, _, good_sorted hg, ⟨_, ⟨by simp, fun i a b => ?_⟩, hr, fun s hs b hb => ?_⟩, ht⟩
   ·have hi : i < rows.length := by simpa using a
    have := hat w1 ht (g i) (hgn i hi)
    simpa using this
   ·obtain ⟨i, hi, rfl⟩ := List.mem_map.1 hs
    have hi := hgn i (List.mem_range.1 hi)
    have hi1 : g i < sl.length := by omega
    have hb : b ∈ fpo (sl.getD (g i) ⟨none, 0, 0⟩).A := hb
    rw [hget _ hi1] at hb
    obtain ⟨c1, c2, c3⟩ := h3 _ (List.getElem_mem hi1) b hb
    exact ⟨c1, Nat.lt_of_lt_of_le c2 ht.size, c3⟩
end Go.Proofs.YtafoklilkdnepaaGreatDoor

/- slices.Clone at values, at columns, at slices of values: of whatever slice. (gen_clone.py) -/
namespace Go.Proofs.YtafoklilkdnepaaGreatDoor
open Go.RowKit

theorem info_v5 : (Tryz.prog.info? 31).map (fun i => (i.zero, i.size, i.bytes)) = some (some (.agg #[.int .i64 0, .int .i64 0, .string ⟨#[]⟩]), 3, 32) := by kernel_rfl
theorem info_c5 : (Tryz.prog.info? 29).map (fun i => (i.zero, i.size, i.bytes)) = some (some (.agg #[.string ⟨#[]⟩, .int .i64 0]), 2, 24) := by kernel_rfl
theorem info_r5 : (Tryz.prog.info? 33).map (fun i => (i.zero, i.size, i.bytes)) = some (some (.slice none 0 0), 1, 24) := by kernel_rfl
theorem RdK.none_nil {α : Type} {enc : α → List Value} (k : Nat) (hk : ∀ x, (enc x).length = k) (h0 : 0 < k) {w : World} {l : List α} (h : RdK enc w none l) : l = [] := by
 rcases l with _ | ⟨x, l⟩
 ·rfl
 ·obtain ⟨ad, b, off, e, _⟩ := RdK.at_ h k hk h0 0 (by simp)
  cases e

set_option maxRecDepth 20000 in
set_option maxHeartbeats 1000000 in
theorem cloneV_any (A : Option Addr) (c n : Nat) (l : List VD) (hn : l.length = n) (hl : n ≤ 1000000) (w : World) (h : RdK vdE w A l) :
  Calls Tryz.prog 126 #[.slice A n c] w fun e w' => ∃ A' c', e = .returned (.slice A' n c') ∧ Made 31 3 vdE l A' c' w w' := by
 rcases A with _ | ad
 ·have hl0 := RdK.none_nil 3 vdE_length (by omega) h
  subst hl0
  obtain rfl : n = 0 := by simpa using hn.symm
  go_enter Tryz.func126, Tryz.ntmps126
  have hnil := run_eql_slice_nil (P := Tryz.prog) w 33 31 none 0 c Tryz.underlying33
  go_wp2
  go_ret
  exact ⟨none, 0, rfl, Made.nil _ _ _ _⟩
 ·subst hn
  have ho := OwnK.empty_new 31 3 vdE w
  have tb := (Touch.refl [] w).alloc (.cells #[] 31)
  have HO := Lib.hid (And.intro ho (And.intro (RdK.touch0 h tb) tb))
  clear ho tb
  go_enter Tryz.func126, Tryz.ntmps126
  have hnil := run_eql_slice_nil (P := Tryz.prog) w 33 31 (some ad) l.length c Tryz.underlying33
  go_wp2_with (at_builtin; refine stop ?_)
  refine go ?_
  refine wpList_appK (enc := vdE) rfl (.tmp 5) (.tmp 6) 33 rfl 31 (.agg #[.int .i64 0, .int .i64 0, .string ⟨#[]⟩]) 3 32 info_v5 Tryz.underlying33 rfl (by omega) vdE_length vdE_one (some ⟨w.heap.size, 0, none⟩) 0 0 [] rfl rfl HO.out.1 (some ad) l.length c l rfl rfl HO.out.2.1 (by omega) (by omega) ?_
  intro A3 c3 w3 hown3 ht3 hf3
  have H3 := Lib.hid (And.intro hown3 (And.intro ht3 hf3))
  clear hown3 ht3 hf3
  go_wp2
  go_ret
  obtain ⟨hown3, ht3, hf3⟩ := H3.out
  refine ⟨A3, c3, by first | rfl | (simp; rfl) | simp, by simpa using hown3, HO.out.2.2.trans ht3 (fun b hb => by simp [fpo] at hb; subst hb; exact .inr (Nat.le_refl _)), fun b hb => ?_⟩
  rcases hf3 b hb with e | e
  ·simp [fpo] at e; omega
  ·rw [World.size_alloc] at e; omega

set_option maxRecDepth 20000 in
set_option maxHeartbeats 1000000 in
theorem cloneC_any (A : Option Addr) (c n : Nat) (l : List CD) (hn : l.length = n) (hl : n ≤ 1000000) (w : World) (h : RdK cdE w A l) :
  Calls Tryz.prog 67 #[.slice A n c] w fun e w' => ∃ A' c', e = .returned (.slice A' n c') ∧ Made 29 2 cdE l A' c' w w' := by
 rcases A with _ | ad
 ·have hl0 := RdK.none_nil 2 cdE_length (by omega) h
  subst hl0
  obtain rfl : n = 0 := by simpa using hn.symm
  go_enter Tryz.func67, Tryz.ntmps67
  have hnil := run_eql_slice_nil (P := Tryz.prog) w 24 29 none 0 c Tryz.underlying24
  go_wp2
  go_ret
  exact ⟨none, 0, rfl, Made.nil _ _ _ _⟩
 ·subst hn
  have ho := OwnK.empty_new 29 2 cdE w
  have tb := (Touch.refl [] w).alloc (.cells #[] 29)
  have HO := Lib.hid (And.intro ho (And.intro (RdK.touch0 h tb) tb))
  clear ho tb
  go_enter Tryz.func67, Tryz.ntmps67
  have hnil := run_eql_slice_nil (P := Tryz.prog) w 24 29 (some ad) l.length c Tryz.underlying24
  go_wp2_with (at_builtin; refine stop ?_)
  refine go ?_
  refine wpList_appK (enc := cdE) rfl (.tmp 5) (.tmp 6) 24 rfl 29 (.agg #[.string ⟨#[]⟩, .int .i64 0]) 2 24 info_c5 Tryz.underlying24 rfl (by omega) cdE_length cdE_one (some ⟨w.heap.size, 0, none⟩) 0 0 [] rfl rfl HO.out.1 (some ad) l.length c l rfl rfl HO.out.2.1 (by omega) (by omega) ?_
  intro A3 c3 w3 hown3 ht3 hf3
  have H3 := Lib.hid (And.intro hown3 (And.intro ht3 hf3))
  clear hown3 ht3 hf3
  go_wp2
  go_ret
  obtain ⟨hown3, ht3, hf3⟩ := H3.out
  refine ⟨A3, c3, by first | rfl | (simp; rfl) | simp, by simpa using hown3, HO.out.2.2.trans ht3 (fun b hb => by simp [fpo] at hb; subst hb; exact .inr (Nat.le_refl _)), fun b hb => ?_⟩
  rcases hf3 b hb with e | e
  ·simp [fpo] at e; omega
  ·rw [World.size_alloc] at e; omega

set_option maxRecDepth 20000 in
set_option maxHeartbeats 1000000 in
theorem cloneR_any (A : Option Addr) (c n : Nat) (l : List SL) (hn : l.length = n) (hl : n ≤ 1000000) (w : World) (h : RdK slE w A l) :
  Calls Tryz.prog 141 #[.slice A n c] w fun e w' => ∃ A' c', e = .returned (.slice A' n c') ∧ Made 33 1 slE l A' c' w w' := by
 rcases A with _ | ad
 ·have hl0 := RdK.none_nil 1 slE_length (by omega) h
  subst hl0
  obtain rfl : n = 0 := by simpa using hn.symm
  go_enter Tryz.func141, Tryz.ntmps141
  have hnil := run_eql_slice_nil (P := Tryz.prog) w 25 33 none 0 c Tryz.underlying25
  go_wp2
  go_ret
  exact ⟨none, 0, rfl, Made.nil _ _ _ _⟩
 ·subst hn
  have ho := OwnK.empty_new 33 1 slE w
  have tb := (Touch.refl [] w).alloc (.cells #[] 33)
  have HO := Lib.hid (And.intro ho (And.intro (RdK.touch0 h tb) tb))
  clear ho tb
  go_enter Tryz.func141, Tryz.ntmps141
  have hnil := run_eql_slice_nil (P := Tryz.prog) w 25 33 (some ad) l.length c Tryz.underlying25
  go_wp2_with (at_builtin; refine stop ?_)
  refine go ?_
  refine wpList_appK (enc := slE) rfl (.tmp 5) (.tmp 6) 25 rfl 33 (.slice none 0 0) 1 24 info_r5 Tryz.underlying25 rfl (by omega) slE_length slE_one (some ⟨w.heap.size, 0, none⟩) 0 0 [] rfl rfl HO.out.1 (some ad) l.length c l rfl rfl HO.out.2.1 (by omega) (by omega) ?_
  intro A3 c3 w3 hown3 ht3 hf3
  have H3 := Lib.hid (And.intro hown3 (And.intro ht3 hf3))
  clear hown3 ht3 hf3
  go_wp2
  go_ret
  obtain ⟨hown3, ht3, hf3⟩ := H3.out
  refine ⟨A3, c3, by first | rfl | (simp; rfl) | simp, by simpa using hown3, HO.out.2.2.trans ht3 (fun b hb => by simp [fpo] at hb; subst hb; exact .inr (Nat.le_refl _)), fun b hb => ?_⟩
  rcases hf3 b hb with e | e
  ·simp [fpo] at e; omega
  ·rw [World.size_alloc] at e; omega
end Go.Proofs.YtafoklilkdnepaaGreatDoor

/- Trees of expressions, and how they lie in memory. No program's function. -/
namespace Go.Proofs.YtafoklilkdnepaaGreatDoor
open Go.RowKit

/-- an expression's own things -/
structure ND where
 kind : Int
 name : ByteArray
 v : VD
 op : ByteArray
/-- numbers within bounds, texts short -/
structure ND.Ok (d : ND) (m : Nat) : Prop where
 k : -9223372036854775808 ≤ d.kind ∧ d.kind ≤ 9223372036854775807
 n : d.name.size ≤ m
 v : d.v.Ok m
 o : d.op.size ≤ m
/-- expressions of so many levels at most -/
def TX : Nat → Type
 | 0 => PEmpty
 | n + 1 => ND × List (TX n)
/-- what an expression's cells hold -/
structure XC where
 nd : ND
 A : Option Addr
 n : Nat
 c : Nat
/-- as the program lays it -/
def xcE (x : XC) : List Value := [.int .i64 x.nd.kind, .string x.nd.name, .int .i64 x.nd.v.kind, .int .i64 x.nd.v.num, .string x.nd.v.text, .string x.nd.op, .slice x.A x.n x.c]
/-- as the document's answer lays it -/
def xcR (x : XC) : List Value := [.int .i64 x.nd.kind, .string x.nd.name, .string x.nd.op, .int .i64 x.nd.v.kind, .int .i64 x.nd.v.num, .string x.nd.v.text, .slice x.A x.n x.c]
theorem xcE_length (x : XC) : (xcE x).length = 7 := rfl
theorem xcR_length (x : XC) : (xcR x).length = 7 := rfl
theorem xcE_one (x : XC) : ∀ u ∈ xcE x, u.oneCell' = true := by
 intro u hu
 simp only [xcE, List.mem_cons, List.not_mem_nil, or_false] at hu
 rcases hu with rfl | rfl | rfl | rfl | rfl | rfl | rfl <;> rfl
theorem xcR_one (x : XC) : ∀ u ∈ xcR x, u.oneCell' = true := by
 intro u hu
 simp only [xcR, List.mem_cons, List.not_mem_nil, or_false] at hu
 rcases hu with rfl | rfl | rfl | rfl | rfl | rfl | rfl <;> rfl

/-- these cells, and what they lead to, are this tree; its blocks are such -/
def ExP (enc : XC → List Value) (p : Nat → Prop) : (n : Nat) → World → XC → TX n → Prop
 | 0, _, _, _ => False
 | n + 1, w, x, e => x.nd = e.1 ∧ x.n = e.2.length ∧ (∀ b ∈ fpo x.A, p b) ∧ ∃ xs : List XC, xs.length = e.2.length ∧ RdK enc w x.A xs ∧ ∀ i (h1 : i < xs.length) (h2 : i < e.2.length), ExP enc p n w xs[i] e.2[i]
def anyB : Nat → Prop := fun _ => True
theorem ExP.mono {enc : XC → List Value} {p q : Nat → Prop} (hpq : ∀ b, p b → q b) : ∀ {n : Nat} {w : World} {x : XC} {e : TX n}, ExP enc p n w x e → ExP enc q n w x e
 | 0, _, _, _, h => h.elim
 | _ + 1, _, _, _, ⟨h1, h2, h3, xs, h4, h5, h6⟩ => ⟨h1, h2, fun b hb => hpq b (h3 b hb), xs, h4, h5, fun i a b => ExP.mono hpq (h6 i a b)⟩
theorem ExP.any {enc : XC → List Value} {p : Nat → Prop} {n : Nat} {w : World} {x : XC} {e : TX n} (h : ExP enc p n w x e) : ExP enc anyB n w x e := h.mono fun _ _ => trivial
theorem ExP.touch {enc : XC → List Value} {p : Nat → Prop} {fp : List Nat} : ∀ {n : Nat} {w w' : World} {x : XC} {e : TX n}, ExP enc p n w x e → Touch fp w w' → (∀ b ∈ fp, ¬ p b) → ExP enc p n w' x e
 | 0, _, _, _, _, h, _, _ => h.elim
 | _ + 1, _, _, _, _, ⟨h1, h2, h3, xs, h4, h5, h6⟩, ht, hp => ⟨h1, h2, h3, xs, h4, RdK.touch h5 ht (fun b hb hm => hp b hm (h3 b hb)), fun i a b => ExP.touch (h6 i a b) ht hp⟩
theorem ExP.touch0 {enc : XC → List Value} {p : Nat → Prop} {n : Nat} {w w' : World} {x : XC} {e : TX n} (h : ExP enc p n w x e) (ht : Touch [] w w') : ExP enc p n w' x e := h.touch ht (by simp)
/-- the Args of an expression lie so -/
def ArgsP (enc : XC → List Value) (p : Nat → Prop) (n : Nat) (w : World) (A : Option Addr) (args : List (TX n)) : Prop :=
 ∃ xs : List XC, xs.length = args.length ∧ RdK enc w A xs ∧ ∀ i (h1 : i < xs.length) (h2 : i < args.length), ExP enc p n w xs[i] args[i]
theorem ArgsP.touch0 {enc : XC → List Value} {p : Nat → Prop} {n : Nat} {w w' : World} {A : Option Addr} {args : List (TX n)} (h : ArgsP enc p n w A args) (ht : Touch [] w w') : ArgsP enc p n w' A args := by
 obtain ⟨xs, h1, h2, h3⟩ := h
 exact ⟨xs, h1, RdK.touch0 h2 ht, fun i a b => (h3 i a b).touch0 ht⟩
theorem ArgsP.nil (enc : XC → List Value) (p : Nat → Prop) (n : Nat) (w : World) (A : Option Addr) : ArgsP enc p n w A [] := ⟨[], rfl, RdK.nil _ _ _, fun i h => absurd h (by simp)⟩
/-- the cells of one of the Args -/
theorem ArgsP.at_ {enc : XC → List Value} (hE : ∀ x, (enc x).length = 7) {p : Nat → Prop} {n : Nat} {w : World} {A : Option Addr} {args : List (TX n)} (h : ArgsP enc p n w A args) (i : Nat) (hi : i < args.length) :
  ∃ ad b off x, A = some ad ∧ ad.add (i * 7) = ⟨b, off, none⟩ ∧ ExP enc p n w x args[i] ∧ ∀ j u, (enc x)[j]? = some u → w.cell? ⟨b, off + j, none⟩ = some u := by
 obtain ⟨xs, h1, h2, h3⟩ := h
 obtain ⟨ad, b, off, e1, e2, _, e3⟩ := RdK.at_ h2 7 hE (by omega) i (by omega)
 exact ⟨ad, b, off, xs[i], e1, e2, h3 i (by omega) hi, e3⟩
theorem ExP.args {enc : XC → List Value} {p : Nat → Prop} {n : Nat} {w : World} {x : XC} {e : TX (n + 1)} (h : ExP enc p (n + 1) w x e) : x.nd = e.1 ∧ x.n = e.2.length ∧ ArgsP enc p n w x.A e.2 := ⟨h.1, h.2.1, h.2.2.2⟩

/-- a thing of each expression holds throughout -/
def allX (q : ND → Prop) : (n : Nat) → TX n → Prop
 | 0, _ => True
 | n + 1, e => q e.1 ∧ ∀ a ∈ e.2, allX q n a
/-- how many expressions -/
def sizeX : (n : Nat) → TX n → Nat
 | 0, _ => 0
 | n + 1, e => 1 + (e.2.map (sizeX n)).sum
/-- .. in a row -/
def sumX (n : Nat) (l : List (TX n)) : Nat := (l.map (sizeX n)).sum
theorem sumX_snoc (n : Nat) (l : List (TX n)) (k : Nat) (h : k < l.length) : sumX n (l.take (k + 1)) = sumX n (l.take k) + sizeX n l[k] := by
 unfold sumX
 rw [List.take_succ_eq_append_getElem h, List.map_append, List.sum_append]; simp
theorem sizeX_succ (n : Nat) (e : TX (n + 1)) : sizeX (n + 1) e = 1 + sumX n e.2 := rfl
theorem sizeX_pos : ∀ (n : Nat) (e : TX n), 1 ≤ sizeX n e
 | 0, e => e.elim
 | n + 1, e => by unfold sizeX; omega
theorem len_le_sum (n : Nat) (l : List (TX n)) : l.length ≤ sumX n l := by
 unfold sumX
 induction l with
 | nil => simp
 | cons a l ih => have := sizeX_pos n a; simp; omega
theorem sum_take_le (n : Nat) (l : List (TX n)) (k : Nat) : sumX n (l.take k) ≤ sumX n l := by
 unfold sumX
 induction l generalizing k with
 | nil => simp
 | cons a l ih => cases k with
  | zero => simp
  | succ k => have := ih k; rw [List.take_succ_cons, List.map_cons, List.map_cons, List.sum_cons, List.sum_cons]; omega
theorem size_mem {n : Nat} {l : List (TX n)} {a : TX n} (h : a ∈ l) : sizeX n a ≤ sumX n l := by
 unfold sumX
 induction l with
 | nil => cases h
 | cons b l ih =>
  rcases List.mem_cons.1 h with rfl | h
  ·simp
  ·have := ih h; simp; omega
/-- what is handed over -/
def XC.val (x : XC) : Value := .agg #[.int .i64 x.nd.kind, .string x.nd.name, .int .i64 x.nd.v.kind, .int .i64 x.nd.v.num, .string x.nd.v.text, .string x.nd.op, .slice x.A x.n x.c]
def XC.valR (x : XC) : Value := .agg #[.int .i64 x.nd.kind, .string x.nd.name, .string x.nd.op, .int .i64 x.nd.v.kind, .int .i64 x.nd.v.num, .string x.nd.v.text, .slice x.A x.n x.c]
/-- are both one? -/
def eqN (a b : ND) : Bool := decide (a.kind = b.kind) && (decide (a.name = b.name) && ((decide (a.v.kind = b.v.kind) && (decide (a.v.num = b.v.num) && decide (a.v.text = b.v.text))) && decide (a.op = b.op)))
def eqL {α : Type} (f : α → α → Bool) : List α → List α → Bool
 | [], [] => true
 | a :: r, b :: s => f a b && eqL f r s
 | _, _ => false
def eqX : (n : Nat) → TX n → TX n → Bool
 | 0, _, _ => true
 | n + 1, a, b => eqN a.1 b.1 && eqL (eqX n) a.2 b.2
theorem eqN_iff (a b : ND) : eqN a b = true ↔ a = b := by
 obtain ⟨ak, an, ⟨x1, x2, x3⟩, ao⟩ := a
 obtain ⟨bk, bn, ⟨y1, y2, y3⟩, bo⟩ := b
 simp [eqN]
theorem eqL_iff {α : Type} {f : α → α → Bool} (hf : ∀ a b, f a b = true ↔ a = b) : ∀ l r : List α, eqL f l r = true ↔ l = r
 | [], [] => by simp [eqL]
 | [], _ :: _ => by simp [eqL]
 | _ :: _, [] => by simp [eqL]
 | a :: l, b :: r => by simp [eqL, hf, eqL_iff hf l r]
theorem eqX_iff : ∀ (n : Nat) (a b : TX n), eqX n a b = true ↔ a = b
 | 0, a, _ => a.elim
 | n + 1, a, b => by
  obtain ⟨d, l⟩ := a
  obtain ⟨f, r⟩ := b
  show (eqN d f && eqL (eqX n) l r) = true ↔ _
  rw [Bool.and_eq_true, eqN_iff, eqL_iff (eqX_iff n)]
  constructor
  ·rintro ⟨rfl, rfl⟩; rfl
  ·intro h; cases h; exact ⟨rfl, rfl⟩
end Go.Proofs.YtafoklilkdnepaaGreatDoor

/- Plans, sources and tables: how they lie in memory. No program's function. -/
namespace Go.Proofs.YtafoklilkdnepaaGreatDoor
open Go.RowKit

theorem RdK.cells {α : Type} {enc : α → List Value} {w : World} {A : Option Addr} {xs : List α} (h : RdK enc w A xs) (k : Nat) (hk : ∀ x, (enc x).length = k) (h0 : 0 < k) (i : Nat) (hi : i < xs.length) :
  ∃ ad b off, A = some ad ∧ ad.add (i * k) = ⟨b, off, none⟩ ∧ ∀ j u, (enc xs[i])[j]? = some u → w.cell? ⟨b, off + j, none⟩ = some u := by
 obtain ⟨ad, b, off, e1, e2, _, e3⟩ := RdK.at_ h k hk h0 i hi
 exact ⟨ad, b, off, e1, e2, e3⟩
/-- a table's two slices lead to these columns and rows -/
structure TabAt (w : World) (s r : SL) (cs : List CD) (rows : List (List VD)) : Prop where
 n : s.n = cs.length
 le : s.n ≤ s.c
 cols : ColsAt w s.A cs
 m : r.n = rows.length
 rws : RowsAt w r.A rows
theorem TabAt.touch0 {w w' : World} {s r : SL} {cs : List CD} {rows : List (List VD)} (h : TabAt w s r cs rows) (ht : Touch [] w w') : TabAt w' s r cs rows := ⟨h.n, h.le, h.cols.touch0 ht, h.m, h.rws.touch0 ht⟩
/-- a source: a name, columns, rows -/
structure SrcD where
 name : ByteArray
 cs : List CD
 rows : List (List VD)
/-- what a source's cells hold -/
structure SrcC where
 name : ByteArray
 s : SL
 r : SL
def srE (x : SrcC) : List Value := [.string x.name, .slice x.s.A x.s.n x.s.c, .slice x.r.A x.r.n x.r.c]
theorem srE_length (x : SrcC) : (srE x).length = 3 := rfl
def SrcAt (w : World) (x : SrcC) (d : SrcD) : Prop := x.name = d.name ∧ TabAt w x.s x.r d.cs d.rows
/-- a slice's address leads to these sources -/
def SrcsAt (w : World) (I : Option Addr) (l : List SrcD) : Prop := ∃ xs : List SrcC, xs.length = l.length ∧ RdK srE w I xs ∧ ∀ i (h1 : i < xs.length) (h2 : i < l.length), SrcAt w xs[i] l[i]
theorem SrcsAt.touch0 {w w' : World} {I : Option Addr} {l : List SrcD} (h : SrcsAt w I l) (ht : Touch [] w w') : SrcsAt w' I l := by
 obtain ⟨xs, h1, h2, h3⟩ := h
 exact ⟨xs, h1, RdK.touch0 h2 ht, fun i a b => ⟨(h3 i a b).1, (h3 i a b).2.touch0 ht⟩⟩
theorem SrcsAt.at_ {w : World} {I : Option Addr} {l : List SrcD} (h : SrcsAt w I l) (i : Nat) (hi : i < l.length) :
  ∃ ad b off s r, I = some ad ∧ ad.add (i * 3) = ⟨b, off, none⟩ ∧ w.cell? ⟨b, off, none⟩ = some (.string l[i].name) ∧ w.cell? ⟨b, off + 1, none⟩ = some (.slice s.A s.n s.c) ∧ w.cell? ⟨b, off + 2, none⟩ = some (.slice r.A r.n r.c) ∧ TabAt w s r l[i].cs l[i].rows := by
 obtain ⟨xs, h1, h2, h3⟩ := h
 obtain ⟨ad, b, off, e1, e2, e3⟩ := RdK.cells h2 3 srE_length (by omega) i (by omega)
 have := h3 i (by omega) hi
 exact ⟨ad, b, off, xs[i].s, xs[i].r, e1, e2, by rw [← this.1]; exact e3 0 _ rfl, e3 1 _ rfl, e3 2 _ rfl, this.2⟩
/-- numbers and lengths within bounds -/
structure SrcD.Ok (d : SrcD) : Prop where
 cols : ∀ c ∈ d.cs, c.Ok
 n : d.cs.length ≤ 1000000
 rows : RowsOk d.rows
 m : d.rows.length ≤ 1000000
/-- the first source of a name -/
def srcI (l : List SrcD) (s : ByteArray) : Option Nat := l.findIdx? fun d => decide (d.name = s)
def srcN (l : List SrcD) (s : ByteArray) : Int := match srcI l s with | some k => (k : Int) | none => -1
theorem srcI_some {l : List SrcD} {s : ByteArray} {k : Nat} (h : k < l.length) (hk : l[k].name = s) (hno : ∀ j (hj : j < k), l[j].name ≠ s) : srcI l s = some k := by
 unfold srcI
 rw [List.findIdx?_eq_some_iff_getElem]
 exact ⟨h, by simpa using hk, fun j hj => by simpa using hno j hj⟩
theorem srcI_none {l : List SrcD} {s : ByteArray} (hno : ∀ j (hj : j < l.length), l[j].name ≠ s) : srcI l s = none := by
 unfold srcI
 rw [List.findIdx?_eq_none_iff]
 intro c hc
 obtain ⟨j, hj, rfl⟩ := List.mem_iff_getElem.1 hc
 simpa using hno j hj
theorem srcI_lt {l : List SrcD} {s : ByteArray} {k : Nat} (h : srcI l s = some k) : k < l.length := by
 unfold srcI at h
 rw [List.findIdx?_eq_some_iff_getElem] at h
 exact h.1

/-- names in a row -/
def btE (s : ByteArray) : List Value := [.string s]
theorem btE_length (s : ByteArray) : (btE s).length = 1 := rfl
theorem btE_one (s : ByteArray) : ∀ u ∈ btE s, u.oneCell' = true := by
 intro u hu
 simp only [btE, List.mem_cons, List.not_mem_nil, or_false] at hu
 subst hu; rfl
/-- pairs of names -/
def prE (p : ByteArray × ByteArray) : List Value := [.string p.1, .string p.2]
theorem prE_length (p : ByteArray × ByteArray) : (prE p).length = 2 := rfl
/-- what is reckoned of a group -/
structure AG where
 op : ByteArray
 col : ByteArray
 name : ByteArray
def agE (a : AG) : List Value := [.string a.op, .string a.col, .string a.name]
theorem agE_length (a : AG) : (agE a).length = 3 := rfl
/-- columns to go by -/
def odE (p : ByteArray × Bool) : List Value := [.string p.1, .bool p.2]
theorem odE_length (p : ByteArray × Bool) : (odE p).length = 2 := rfl
/-- what a plan's cells hold -/
structure PC where
 kind : Int
 name : ByteArray
 args : SL
 cond : XC
 names : SL
 exprs : SL
 on : SL
 aggs : SL
 by_ : SL
 count : Int
abbrev slOf (s : SL) : Value := .slice s.A s.n s.c
def pcE (x : PC) : List Value := [.int .i64 x.kind, .string x.name, .slice x.args.A x.args.n x.args.c, .int .i64 x.cond.nd.kind, .string x.cond.nd.name, .int .i64 x.cond.nd.v.kind, .int .i64 x.cond.nd.v.num, .string x.cond.nd.v.text, .string x.cond.nd.op, .slice x.cond.A x.cond.n x.cond.c,
 .slice x.names.A x.names.n x.names.c, .slice x.exprs.A x.exprs.n x.exprs.c, .slice x.on.A x.on.n x.on.c, .slice x.aggs.A x.aggs.n x.aggs.c, .slice x.by_.A x.by_.n x.by_.c, .int .i64 x.count]
theorem pcE_length (x : PC) : (pcE x).length = 16 := rfl
theorem pcE_one (x : PC) : ∀ u ∈ pcE x, u.oneCell' = true := by
 intro u hu
 simp only [pcE, List.mem_cons, List.not_mem_nil, or_false] at hu
 rcases hu with rfl | rfl | rfl | rfl | rfl | rfl | rfl | rfl | rfl | rfl | rfl | rfl | rfl | rfl | rfl | rfl <;> rfl
def PC.val (x : PC) : Value := .agg #[.int .i64 x.kind, .string x.name, .slice x.args.A x.args.n x.args.c, .int .i64 x.cond.nd.kind, .string x.cond.nd.name, .int .i64 x.cond.nd.v.kind, .int .i64 x.cond.nd.v.num, .string x.cond.nd.v.text, .string x.cond.nd.op, .slice x.cond.A x.cond.n x.cond.c,
 .slice x.names.A x.names.n x.names.c, .slice x.exprs.A x.exprs.n x.exprs.c, .slice x.on.A x.on.n x.on.c, .slice x.aggs.A x.aggs.n x.aggs.c, .slice x.by_.A x.by_.n x.by_.c, .int .i64 x.count]
/-- a plan's own things, without its Args -/
structure PD (m : Nat) where
 kind : Int
 name : ByteArray
 cond : TX m
 names : List ByteArray
 exprs : List (TX m)
 on : List (ByteArray × ByteArray)
 aggs : List AG
 by_ : List (ByteArray × Bool)
 count : Int
/-- a plan's cells lead to these -/
structure PlanAt {m : Nat} (w : World) (x : PC) (d : PD m) : Prop where
 kind : x.kind = d.kind
 name : x.name = d.name
 cond : ExP xcE anyB m w x.cond d.cond
 nn : x.names.n = d.names.length
 names : RdK btE w x.names.A d.names
 en : x.exprs.n = d.exprs.length
 exprs : ArgsP xcE anyB m w x.exprs.A d.exprs
 on' : x.on.n = d.on.length
 on : RdK prE w x.on.A d.on
 an : x.aggs.n = d.aggs.length
 aggs : RdK agE w x.aggs.A d.aggs
 bn : x.by_.n = d.by_.length
 by_ : RdK odE w x.by_.A d.by_
 count : x.count = d.count
theorem PlanAt.touch0 {m : Nat} {w w' : World} {x : PC} {d : PD m} (h : PlanAt w x d) (ht : Touch [] w w') : PlanAt w' x d :=
 ⟨h.kind, h.name, h.cond.touch0 ht, h.nn, h.names.touch0 ht, h.en, h.exprs.touch0 ht, h.on', h.on.touch0 ht, h.an, h.aggs.touch0 ht, h.bn, h.by_.touch0 ht, h.count⟩
end Go.Proofs.YtafoklilkdnepaaGreatDoor

/- How calls end whose first result lies in a block of its own; blocks of a few cells set anew. No program's function. -/
namespace Go.Proofs.YtafoklilkdnepaaGreatDoor
open Go.RowKit

theorem free_blk {w : World} {g : Nat} {cs : Array Value} {t : TypeId} (h : w.heap[g]? = some (.cells cs t (0, 0))) (i : Nat) : w.frozen? ⟨g, i, none⟩ = false := by
 simp [World.frozen?, h]
theorem results_cell_two {P : Program} {fn : Func} {p u : Tmp} {ty : TypeId} (h : fn.results = #[.cell p ty, .tmp u]) (tmps : Array Value) (w : World) (g : Nat) (t : TypeId) (cs : Array Value) (fr : Nat × Nat) (d : TypeDesc)
  (hp : tmps.getD p undef = .pointer (some ⟨g, 0, none⟩)) (hg : w.heap[g]? = some (.cells cs t fr))
  (hu : P.underlying ty = some d) (hd : (match d with | .struct _ | .array _ _ => true | _ => false) = true) (hi : (P.info? ty).map (·.size) = some cs.size) :
  (results fn tmps).run P w = .ok (.tuple #[.agg cs, tmps.getD u undef]) w := by
 have hp' : tmps[p]?.getD undef = .pointer (some ⟨g, 0, none⟩) := by simpa using hp
 simp [results, h, hp', asAddr, run_loadVar_row w g t ty cs fr d hg hu hd hi]
theorem set2 {w : World} {g : Nat} {cs : Array Value} {t : TypeId} (h : w.heap[g]? = some (.cells cs t (0, 0))) (hs : cs.size = 2) (a b : Value) :
  ((w.setCell ⟨g, 0, none⟩ a).setCell ⟨g, 1, none⟩ b).heap[g]? = some (.cells #[a, b] t (0, 0)) := by
 rw [set_blk (set_blk h 0 a) 1 b]
 obtain ⟨l⟩ := cs
 match l, hs with
 | [x0, x1], _ => rfl
theorem set3 {w : World} {g : Nat} {cs : Array Value} {t : TypeId} (h : w.heap[g]? = some (.cells cs t (0, 0))) (hs : cs.size = 3) (a b c : Value) :
  (((w.setCell ⟨g, 0, none⟩ a).setCell ⟨g, 1, none⟩ b).setCell ⟨g, 2, none⟩ c).heap[g]? = some (.cells #[a, b, c] t (0, 0)) := by
 rw [set_blk (set_blk (set_blk h 0 a) 1 b) 2 c]
 obtain ⟨l⟩ := cs
 match l, hs with
 | [x0, x1, x2], _ => rfl
theorem touch2 (w : World) (g : Nat) (a b : Value) : Touch [g] w ((w.setCell ⟨g, 0, none⟩ a).setCell ⟨g, 1, none⟩ b) :=
 ((Touch.refl [g] w).setCell (p := ⟨g, 0, none⟩) (.inl (by simp)) a).setCell (p := ⟨g, 1, none⟩) (.inl (by simp)) b
theorem touch3 (w : World) (g : Nat) (a b c : Value) : Touch [g] w (((w.setCell ⟨g, 0, none⟩ a).setCell ⟨g, 1, none⟩ b).setCell ⟨g, 2, none⟩ c) :=
 (touch2 w g a b).setCell (p := ⟨g, 2, none⟩) (.inl (by simp)) c
theorem blk2 {w : World} {g : Nat} {a b : Value} {t : TypeId} (h : w.heap[g]? = some (.cells #[a, b] t (0, 0))) : w.cell? ⟨g, 0, none⟩ = some a ∧ w.cell? ⟨g, 1, none⟩ = some b ∧ w.frozen? ⟨g, 0, none⟩ = false ∧ w.frozen? ⟨g, 1, none⟩ = false :=
 ⟨cell_blk h rfl, cell_blk h rfl, free_blk h 0, free_blk h 1⟩
theorem blk3 {w : World} {g : Nat} {a b c : Value} {t : TypeId} (h : w.heap[g]? = some (.cells #[a, b, c] t (0, 0))) : w.cell? ⟨g, 0, none⟩ = some a ∧ w.cell? ⟨g, 1, none⟩ = some b ∧ w.cell? ⟨g, 2, none⟩ = some c ∧ w.frozen? ⟨g, 0, none⟩ = false ∧ w.frozen? ⟨g, 1, none⟩ = false ∧ w.frozen? ⟨g, 2, none⟩ = false :=
 ⟨cell_blk h rfl, cell_blk h rfl, cell_blk h rfl, free_blk h 0, free_blk h 1, free_blk h 2⟩
theorem blk16 {w : World} {g : Nat} {v0 v1 v2 v3 v4 v5 v6 v7 v8 v9 v10 v11 v12 v13 v14 v15 : Value} {t : TypeId} (h : w.heap[g]? = some (.cells #[v0, v1, v2, v3, v4, v5, v6, v7, v8, v9, v10, v11, v12, v13, v14, v15] t (0, 0))) : w.cell? ⟨g, 0, none⟩ = some v0 ∧ w.cell? ⟨g, 1, none⟩ = some v1 ∧ w.cell? ⟨g, 2, none⟩ = some v2 ∧ w.cell? ⟨g, 3, none⟩ = some v3 ∧ w.cell? ⟨g, 4, none⟩ = some v4 ∧ w.cell? ⟨g, 5, none⟩ = some v5 ∧ w.cell? ⟨g, 6, none⟩ = some v6 ∧ w.cell? ⟨g, 7, none⟩ = some v7 ∧ w.cell? ⟨g, 8, none⟩ = some v8 ∧ w.cell? ⟨g, 9, none⟩ = some v9 ∧ w.cell? ⟨g, 10, none⟩ = some v10 ∧ w.cell? ⟨g, 11, none⟩ = some v11 ∧ w.cell? ⟨g, 12, none⟩ = some v12 ∧ w.cell? ⟨g, 13, none⟩ = some v13 ∧ w.cell? ⟨g, 14, none⟩ = some v14 ∧ w.cell? ⟨g, 15, none⟩ = some v15 :=
 ⟨cell_blk h rfl, cell_blk h rfl, cell_blk h rfl, cell_blk h rfl, cell_blk h rfl, cell_blk h rfl, cell_blk h rfl, cell_blk h rfl, cell_blk h rfl, cell_blk h rfl, cell_blk h rfl, cell_blk h rfl, cell_blk h rfl, cell_blk h rfl, cell_blk h rfl, cell_blk h rfl⟩
end Go.Proofs.YtafoklilkdnepaaGreatDoor
