/- Part 8 of the texts of this proof, one behind the other; each begins with its own sentence. No condition beyond those that its theorems state. -/
import Derived.Test.YtafoklilkdnepaaGreatDoorRu7
import Derived.Deep.RegionHeld3
/- relop.source: the table of a name. For every sources. -/
namespace Go.Proofs.YtafoklilkdnepaaGreatDoor
open Go.RowKit

set_option maxHeartbeats 400000 in
theorem src1_any (nm : ByteArray) (s1 r1 : SL) (B : Nat) (s : ByteArray) (w : World) (hB : w.cell? ⟨B, 0, none⟩ = some (.string s)) :
  Calls Tryz.prog 87 #[.agg #[.string nm, .slice s1.A s1.n s1.c, .slice r1.A r1.n r1.c], .pointer (some ⟨B, 0, none⟩)] w fun e w' => e = .returned (.bool (decide (nm = s))) ∧ Touch [] w w' := by
 have hbq := bs_beq nm s
 have t0 := (Touch.refl [] w).alloc (.cells #[.string nm, .slice s1.A s1.n s1.c, .slice r1.A r1.n r1.c] 36)
 have hlt : B < w.heap.size := World.block_lt_of_cell? w _ hB
 go_enter Tryz.func87, Tryz.ntmps87
 go_wp2
 all_goals
  go_ret
  exact ⟨rfl, t0⟩

set_option maxRecDepth 20000 in
set_option maxHeartbeats 1600000 in
theorem idxSrc_any (I : Option Addr) (cap n : Nat) (l : List SrcD) (hn : l.length = n) (B : Nat) (s : ByteArray) (w : World) (h : SrcsAt w I l) (hB : w.cell? ⟨B, 0, none⟩ = some (.string s)) (hl : n ≤ 140737000000000) :
  Calls Tryz.prog 86 #[.slice I n cap, .func (.func 87) #[] #[.pointer (some ⟨B, 0, none⟩)]] w fun e w' =>
   e = .returned (.int .i64 (srcN l s)) ∧ Touch [] w w' := by
 subst hn
 go_enter Tryz.func86, Tryz.ntmps86
 go_wp2
 go_loopw [8] (fun i wr => ∃ k : Nat, k ≤ l.length ∧ i = .int .i64 k ∧ Hid (∀ j (hj : j < k) (hl : j < l.length), l[j].name ≠ s) ∧ Touch [] w wr) (fun i _ => l.length - (intOf i).toNat)
 case atStart => exact ⟨0, by omega, rfl, Lib.hid (fun j hj => absurd hj (by omega)), Touch.refl _ _⟩
 case round =>
  obtain ⟨k, hk, rfl, Hno, ht⟩ := hrel
  by_cases hlt : k < l.length
  ·obtain ⟨ad, b, off, s1, r1, rfl, hadd, c0, c1, c2, _⟩ := (h.touch0 ht).at_ k hlt
   have hyes := srcI_some (s := s) hlt
   obtain ⟨c, hce⟩ : ∃ c, c = l[k] := ⟨_, rfl⟩
   rw [← hce] at c0 hyes
   have Hce := Lib.hid hce; have Hyes := Lib.hid hyes
   clear hce hyes
   have hf := src1_any c.name s1 r1 B s wr (ht.cell hB (by simp))
   by_cases hcs : c.name = s
   ·rw [decide_eq_true hcs] at hf
    have Hf := Lib.hid hf
    have Hp := Lib.hid (Hyes.out hcs (fun j hj => Hno.out j hj (by omega)))
    clear hf hcs
    go_wp2_with (go_at_call 87; refine Hf.out.mono ?_; rintro e w1 ⟨rfl, t1⟩)
    go_ret
    exact ⟨ret_int (by unfold srcN; rw [Hp.out]), ht.trans0 t1⟩
   ·rw [decide_eq_false hcs] at hf
    have Hf := Lib.hid hf
    have Hcs := Lib.hid hcs
    clear hf hcs
    go_wp2_with (go_at_call 87; refine Hf.out.mono ?_; rintro e w1 ⟨rfl, t1⟩)
    go_roundw
    case rel => exact ⟨k + 1, by omega, by go_num, Lib.hid (fun j hj hl => by
     by_cases hjk : j = k
     ·subst hjk; rw [← Hce.out]; exact Hcs.out
     ·exact Hno.out j (by omega) hl), ht.trans0 t1⟩
    case measure => simp [intOf]; omega
  ·obtain rfl : k = l.length := by omega
   have Hp := Lib.hid (srcI_none (l := l) (s := s) (fun j hj => Hno.out j hj hj))
   go_wp2
   go_ret
   exact ⟨ret_int (by unfold srcN; rw [Hp.out]), ht⟩

set_option maxRecDepth 20000 in
set_option maxHeartbeats 1600000 in
theorem source_no (I : Option Addr) (cap n : Nat) (l : List SrcD) (hn : l.length = n) (s : ByteArray) (w : World) (h : SrcsAt w I l) (hl : n ≤ 140737000000000) (hp : srcI l s = none) :
  Calls Tryz.prog 62 #[.slice I n cap, .string s] w fun e w' => e = .returned (.tuple #[.agg #[.slice none 0 0, .slice none 0 0], .bool false]) ∧ Touch [] w w' := by
 have t0 := ((Touch.refl [] w).alloc (.cells #[.string s] 9)).alloc (.cells #[.slice none 0 0, .slice none 0 0] 27)
 have hb := (((Touch.refl [] (w.alloc (.cells #[.string s] 9))).alloc (.cells #[.slice none 0 0, .slice none 0 0] 27)).blk (heap_alloc_new w (.cells #[.string s] 9)) (by simp))
 have hr := heap_alloc_new (w.alloc (.cells #[.string s] 9)) (.cells #[.slice none 0 0, .slice none 0 0] 27)
 rw [World.size_alloc] at hr
 have hi := idxSrc_any I cap n l hn w.heap.size s _ (h.touch0 t0) (cell_blk hb (i := 0) rfl) hl
 rw [show srcN l s = -1 by unfold srcN; rw [hp]] at hi
 have Hi := Lib.hid hi
 have HR := Lib.hid (And.intro t0 hr)
 clear hi hp hb hr t0
 go_enter Tryz.func62, Tryz.ntmps62
 go_wp2_with fail
 refine Hi.out.mono ?_
 rintro e w1 ⟨rfl, t1⟩
 have hr1 := t1.blk HR.out.2 (by simp)
 obtain ⟨z0, z1, y0, y1⟩ := blk2 hr1
 have HT := Lib.hid (And.intro (HR.out.1.trans0 t1) hr1)
 clear hr1 t1
 go_wp2_with fail
 refine bodyPost_ret (results_cell_two rfl _ _ (w.heap.size + 1) _ _ _ _ rfl (set2 HT.out.2 rfl _ _) Tryz.underlying27 rfl rfl) rfl ⟨rfl, HT.out.1.trans (touch2 _ _ _ _) (fun b hb => .inr (by simp at hb; omega))⟩

set_option maxRecDepth 20000 in
set_option maxHeartbeats 1600000 in
theorem source_yes (I : Option Addr) (cap n : Nat) (l : List SrcD) (hn : l.length = n) (s : ByteArray) (w : World) (h : SrcsAt w I l) (hl : n ≤ 140737000000000) (k : Nat) (hk : k < l.length) (hp : srcI l s = some k) :
  Calls Tryz.prog 62 #[.slice I n cap, .string s] w fun e w' => ∃ s1 r1 : SL, e = .returned (.tuple #[.agg #[.slice s1.A s1.n s1.c, .slice r1.A r1.n r1.c], .bool true]) ∧ TabAt w' s1 r1 l[k].cs l[k].rows ∧ Touch [] w w' := by
 have t0 := ((Touch.refl [] w).alloc (.cells #[.string s] 9)).alloc (.cells #[.slice none 0 0, .slice none 0 0] 27)
 have hb := (((Touch.refl [] (w.alloc (.cells #[.string s] 9))).alloc (.cells #[.slice none 0 0, .slice none 0 0] 27)).blk (heap_alloc_new w (.cells #[.string s] 9)) (by simp))
 have hr := heap_alloc_new (w.alloc (.cells #[.string s] 9)) (.cells #[.slice none 0 0, .slice none 0 0] 27)
 rw [World.size_alloc] at hr
 have hi := idxSrc_any I cap n l hn w.heap.size s _ (h.touch0 t0) (cell_blk hb (i := 0) rfl) hl
 rw [show srcN l s = (k : Int) by unfold srcN; rw [hp]] at hi
 obtain ⟨ad, b, off, s1, r1, rfl, hadd, c0, c1, c2, hT⟩ := h.at_ k hk
 have hkn : (k : Int) < (n : Int) := by omega
 have hk0 : ((k : Int) < 0) = False := by simp
 have Hi := Lib.hid hi
 have HR := Lib.hid (And.intro t0 (And.intro hr (And.intro hT (And.intro c1 c2))))
 clear hi hp hb hr t0 hT c0 c1 c2
 go_enter Tryz.func62, Tryz.ntmps62
 go_wp2_with fail
 refine Hi.out.mono ?_
 rintro e w1 ⟨rfl, t1⟩
 have hr1 := t1.blk HR.out.2.1 (by simp)
 obtain ⟨z0, z1, y0, y1⟩ := blk2 hr1
 have T1 := HR.out.1.trans0 t1
 have d1 := T1.cell HR.out.2.2.2.1 (by simp)
 have d2 := T1.cell HR.out.2.2.2.2 (by simp)
 have HT := Lib.hid (And.intro T1 hr1)
 clear hr1 t1 T1
 go_wp2_with fail
 refine bodyPost_ret (results_cell_two rfl _ _ (w.heap.size + 1) _ _ _ _ rfl (set2 HT.out.2 rfl _ _) Tryz.underlying27 rfl rfl) rfl ⟨s1, r1, rfl, ?_, ?_⟩
 ·exact HR.out.2.2.1.touch0 (HT.out.1.trans (touch2 _ _ _ _) (fun b hb => .inr (by simp at hb; omega)))
 ·exact HT.out.1.trans (touch2 _ _ _ _) (fun b hb => .inr (by simp at hb; omega))
end Go.Proofs.YtafoklilkdnepaaGreatDoor

/- table.copied, table.Table.Copy, table.Make: tables in new memory. For every rows. -/
namespace Go.Proofs.YtafoklilkdnepaaGreatDoor
open Go.RowKit

theorem lt_of_block {w : World} {g : Nat} {o : Obj} (h : w.heap[g]? = some o) : g < w.heap.size := (Array.getElem?_eq_some_iff.1 h).1
/-- rows that are not too long -/
def RowsLe (rows : List (List VD)) : Prop := ∀ r ∈ rows, r.length ≤ 1000000

set_option maxRecDepth 20000 in
set_option maxHeartbeats 3200000 in
theorem copied_any (A : Option Addr) (c n : Nat) (rows : List (List VD)) (hn : rows.length = n) (hl : n ≤ 1000000) (hr : RowsLe rows) (w : World) (h : RowsAt w A rows) :
  Calls Tryz.prog 88 #[.slice A n c] w fun e w' => ∃ B c', e = .returned (.slice B n c') ∧ OwnR 33 w.heap.size w' B c' rows ∧ Touch [] w w' ∧ ∀ b ∈ fpo B, w.heap.size ≤ b := by
 subst hn
 have HR := Lib.hid h
 clear h
 go_enter Tryz.func88, Tryz.ntmps88
 go_wp2_with fail
 go_loopw [3, 8] (fun o i wr => ∃ (k : Nat) (B : Option Addr) (c2 : Nat), k ≤ rows.length ∧ i = .int .i64 k ∧ o = .slice B k c2 ∧ Hid (OwnR 33 w.heap.size wr B c2 (rows.take k)) ∧ Hid (Touch [] w wr) ∧ Hid (∀ b ∈ fpo B, w.heap.size ≤ b)) (fun _ i _ => rows.length - (intOf i).toNat)
 case atStart => exact ⟨0, none, 0, by omega, rfl, rfl, Lib.hid (OwnR.nil _ _ _), Lib.hid (Touch.refl _ _), Lib.hid (by simp [fpo])⟩
 case round =>
  obtain ⟨k, B, c2, hk, rfl, rfl, HO, HT, HF⟩ := hrel
  by_cases hlt : k < rows.length
  ·obtain ⟨bd, A1, c1, rfl, e0, hr1⟩ := (HR.out.touch0 HT.out).at_ k hlt
   have hl1 := hr _ (List.getElem_mem hlt)
   have htk := List.take_succ_eq_append_getElem hlt
   obtain ⟨r, hre⟩ : ∃ r, r = rows[k] := ⟨_, rfl⟩
   rw [← hre] at e0 hr1 hl1 htk
   have Hc := Lib.hid (cloneV_any A1 c1 r.length r rfl hl1 wr hr1)
   have Htk := Lib.hid htk
   have hkn : (k : Int) < (rows.length : Int) := by omega
   clear hre htk hr1
   go_wp2_with fail
   refine Hc.out.mono ?_
   rintro e w1 ⟨A2, c3, rfl, hm⟩
   have HM := Lib.hid hm
   clear hm Hc
   go_wp2_with (at_builtin; refine stop ?_)
   refine go ?_
   have hB := HO.out.lt
   have hsz := HM.out.t.size
   refine wpList_appR rfl (.tmp 12) (.tmp 15) 25 rfl 33 info_r5 Tryz.underlying25 w.heap.size B k c2 (rows.take k) (by rw [List.length_take]; omega) rfl (HO.out.touch0 HM.out.t) A2 c3 r HM.out.own.rd
    (fun b hb => ⟨fun q => by have := hB b q; have := HM.out.f b hb; omega, HM.out.own.lt b hb, by have := HM.out.f b hb; have := HT.out.size; omega⟩) 1 rfl (by omega) rfl ?_
   intro B' c' w' hown ht hf
   have HX := Lib.hid (And.intro hown (And.intro ht hf))
   clear hown ht hf
   go_wp2_with fail
   go_roundw
   case rel =>
    obtain ⟨hown, ht, hf⟩ := HX.out
    refine ⟨k + 1, B', c', by omega, by go_num, rfl, Lib.hid (by rw [Htk.out]; exact hown), Lib.hid (((HT.out.trans0 HM.out.t).alloc _).trans ht (fun b hb => .inr (HF.out b hb))), Lib.hid (fun b hb => ?_)⟩
    rcases hf b hb with q | q
    ·exact HF.out b q
    ·have := HT.out.size; omega
   case measure => simp [intOf]; omega
  ·obtain rfl : k = rows.length := by omega
   have HO2 : Hid (OwnR 33 w.heap.size wr B c2 rows) := Lib.hid (by have := HO.out; rwa [List.take_length] at this)
   clear HO
   go_wp2
   go_ret
   exact ⟨B, c2, rfl, HO2.out, HT.out, HF.out⟩

/-- a table of the calls' own: what is new behind base -/
structure NewTab (base : Nat) (w : World) (s r : SL) (cs : List CD) (rows : List (List VD)) : Prop where
 n : s.n = cs.length
 le : s.n ≤ s.c
 cols : ColsAt w s.A cs
 cf : ∀ b ∈ fpo s.A, base ≤ b ∧ b < w.heap.size
 m : r.n = rows.length
 rws : OwnR 33 base w r.A r.c rows
 rf : ∀ b ∈ fpo r.A, base ≤ b
 apart : ∀ b ∈ fpo s.A, b ∉ fpo r.A
theorem NewTab.tab {base : Nat} {w : World} {s r : SL} {cs : List CD} {rows : List (List VD)} (h : NewTab base w s r cs rows) : TabAt w s r cs rows := ⟨h.n, h.le, h.cols, h.m, h.rws.rowsAt⟩
theorem NewTab.touch0 {base : Nat} {w w' : World} {s r : SL} {cs : List CD} {rows : List (List VD)} (h : NewTab base w s r cs rows) (ht : Touch [] w w') : NewTab base w' s r cs rows :=
 ⟨h.n, h.le, h.cols.touch0 ht, fun b hb => ⟨(h.cf b hb).1, Nat.lt_of_lt_of_le (h.cf b hb).2 ht.size⟩, h.m, h.rws.touch0 ht, h.rf, h.apart⟩
theorem OwnR.base {t base base' : Nat} {w : World} {B : Option Addr} {c : Nat} {rows : List (List VD)} (h : OwnR t base w B c rows) (hb : base' ≤ base) : OwnR t base' w B c rows := by
 obtain ⟨sl, h1, h2, h3⟩ := h
 exact ⟨sl, h1, h2, fun s hs b q => ⟨(h3 s hs b q).1, (h3 s hs b q).2.1, Nat.le_trans hb (h3 s hs b q).2.2⟩⟩
theorem NewTab.base {base base' : Nat} {w : World} {s r : SL} {cs : List CD} {rows : List (List VD)} (h : NewTab base w s r cs rows) (hb : base' ≤ base) : NewTab base' w s r cs rows :=
 ⟨h.n, h.le, h.cols, fun b q => ⟨Nat.le_trans hb (h.cf b q).1, (h.cf b q).2⟩, h.m, h.rws.base hb, fun b q => Nat.le_trans hb (h.rf b q), h.apart⟩

set_option maxRecDepth 20000 in
set_option maxHeartbeats 3200000 in
/-- table.Table.Copy -/
theorem copy_any (s r : SL) (cs : List CD) (rows : List (List VD)) (hn : cs.length ≤ 1000000) (hl : rows.length ≤ 1000000) (hr : RowsLe rows) (w : World) (h : TabAt w s r cs rows) :
  Calls Tryz.prog 63 #[.agg #[.slice s.A s.n s.c, .slice r.A r.n r.c]] w fun e w' => ∃ s' r' : SL, e = .returned (.agg #[.slice s'.A s'.n s'.c, .slice r'.A r'.n r'.c]) ∧ NewTab w.heap.size w' s' r' cs rows ∧ Touch [] w w' := by
 obtain ⟨SA, sn, sc⟩ := s
 obtain ⟨RA, rn, rc⟩ := r
 obtain ⟨h1, h2, h3, h4, h5⟩ := h
 dsimp only at *
 obtain ⟨W, hW⟩ : ∃ W, W = ((w.alloc (.cells #[.slice SA sn sc, .slice RA rn rc] 27)).alloc (.cells #[.slice none 0 0, .slice none 0 0] 27)) := ⟨_, rfl⟩
 have t0 : Touch [] w W := hW ▸ ((Touch.refl [] w).alloc (.cells #[.slice SA sn sc, .slice RA rn rc] 27)).alloc (.cells #[.slice none 0 0, .slice none 0 0] 27)
 have hp0 : W.heap[w.heap.size]? = some (.cells #[.slice SA sn sc, .slice RA rn rc] 27 (0, 0)) := hW ▸ ((Touch.refl [] (w.alloc (.cells #[.slice SA sn sc, .slice RA rn rc] 27))).alloc (.cells #[.slice none 0 0, .slice none 0 0] 27)).blk (heap_alloc_new w _) (by simp)
 have hr0 : W.heap[w.heap.size + 1]? = some (.cells #[.slice none 0 0, .slice none 0 0] 27 (0, 0)) := by
  have := heap_alloc_new (w.alloc (.cells #[.slice SA sn sc, .slice RA rn rc] 27)) (.cells #[.slice none 0 0, .slice none 0 0] 27)
  rw [World.size_alloc] at this
  rw [hW]; exact this
 have HW := Lib.hid hW
 have Hc1 := Lib.hid fun w' (t : Touch [] W w') => cloneC_any SA sc sn cs h1.symm (by omega) w' (h3.touch0 (t0.trans0 t))
 have Hc2 := Lib.hid fun w' (t : Touch [] W w') => copied_any RA rc rn rows h4.symm (by omega) hr w' (h5.touch0 (t0.trans0 t))
 obtain ⟨c0, c1, _, _⟩ := blk2 hp0
 have c0d := ((Touch.refl [] W).drew).cell c0 (by simp)
 have c1d := ((Touch.refl [] W).drew).cell c1 (by simp)
 have H0 := Lib.hid (And.intro t0 (And.intro hr0 (And.intro c0 c1)))
 have Hn := Lib.hid (And.intro h1 (And.intro h2 h4))
 clear hW h3 h5 t0 hr0 h1 h2 h4 hn hl hp0 c0 c1
 go_enter Tryz.func63, Tryz.ntmps63
 go_wp2_with fail
 rw [← HW.out]
 go_region_held3 (fun w' => w'.cell? ⟨w.heap.size, 0, none⟩ = some (.slice SA sn sc) ∧ w'.cell? ⟨w.heap.size, 1, none⟩ = some (.slice RA rn rc)) (first | exact ⟨c0d, c1d⟩ | exact ⟨d0, d1⟩ | exact ⟨f0, f1⟩ | exact ⟨(touch2 _ _ _ _).cell f0 (by simp), (touch2 _ _ _ _).cell f1 (by simp)⟩) (first
  | (go_at_call 67; refine (Hc1.out _ (Touch.refl _ _).drew).mono ?_; rintro e w1 ⟨A1, k1, rfl, m1⟩; have M1 := Lib.hid m1; have d0 := M1.out.t.cell c0d (by simp); have d1 := M1.out.t.cell c1d (by simp); clear m1)
  | (go_at_call 88; refine (Hc2.out _ ((Touch.refl _ _).drew.trans0 M1.out.t)).mono ?_; rintro e w2 ⟨B2, k2, rfl, o2, t2, f2⟩; have M2 := Lib.hid (And.intro o2 (And.intro t2 f2)); have f0 := t2.cell d0 (by simp); have f1 := t2.cell d1 (by simp); have hr2 := t2.blk (M1.out.t.blk ((Touch.refl [] W).drew.blk H0.out.2.1 (by simp)) (by simp)) (by simp); obtain ⟨z0, z1, y0, y1⟩ := blk2 hr2; clear o2 t2 f2))
 go_wp2_with fail
 obtain ⟨o2, t2, f2⟩ := M2.out
 obtain ⟨ht0, hr0, _, _⟩ := H0.out
 obtain ⟨h1, h2, h4⟩ := Hn.out
 have hWs : W.heap.size = w.heap.size + 2 := by rw [HW.out]; simp
 have hd := (Touch.refl [] W).drew
 have s1 := M1.out.t.size
 have s2 := t2.size
 have s0 := hd.size
 have hr2 := t2.blk (M1.out.t.blk (hd.blk hr0 (by simp)) (by simp)) (by simp)
 have tq := touch2 w2 (w.heap.size + 1) (.slice A1 sn k1) (.slice B2 rn k2)
 have s3 := tq.size
 have hle := M1.out.own.le
 refine bodyPost_ret (results_cell_row rfl _ _ (w.heap.size + 1) _ _ _ _ rfl (set2 hr2 rfl _ _) Tryz.underlying27 rfl rfl) rfl ⟨⟨A1, sn, k1⟩, ⟨B2, rn, k2⟩, rfl, ⟨h1, by dsimp only; omega, RdK.touch (RdK.touch0 M1.out.own.rd t2) tq (fun b hb hm => ?_), fun b hb => ⟨?_, ?_⟩, h4, ?_, fun b hb => ?_, fun b hb hm => ?_⟩, ?_⟩
 ·have := M1.out.f b hb; simp at hm; omega
 ·have := M1.out.f b hb; omega
 ·have := M1.out.own.lt b hb; omega
 ·exact (o2.touch tq (fun b hb => by simp at hb; omega) (fun b hb => f2 b hb)).base (by omega)
 ·have := f2 b hb; omega
 ·have := M1.out.own.lt b hb; have := f2 b hm; omega
 ·exact (((ht0.trans0 hd).trans0 M1.out.t).trans0 t2).trans tq (fun b hb => .inr (by simp at hb; omega))

set_option maxRecDepth 20000 in
set_option maxHeartbeats 3200000 in
/-- table.Make of what does not fit -/
theorem make_no (SA : Option Addr) (cap n : Nat) (cs : List CD) (hn : cs.length = n) (hok : ∀ c ∈ cs, c.Ok) (A : Option Addr) (c m : Nat) (rows : List (List VD)) (hm : rows.length = m) (hvk : RowsOk rows) (w : World)
  (h : ColsAt w SA cs) (hv : RowsAt w A rows) (hl : n ≤ 140737000000000) (hl2 : m ≤ 140737000000000) (he : fitV cs rows ≠ 0) :
  Calls Tryz.prog 66 #[.slice SA n cap, .slice A m c] w fun e w' => e = .returned (.tuple #[.agg #[.slice none 0 0, .slice none 0 0], .int .i64 (fitV cs rows)]) ∧ Touch [] w w' := by
 have t0 := (Touch.refl [] w).alloc (.cells #[.slice none 0 0, .slice none 0 0] 27)
 have hr := heap_alloc_new w (.cells #[.slice none 0 0, .slice none 0 0] 27)
 have Hf := Lib.hid (fit_any SA cap n cs hn hok A c m rows hm hvk _ (h.touch0 t0) (hv.touch0 t0) hl hl2)
 have HR := Lib.hid (And.intro t0 hr)
 obtain ⟨k, hk⟩ : ∃ k, k = fitV cs rows := ⟨_, rfl⟩
 rw [← hk] at Hf he ⊢
 have hq : (k == 0) = false := by rw [beq_eq_false_iff_ne]; exact he
 have hq' : (k != 0) = true := by rw [bne, hq]; rfl
 clear t0 hr hk h hv
 go_enter Tryz.func66, Tryz.ntmps66
 go_wp2_with fail
 refine Hf.out.mono ?_
 rintro e w1 ⟨rfl, t1⟩
 have hr1 := t1.blk HR.out.2 (by simp)
 obtain ⟨z0, z1, y0, y1⟩ := blk2 hr1
 have HT := Lib.hid (And.intro (HR.out.1.trans0 t1) hr1)
 clear hr1 t1
 go_wp2_with fail
 refine bodyPost_ret (results_cell_two rfl _ _ w.heap.size _ _ _ _ rfl (set2 HT.out.2 rfl _ _) Tryz.underlying27 rfl rfl) rfl ⟨rfl, HT.out.1.trans (touch2 _ _ _ _) (fun b hb => .inr (by simp at hb; omega))⟩

theorem fitV_zero {cs : List CD} {rows : List (List VD)} (h : fitV cs rows = 0) : checkV cs = 0 ∧ rows.length ≤ 4096 ∧ rows.all (fitR cs) = true := by
 unfold fitV at h
 by_cases h1 : checkV cs = 0
 ·rw [if_pos h1] at h
  by_cases h2 : 4096 < rows.length
  ·rw [if_pos h2] at h; cases h
  ·rw [if_neg h2] at h
   by_cases h3 : rows.all (fitR cs) = true
   ·exact ⟨h1, by omega, h3⟩
   ·rw [if_neg h3] at h; cases h
 ·rw [if_neg h1] at h; exact absurd h h1
theorem checkV_16 {cs : List CD} (h : checkV cs = 0) : 1 ≤ cs.length ∧ cs.length ≤ 16 := by
 unfold checkV at h
 by_cases h1 : cs.length < 1 ∨ 16 < cs.length
 ·rw [if_pos h1] at h; cases h
 ·omega

set_option maxRecDepth 20000 in
set_option maxHeartbeats 3200000 in
/-- table.Make of what fits: the rows in their order -/
theorem make_yes (SA : Option Addr) (cap n : Nat) (cs : List CD) (hn : cs.length = n) (hcap : n ≤ cap) (hok : ∀ c ∈ cs, c.Ok) (A : Option Addr) (c m : Nat) (rows : List (List VD)) (hm : rows.length = m) (hvk : RowsOk rows) (hle : RowsLe rows) (w : World)
  (h : ColsAt w SA cs) (hv : RowsAt w A rows) (hl : n ≤ 140737000000000) (hl2 : m ≤ 140737000000000) (he : fitV cs rows = 0) :
  Calls Tryz.prog 66 #[.slice SA n cap, .slice A m c] w fun e w' => ∃ (s r : SL) (out : List (List VD)), e = .returned (.tuple #[.agg #[.slice s.A s.n s.c, .slice r.A r.n r.c], .int .i64 0]) ∧ NewTab w.heap.size w' s r cs out ∧ SortedOf rows out ∧ Touch [] w w' := by
 have t0 := (Touch.refl [] w).alloc (.cells #[.slice none 0 0, .slice none 0 0] 27)
 have hr := heap_alloc_new w (.cells #[.slice none 0 0, .slice none 0 0] 27)
 have hf := fit_any SA cap n cs hn hok A c m rows hm hvk _ (h.touch0 t0) (hv.touch0 t0) hl hl2
 obtain ⟨hc0, h4, _⟩ := fitV_zero he
 have h16 := checkV_16 hc0
 rw [he] at hf
 have Hf := Lib.hid hf
 have Hcp := Lib.hid fun w' (t : Touch [] w w') => copy_any ⟨SA, n, cap⟩ ⟨A, m, c⟩ cs rows (by omega) (by omega) hle w' (⟨hn.symm, hcap, h.touch0 t, hm.symm, hv.touch0 t⟩ : TabAt w' ⟨SA, n, cap⟩ ⟨A, m, c⟩ cs rows)
 have HR := Lib.hid (And.intro t0 hr)
 have HV := Lib.hid (And.intro hvk h4)
 clear t0 hr h hv hf hvk hle hc0 h4 h16 hok
 go_enter Tryz.func66, Tryz.ntmps66
 go_wp2_with fail
 refine Hf.out.mono ?_
 rintro e w1 ⟨rfl, t1⟩
 have HT := Lib.hid (And.intro (HR.out.1.trans0 t1) (t1.blk HR.out.2 (by simp)))
 clear t1
 go_wp2_with fail
 refine (Hcp.out _ HT.out.1).mono ?_
 rintro e w2 ⟨s2, r2, rfl, hn2, t2⟩
 obtain ⟨sA, sn, sc⟩ := s2
 obtain ⟨rA, rn, rc⟩ := r2
 have ta := (Touch.refl [] w2).alloc (.cells #[.slice sA sn sc, .slice rA rn rc] 27)
 have hb2 := heap_alloc_new w2 (.cells #[.slice sA sn sc, .slice rA rn rc] 27)
 have hr2 := ta.blk (t2.blk HT.out.2 (by simp)) (by simp)
 have hm2 := hn2.m
 have hs := sortRows_any rA rc rn rows hm2.symm (by have := HV.out.2; dsimp only at hm2; omega) HV.out.1 w1.heap.size _ (hn2.rws.touch0 ta)
 have Hs := Lib.hid hs
 have H2 := Lib.hid (And.intro hn2 (And.intro t2 (And.intro ta (And.intro hb2 hr2))))
 clear hn2 t2 ta hb2 hr2 hm2 hs
 go_wp2_with fail
 refine Hs.out.mono ?_
 rintro e w3 ⟨rfl, out, hsort, hown3, t3⟩
 obtain ⟨hn2, t2, ta, hb2, hr2⟩ := H2.out
 have hw1 := lt_of_block HT.out.2
 have hnA : w.heap.size ∉ fpo rA := fun q => by have := hn2.rf _ q; omega
 have hnB : w2.heap.size ∉ fpo rA := fun q => by have := hn2.rws.lt _ q; omega
 have hb3 := t3.blk hb2 hnB
 have hr3 := t3.blk hr2 hnA
 obtain ⟨x0, x1, _, _⟩ := blk2 hb3
 obtain ⟨z0, z1, y0, y1⟩ := blk2 hr3
 have H3 := Lib.hid (And.intro hsort (And.intro hown3 (And.intro t3 hr3)))
 clear hsort hown3 t3 hr3 hb3 hnA hnB hn2 t2 ta hb2 hr2
 go_wp2_with fail
 obtain ⟨hsort, hown3, t3, hr3⟩ := H3.out
 obtain ⟨hn2, t2, ta, hb2, hr2⟩ := H2.out
 have tq := touch2 w3 w.heap.size (.slice sA sn sc) (.slice rA rn rc)
 have s2 := t2.size
 have s3 := ta.size
 have s4 := t3.size
 have s5 := tq.size
 have hlen := hsort.1.length_eq
 have T3 : Touch [] w w3 := ((HT.out.1.trans0 t2).trans0 ta).trans t3 (fun b hb => .inr (by have := hn2.rf b hb; omega))
 refine bodyPost_ret (results_cell_two rfl _ _ w.heap.size _ _ _ _ rfl (set2 hr3 rfl _ _) Tryz.underlying27 rfl rfl) rfl ⟨⟨sA, sn, sc⟩, ⟨rA, rn, rc⟩, out, rfl, ⟨hn2.n, hn2.le, ?_, fun b hb => ⟨?_, ?_⟩, ?_, ?_, fun b hb => ?_, hn2.apart⟩, hsort, T3.trans tq (fun b hb => .inr (by simp at hb; omega))⟩
 ·exact RdK.touch (RdK.touch (RdK.touch0 hn2.cols ta) t3 (fun b hb => hn2.apart b hb)) tq (fun b hb hm => by simp at hm; have := (hn2.cf b hb).1; omega)
 ·have := (hn2.cf b hb).1; omega
 ·have := (hn2.cf b hb).2; omega
 ·have := hn2.m; omega
 ·exact (hown3.touch tq (fun b hb => by simp at hb; omega) (fun b hb => hn2.rf b hb)).base (by omega)
 ·have := hn2.rf b hb; omega
end Go.Proofs.YtafoklilkdnepaaGreatDoor

/- A table that came in, within bounds. No program's function. -/
namespace Go.Proofs.YtafoklilkdnepaaGreatDoor
open Go.RowKit

/-- types that a machine's int holds -/
def tW (t : Int) : Prop := -9223372036854775808 ≤ t ∧ t ≤ 9223372036854775807
theorem allX_mono {p q : ND → Prop} (hpq : ∀ d, p d → q d) : ∀ (n : Nat) (e : TX n), allX p n e → allX q n e
 | 0, _, _ => trivial
 | n + 1, e, h => ⟨hpq _ h.1, fun a ha => allX_mono hpq n a (h.2 a ha)⟩
theorem CD.ok_w {c : CD} (h1 : c.name.size ≤ 1048576) (h2 : tW c.typ) : c.Ok := ⟨by omega, h2⟩
/-- a table that came in, within bounds -/
structure TbOk (cs : List CD) (rows : List (List VD)) : Prop where
 n : cs.length ≤ 16
 m : rows.length ≤ 30
 c : ∀ c ∈ cs, c.name.size ≤ 1048576 ∧ tW c.typ
 r : ∀ r ∈ rows, r.length ≤ 20 ∧ ∀ v ∈ r, v.Ok 1048576
theorem VD.Ok.le' {v : VD} {m n : Nat} (h : v.Ok m) (hm : m ≤ n) : v.Ok n := ⟨h.k, h.n, Nat.le_trans h.t hm⟩
theorem TbOk.cols {cs : List CD} {rows : List (List VD)} (h : TbOk cs rows) : ∀ c ∈ cs, c.Ok := fun c hc => CD.ok_w (h.c c hc).1 (h.c c hc).2
theorem TbOk.rok {cs : List CD} {rows : List (List VD)} (h : TbOk cs rows) : RowsOk rows := fun r hr => ⟨by have := (h.r r hr).1; omega, fun v hv => ((h.r r hr).2 v hv).le' (by omega)⟩
theorem TbOk.rle {cs : List CD} {rows : List (List VD)} (h : TbOk cs rows) : RowsLe rows := fun r hr => by have := (h.r r hr).1; omega
theorem TbOk.src {cs : List CD} {rows : List (List VD)} (h : TbOk cs rows) (nm : ByteArray) : SrcD.Ok ⟨nm, cs, rows⟩ := ⟨h.cols, by have := h.n; show cs.length ≤ _; omega, h.rok, by have := h.m; show rows.length ≤ _; omega⟩
theorem TbOk.nil : TbOk [] [] := ⟨by simp, by simp, by simp, by simp⟩
end Go.Proofs.YtafoklilkdnepaaGreatDoor

/- schema.Schema.Find, slices.IndexFunc at its closure: where a column is. For every schema and name. -/
namespace Go.Proofs.YtafoklilkdnepaaGreatDoor
open Go.RowKit

/-- the place of the first column of a name -/
def placeV (cs : List CD) (s : ByteArray) : Option Nat := cs.findIdx? fun c => decide (c.name = s)
/-- the same as a number, -1: none -/
def placeI (cs : List CD) (s : ByteArray) : Int := match placeV cs s with | some k => (k : Int) | none => -1
theorem placeV_some {cs : List CD} {s : ByteArray} {k : Nat} (h : k < cs.length) (hk : cs[k].name = s) (hno : ∀ j (hj : j < k), cs[j].name ≠ s) : placeV cs s = some k := by
 unfold placeV
 rw [List.findIdx?_eq_some_iff_getElem]
 exact ⟨h, by simpa using hk, fun j hj => by simpa using hno j hj⟩
theorem placeV_none {cs : List CD} {s : ByteArray} (hno : ∀ j (hj : j < cs.length), cs[j].name ≠ s) : placeV cs s = none := by
 unfold placeV
 rw [List.findIdx?_eq_none_iff]
 intro c hc
 obtain ⟨j, hj, rfl⟩ := List.mem_iff_getElem.1 hc
 simpa using hno j hj
theorem placeV_lt {cs : List CD} {s : ByteArray} {k : Nat} (h : placeV cs s = some k) : k < cs.length := by
 unfold placeV at h
 rw [List.findIdx?_eq_some_iff_getElem] at h
 exact h.1

set_option maxHeartbeats 400000 in
theorem find1_any (c : CD) (B : Nat) (s : ByteArray) (w : World) (hB : w.cell? ⟨B, 0, none⟩ = some (.string s)) :
  Calls Tryz.prog 166 #[.agg #[.string c.name, .int .i64 c.typ], .pointer (some ⟨B, 0, none⟩)] w fun e w' => e = .returned (.bool (decide (c.name = s))) ∧ Touch [] w w' := by
 have hbq := bs_beq c.name s
 have t0 := (Touch.refl [] w).alloc (.cells #[.string c.name, .int .i64 c.typ] 29)
 have hlt : B < w.heap.size := World.block_lt_of_cell? w _ hB
 go_enter Tryz.func166, Tryz.ntmps166
 go_wp2
 all_goals
  go_ret
  exact ⟨rfl, t0⟩

set_option maxRecDepth 20000 in
set_option maxHeartbeats 1600000 in
theorem indexFunc_any (A : Option Addr) (cap n : Nat) (cs : List CD) (hn : cs.length = n) (B : Nat) (s : ByteArray) (w : World) (h : ColsAt w A cs) (hB : w.cell? ⟨B, 0, none⟩ = some (.string s)) (hl : n ≤ 140737000000000) :
  Calls Tryz.prog 165 #[.slice A n cap, .func (.func 166) #[] #[.pointer (some ⟨B, 0, none⟩)]] w fun e w' =>
   e = .returned (.int .i64 (placeI cs s)) ∧ Touch [] w w' := by
 subst hn
 go_enter Tryz.func165, Tryz.ntmps165
 go_wp2
 go_loopw [8] (fun i wr => ∃ k : Nat, k ≤ cs.length ∧ i = .int .i64 k ∧ Hid (∀ j (hj : j < k) (hl : j < cs.length), cs[j].name ≠ s) ∧ Touch [] w wr) (fun i _ => cs.length - (intOf i).toNat)
 case atStart => exact ⟨0, by omega, rfl, Lib.hid (fun j hj => absurd hj (by omega)), Touch.refl _ _⟩
 case round =>
  obtain ⟨k, hk, rfl, Hno, ht⟩ := hrel
  by_cases hlt : k < cs.length
  ·obtain ⟨ad, b, off, rfl, hadd, c0, c1⟩ := (h.touch0 ht).at_ k hlt
   have hyes := placeV_some (s := s) hlt
   obtain ⟨c, hce⟩ : ∃ c, c = cs[k] := ⟨_, rfl⟩
   rw [← hce] at c0 c1 hyes
   have Hce := Lib.hid hce; have Hyes := Lib.hid hyes
   clear hce hyes
   have hf := find1_any c B s wr (ht.cell hB (by simp))
   by_cases hcs : c.name = s
   ·rw [decide_eq_true hcs] at hf
    have Hf := Lib.hid hf
    have Hp := Lib.hid (Hyes.out hcs (fun j hj => Hno.out j hj (by omega)))
    clear hf hcs
    go_wp2_with (go_at_call 166; refine Hf.out.mono ?_; rintro e w1 ⟨rfl, t1⟩)
    go_ret
    exact ⟨ret_int (by unfold placeI; rw [Hp.out]), ht.trans0 t1⟩
   ·rw [decide_eq_false hcs] at hf
    have Hf := Lib.hid hf
    have Hcs := Lib.hid hcs
    clear hf hcs
    go_wp2_with (go_at_call 166; refine Hf.out.mono ?_; rintro e w1 ⟨rfl, t1⟩)
    go_roundw
    case rel => exact ⟨k + 1, by omega, by go_num, Lib.hid (fun j hj hl => by
     by_cases hjk : j = k
     ·subst hjk; rw [← Hce.out]; exact Hcs.out
     ·exact Hno.out j (by omega) hl), ht.trans0 t1⟩
    case measure => simp [intOf]; omega
  ·obtain rfl : k = cs.length := by omega
   have Hp := Lib.hid (placeV_none (cs := cs) (s := s) (fun j hj => Hno.out j hj hj))
   go_wp2
   go_ret
   exact ⟨ret_int (by unfold placeI; rw [Hp.out]), ht⟩

set_option maxHeartbeats 800000 in
theorem findC_any (A : Option Addr) (cap n : Nat) (cs : List CD) (hn : cs.length = n) (s : ByteArray) (w : World) (h : ColsAt w A cs) (hl : n ≤ 140737000000000) :
  Calls Tryz.prog 130 #[.slice A n cap, .string s] w fun e w' =>
   e = .returned (.tuple #[.int .i64 (((placeV cs s).getD 0 : Nat) : Int), .bool (placeV cs s).isSome]) ∧ Touch [] w w' := by
 subst hn
 have t0 := (Touch.refl [] w).alloc (.cells #[.string s] 9)
 have hb := heap_alloc_new w (.cells #[.string s] 9)
 have hi := indexFunc_any A cap cs.length cs rfl w.heap.size s _ (h.touch0 t0) (cell_blk hb (i := 0) rfl) hl
 rcases hp : placeV cs s with _ | k
 ·rw [show placeI cs s = -1 by unfold placeI; rw [hp]] at hi
  have Hi := Lib.hid hi
  clear hi hp hb
  go_enter Tryz.func130, Tryz.ntmps130
  go_wp2_with (go_at_call 165; refine Hi.out.mono ?_; rintro e w1 ⟨rfl, t1⟩)
  go_ret2
  exact ⟨rfl, t0.trans0 t1⟩
 ·rw [show placeI cs s = (k : Int) by unfold placeI; rw [hp]] at hi
  have hkl := placeV_lt hp
  have Hi := Lib.hid hi
  clear hi hp hb
  have hmx : max (k : Int) 0 = k := by omega
  have hk0 : (0 : Int) ≤ k := by omega
  go_enter Tryz.func130, Tryz.ntmps130
  go_wp2_with (go_at_call 165; refine Hi.out.mono ?_; rintro e w1 ⟨rfl, t1⟩)
  go_ret2
  exact ⟨rfl, t0.trans0 t1⟩
end Go.Proofs.YtafoklilkdnepaaGreatDoor

/- slices.Index, slices.Contains at strings; value.Of. For all. -/
namespace Go.Proofs.YtafoklilkdnepaaGreatDoor
open Go.RowKit

def strO (l : List ByteArray) (s : ByteArray) : Option Nat := l.findIdx? fun x => decide (s = x)
def strN (l : List ByteArray) (s : ByteArray) : Int := match strO l s with | some k => (k : Int) | none => -1
theorem strO_some {l : List ByteArray} {s : ByteArray} {k : Nat} (h : k < l.length) (hk : s = l[k]) (hno : ∀ j (hj : j < k), s ≠ l[j]) : strO l s = some k := by
 unfold strO
 rw [List.findIdx?_eq_some_iff_getElem]
 exact ⟨h, by simpa using hk, fun j hj => by simpa using hno j hj⟩
theorem strO_none {l : List ByteArray} {s : ByteArray} (hno : ∀ j (hj : j < l.length), s ≠ l[j]) : strO l s = none := by
 unfold strO
 rw [List.findIdx?_eq_none_iff]
 intro c hc
 obtain ⟨j, hj, rfl⟩ := List.mem_iff_getElem.1 hc
 simpa using hno j hj
def memS (l : List ByteArray) (s : ByteArray) : Bool := l.any fun x => decide (s = x)
theorem strN_mem (l : List ByteArray) (s : ByteArray) : decide (0 ≤ strN l s) = memS l s := by
 by_cases h : s ∈ l
 ·have h2 : memS l s = true := List.any_eq_true.2 ⟨s, h, decide_eq_true rfl⟩
  have : strO l s ≠ none := by
   unfold strO
   rw [Ne, List.findIdx?_eq_none_iff]
   intro hn
   have := hn s h
   simp at this
  unfold strN
  rw [h2]
  rcases hs : strO l s with _ | k
  ·exact absurd hs this
  ·simp
 ·have : strO l s = none := strO_none fun j hj e => h (e ▸ List.getElem_mem hj)
  have h2 : memS l s = false := List.any_eq_false.2 fun x hx => by
   have : s ≠ x := fun e => h (e ▸ hx)
   simpa using this
  unfold strN
  rw [this, h2]
  simp
theorem strN_b (l : List ByteArray) (s : ByteArray) : -1 ≤ strN l s ∧ strN l s ≤ l.length := by
 unfold strN
 rcases hs : strO l s with _ | k
 ·dsimp only; omega
 ·have := (List.findIdx?_eq_some_iff_getElem.1 hs).1
  dsimp only; omega

set_option maxRecDepth 20000 in
set_option maxHeartbeats 1600000 in
theorem indexS_any (A : Option Addr) (c n : Nat) (l : List ByteArray) (hn : l.length = n) (s : ByteArray) (w : World) (h : RdK btE w A l) (hl : n ≤ 140737000000000) :
  Calls Tryz.prog 184 #[.slice A n c, .string s] w fun e w' => e = .returned (.int .i64 (strN l s)) ∧ Touch [] w w' := by
 subst hn
 go_enter Tryz.func184, Tryz.ntmps184
 go_wp2
 go_loopw [8] (fun i wr => ∃ k : Nat, k ≤ l.length ∧ i = .int .i64 k ∧ Hid (∀ j (hj : j < k) (hl : j < l.length), s ≠ l[j]) ∧ Touch [] w wr) (fun i _ => l.length - (intOf i).toNat)
 case atStart => exact ⟨0, by omega, rfl, Lib.hid (fun j hj => absurd hj (by omega)), Touch.refl _ _⟩
 case round =>
  obtain ⟨k, hk, rfl, Hno, ht⟩ := hrel
  by_cases hlt : k < l.length
  ·obtain ⟨ad, b, off, rfl, hadd, hc⟩ := RdK.cells (h.touch0 ht) 1 btE_length (by omega) k hlt
   rw [Nat.mul_one] at hadd
   have c0 := hc 0 _ rfl
   rw [Nat.add_zero] at c0
   have hyes := strO_some (s := s) hlt
   obtain ⟨x, hx⟩ : ∃ x, x = l[k] := ⟨_, rfl⟩
   rw [← hx] at c0 hyes
   have Hx := Lib.hid hx; have Hyes := Lib.hid hyes
   clear hx hyes hc
   by_cases hcs : s = x
   ·have Hp := Lib.hid (Hyes.out hcs (fun j hj => Hno.out j hj (by omega)))
    have hb : (s.toList == x.toList) = true := by rw [bs_beq]; exact decide_eq_true hcs
    clear hcs
    go_wp2
    go_ret
    exact ⟨ret_int (by unfold strN; rw [Hp.out]), ht⟩
   ·have hb : (s.toList == x.toList) = false := by rw [bs_beq]; exact decide_eq_false hcs
    have Hcs := Lib.hid hcs
    clear hcs
    go_wp2
    go_roundw
    case rel => exact ⟨k + 1, by omega, by go_num, Lib.hid (fun j hj hl => by
     by_cases hjk : j = k
     ·subst hjk; rw [← Hx.out]; exact Hcs.out
     ·exact Hno.out j (by omega) hl), ht⟩
    case measure => simp [intOf]; omega
  ·obtain rfl : k = l.length := by omega
   have Hp := Lib.hid (strO_none (l := l) (s := s) (fun j hj => Hno.out j hj hj))
   go_wp2
   go_ret
   exact ⟨ret_int (by unfold strN; rw [Hp.out]), ht⟩

set_option maxHeartbeats 800000 in
theorem containsS_any (A : Option Addr) (c n : Nat) (l : List ByteArray) (hn : l.length = n) (s : ByteArray) (w : World) (h : RdK btE w A l) (hl : n ≤ 140737000000000) :
  Calls Tryz.prog 167 #[.slice A n c, .string s] w fun e w' => e = .returned (.bool (memS l s)) ∧ Touch [] w w' := by
 have hi := indexS_any A c n l hn s w h hl
 have hm := strN_mem l s
 have hb := strN_b l s
 obtain ⟨i, hie⟩ : ∃ i, i = strN l s := ⟨_, rfl⟩
 rw [← hie] at hi hm hb
 have Hi := Lib.hid hi
 have Hm := Lib.hid hm
 clear hi hm hie
 go_enter Tryz.func167, Tryz.ntmps167
 go_wp2_with fail
 refine Hi.out.mono ?_
 rintro e w1 ⟨rfl, t1⟩
 go_wp2
 go_ret
 exact ⟨ret_bool (by rw [← Hm.out]), t1⟩

set_option maxRecDepth 20000 in
set_option maxHeartbeats 800000 in
theorem of_num (n : Int) (w : World) : Calls Tryz.prog 11 #[.int .i64 n] w fun e w' => e = .returned (.agg #[.int .i64 1, .int .i64 n, .string ⟨#[]⟩]) ∧ Touch [] w w' := by
 go_enter Tryz.func11, Tryz.ntmps11
 go_wp2_with fail
 refine bodyPost_ret (results_cell_row rfl _ _ w.heap.size _ _ _ _ rfl (heap_alloc_new w _) Tryz.underlying31 rfl rfl) rfl ⟨rfl, (Touch.refl _ _).alloc _⟩
end Go.Proofs.YtafoklilkdnepaaGreatDoor
