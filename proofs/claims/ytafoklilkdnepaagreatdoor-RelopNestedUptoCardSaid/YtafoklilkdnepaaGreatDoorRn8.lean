/- Part 8 of the texts of this proof, one behind the other. No condition beyond those that its theorems state. -/
import Derived.Test.YtafoklilkdnepaaGreatDoorRn7
import Derived.Deep.RegionHeld3
import Derived.Shelf.Small.Bits
import Derived.Shelf.Small.Strs
import Derived.Shelf.Small.Wraps
import Derived.Shelf.Strconv.Itoa0
import Derived.Shelf.Strconv.Itoa1
import Derived.Shelf.LaysM
import Derived.Shelf.Strconv.Itoa2
import Derived.Shelf.Strconv.Itoa3
import Derived.Shelf.Strings.Search1
import Derived.Shelf.Sort.Plain
import Derived.Shelf.Slices.Turned
import Derived.Shelf.Slices.Equal
import Derived.Shelf.Slices.CompactS
import Derived.Ground.Names2Prog
import Derived.Shelf.Slices.SearchI
import Derived.Shelf.Slices.Cells
import Derived.Shelf.Slices.In.SortNone
import Derived.Shelf.Slices.Empties2
import Derived.Test.YtafoklilkdnepaaGreatDoorProg
set_option maxRecDepth 40000
set_option maxHeartbeats 25600000
namespace Go.Proofs.YtafoklilkdnepaaGreatDoor
section
open Go.RowKit
theorem lt_of_block {w : World} {g : Nat} {o : Obj} (h : w.heap[g]? = some o) : g < w.heap.size := (Array.getElem?_eq_some_iff.1 h).1
def RowsLe (rows : List (List VD)) : Prop := ∀ r ∈ rows, r.length <= 1000000
theorem copied_any (A : Option Addr) (c n : Nat) (rows : List (List VD)) (hn : rows.length = n) (hl : n <= 1000000) (hr : RowsLe rows) (w : World) (h : RowsAt w A rows) :
  Calls Tryz.prog 88 #[.slice A n c] w fun e w' => ∃ B c', e = .returned (.slice B n c') /\ OwnR 33 w.heap.size w' B c' rows /\ Touch [] w w' /\ ∀ b ∈ fpo B, w.heap.size <= b := by
 subst hn
 have HR := lh h
 clear h
 go_enter Tryz.func88, Tryz.ntmps88
 go_wp2_with fail
 go_loopw [3, 8] (fun o i wr => ∃ (k : Nat) (B : Option Addr) (c2 : Nat), k <= rows.length /\ i = .int .i64 k /\ o = .slice B k c2 /\ Hid (OwnR 33 w.heap.size wr B c2 (rows.take k)) /\ Hid (Touch [] w wr) /\ Hid (∀ b ∈ fpo B, w.heap.size <= b)) (fun _ i _ => rows.length - (intOf i).toNat)
 case atStart => exact ⟨0, none, 0, by omega, rfl, rfl, lh (OwnR.nil _ _ _), lh (Touch.refl _ _), lh (by simp [fpo])⟩
 case round =>
  obtain ⟨k, B, c2, hk, rfl, rfl, HO, HT, HF⟩ := hrel
  by_cases hlt : k < rows.length
  ·obtain ⟨bd, A1, c1, rfl, e0, hr1⟩ := (HR.out.touch0 HT.out).at_ k hlt
   have hl1 := hr _ (List.getElem_mem hlt)
   have htk := List.take_succ_eq_append_getElem hlt
   obtain ⟨r, hre⟩ : ∃ r, r = rows[k] := ⟨_, rfl⟩
   rw [<- hre] at e0 hr1 hl1 htk
   have Hc := lh (cloneV_any A1 c1 r.length r rfl hl1 wr hr1)
   have Htk := lh htk
   have hkn : (k : Int) < (rows.length : Int) := by omega
   clear hre htk hr1
   go_wp2_with fail
   refine Hc.out.mono ?_
   rintro e w1 ⟨A2, c3, rfl, hm⟩
   have HM := lh hm
   clear hm Hc
   go_wp2_with (at_builtin; refine stop ?_)
   refine go ?_
   have hB := HO.out.lt
   have hsz := HM.out.t.size
   refine wpList_appR rfl (.tmp 12) (.tmp 15) 25 rfl 33 info_r5 Tryz.underlying25 w.heap.size B k c2 (rows.take k) (by rw [List.length_take]; omega) rfl (HO.out.touch0 HM.out.t) A2 c3 r HM.out.own.rd
    (fun b hb => ⟨fun q => by have := hB b q; have := HM.out.f b hb; omega, HM.out.own.lt b hb, by have := HM.out.f b hb; have := HT.out.size; omega⟩) 1 rfl (by omega) rfl ?_
   intro B' c' w' hown ht hf
   have HX := lh (And.intro hown (And.intro ht hf))
   clear hown ht hf
   go_wp2_with fail
   go_roundw
   case rel =>
    obtain ⟨hown, ht, hf⟩ := HX.out
    refine ⟨k + 1, B', c', by omega, by go_num, rfl, lh (by rw [Htk.out]; exact hown), lh (((HT.out.trans0 HM.out.t).alloc _).trans ht (fun b hb => .inr (HF.out b hb))), lh (fun b hb => ?_)⟩
    rcases hf b hb with q | q
    ·exact HF.out b q
    ·have := HT.out.size; omega
   case measure => simp [intOf]; omega
  ·obtain rfl : k = rows.length := by omega
   have HO2 : Hid (OwnR 33 w.heap.size wr B c2 rows) := lh (by have := HO.out; rwa [List.take_length] at this)
   clear HO
   go_wp2
   go_ret
   exact ⟨B, c2, rfl, HO2.out, HT.out, HF.out⟩
structure NewTab (base : Nat) (w : World) (s r : SL) (cs : List CD) (rows : List (List VD)) : Prop where
 n : s.n = cs.length
 le : s.n <= s.c
 cols : ColsAt w s.A cs
 cf : ∀ b ∈ fpo s.A, base <= b /\ b < w.heap.size
 m : r.n = rows.length
 rws : OwnR 33 base w r.A r.c rows
 rf : ∀ b ∈ fpo r.A, base <= b
 apart : ∀ b ∈ fpo s.A, b ∉ fpo r.A
theorem NewTab.tab {base : Nat} {w : World} {s r : SL} {cs : List CD} {rows : List (List VD)} (h : NewTab base w s r cs rows) : TabAt w s r cs rows := ⟨h.n, h.le, h.cols, h.m, h.rws.rowsAt⟩
theorem NewTab.touch0 {base : Nat} {w w' : World} {s r : SL} {cs : List CD} {rows : List (List VD)} (h : NewTab base w s r cs rows) (ht : Touch [] w w') : NewTab base w' s r cs rows :=
 ⟨h.n, h.le, h.cols.touch0 ht, fun b hb => ⟨(h.cf b hb).1, Nat.lt_of_lt_of_le (h.cf b hb).2 ht.size⟩, h.m, h.rws.touch0 ht, h.rf, h.apart⟩
theorem OwnR.base {t base base' : Nat} {w : World} {B : Option Addr} {c : Nat} {rows : List (List VD)} (h : OwnR t base w B c rows) (hb : base' <= base) : OwnR t base' w B c rows := by
 obtain ⟨sl, h1, h2, h3⟩ := h
 exact ⟨sl, h1, h2, fun s hs b q => ⟨(h3 s hs b q).1, (h3 s hs b q).2.1, Nat.le_trans hb (h3 s hs b q).2.2⟩⟩
theorem NewTab.base {base base' : Nat} {w : World} {s r : SL} {cs : List CD} {rows : List (List VD)} (h : NewTab base w s r cs rows) (hb : base' <= base) : NewTab base' w s r cs rows :=
 ⟨h.n, h.le, h.cols, fun b q => ⟨Nat.le_trans hb (h.cf b q).1, (h.cf b q).2⟩, h.m, h.rws.base hb, fun b q => Nat.le_trans hb (h.rf b q), h.apart⟩
theorem copy_any (s r : SL) (cs : List CD) (rows : List (List VD)) (hn : cs.length <= 1000000) (hl : rows.length <= 1000000) (hr : RowsLe rows) (w : World) (h : TabAt w s r cs rows) :
  Calls Tryz.prog 63 #[.agg #[.slice s.A s.n s.c, .slice r.A r.n r.c]] w fun e w' => ∃ s' r' : SL, e = .returned (.agg #[.slice s'.A s'.n s'.c, .slice r'.A r'.n r'.c]) /\ NewTab w.heap.size w' s' r' cs rows /\ Touch [] w w' := by
 obtain ⟨SA, sn, sc⟩ := s
 obtain ⟨RA, rn, rc⟩ := r
 obtain ⟨h1, h2, h3, h4, h5⟩ := h
 dsimp only at *
 obtain ⟨W, hW⟩ : ∃ W, W = ((w.alloc (.cells #[.slice SA sn sc, .slice RA rn rc] 27)).alloc (.cells #[.slice none 0 0, .slice none 0 0] 27)) := ⟨_, rfl⟩
 have t0 : Touch [] w W := hW ▸ ((Touch.refl [] w).alloc (.cells #[.slice SA sn sc, .slice RA rn rc] 27)).alloc (.cells #[.slice none 0 0, .slice none 0 0] 27)
 have hp0 : W.heap[w.heap.size]? = some (.cells #[.slice SA sn sc, .slice RA rn rc] 27 (0, 0)) := hW ▸ ((Touch.refl [] (w.alloc (.cells #[.slice SA sn sc, .slice RA rn rc] 27))).alloc (.cells #[.slice none 0 0, .slice none 0 0] 27)).blk (heap_alloc_new w _) (by simp)
 have hr0 : W.heap[w.heap.size + 1]? = some (.cells #[.slice none 0 0, .slice none 0 0] 27 (0, 0)) := by
  have := heap_alloc_new (w.alloc (.cells #[.slice SA sn sc, .slice RA rn rc] 27)) (.cells #[.slice none 0 0, .slice none 0 0] 27)
  rw [World.size_alloc] at this
  rw [hW]; exact this
 have HW := lh hW
 have Hc1 := lh fun w' (t : Touch [] W w') => cloneC_any SA sc sn cs h1.symm (by omega) w' (h3.touch0 (t0.trans0 t))
 have Hc2 := lh fun w' (t : Touch [] W w') => copied_any RA rc rn rows h4.symm (by omega) hr w' (h5.touch0 (t0.trans0 t))
 obtain ⟨c0, c1, _, _⟩ := blk2 hp0
 have c0d := ((Touch.refl [] W).drew).cell c0 (by simp)
 have c1d := ((Touch.refl [] W).drew).cell c1 (by simp)
 have H0 := lh (And.intro t0 (And.intro hr0 (And.intro c0 c1)))
 have Hn := lh (And.intro h1 (And.intro h2 h4))
 clear hW h3 h5 t0 hr0 h1 h2 h4 hn hl hp0 c0 c1
 go_enter Tryz.func63, Tryz.ntmps63
 go_wp2_with fail
 rw [<- HW.out]
 go_region_held3 (fun w' => w'.cell? ⟨w.heap.size, 0, none⟩ = some (.slice SA sn sc) /\ w'.cell? ⟨w.heap.size, 1, none⟩ = some (.slice RA rn rc)) (first | exact ⟨c0d, c1d⟩ | exact ⟨d0, d1⟩ | exact ⟨f0, f1⟩ | exact ⟨(touch2 _ _ _ _).cell f0 (by simp), (touch2 _ _ _ _).cell f1 (by simp)⟩) (first
  | (go_at_call 67; refine (Hc1.out _ (Touch.refl _ _).drew).mono ?_; rintro e w1 ⟨A1, k1, rfl, m1⟩; have M1 := lh m1; have d0 := M1.out.t.cell c0d (by simp); have d1 := M1.out.t.cell c1d (by simp); clear m1)
  | (go_at_call 88; refine (Hc2.out _ ((Touch.refl _ _).drew.trans0 M1.out.t)).mono ?_; rintro e w2 ⟨B2, k2, rfl, o2, t2, f2⟩; have M2 := lh (And.intro o2 (And.intro t2 f2)); have f0 := t2.cell d0 (by simp); have f1 := t2.cell d1 (by simp); have hr2 := t2.blk (M1.out.t.blk ((Touch.refl [] W).drew.blk H0.out.2.1 (by simp)) (by simp)) (by simp); obtain ⟨z0, z1, y0, y1⟩ := blk2 hr2; clear o2 t2 f2))
 go_wp2_with fail
 obtain ⟨o2, t2, f2⟩ := M2.out
 obtain ⟨ht0, hr0, _, _⟩ := H0.out
 obtain ⟨h1, h2, h4⟩ := Hn.out
 have hWs : W.heap.size = w.heap.size + 2 := by rw [HW.out]; simp
 have hd := (Touch.refl [] W).drew
 have s1 := M1.out.t.size
 have s2 := t2.size
 have s0 := hd.size
 have hr2 := t2.blk (M1.out.t.blk (hd.blk hr0 (by simp)) (by simp)) (by simp)
 have tq := touch2 w2 (w.heap.size + 1) (.slice A1 sn k1) (.slice B2 rn k2)
 have s3 := tq.size
 have hle := M1.out.own.le
 refine bodyPost_ret (results_cell_row rfl _ _ (w.heap.size + 1) _ _ _ _ rfl (set2 hr2 rfl _ _) Tryz.underlying27 rfl rfl) rfl ⟨⟨A1, sn, k1⟩, ⟨B2, rn, k2⟩, rfl, ⟨h1, by dsimp only; omega, RdK.touch (RdK.touch0 M1.out.own.rd t2) tq (fun b hb hm => ?_), fun b hb => ⟨?_, ?_⟩, h4, ?_, fun b hb => ?_, fun b hb hm => ?_⟩, ?_⟩
 ·have := M1.out.f b hb; simp at hm; omega
 ·have := M1.out.f b hb; omega
 ·have := M1.out.own.lt b hb; omega
 ·exact (o2.touch tq (fun b hb => by simp at hb; omega) (fun b hb => f2 b hb)).base (by omega)
 ·have := f2 b hb; omega
 ·have := M1.out.own.lt b hb; have := f2 b hm; omega
 ·exact (((ht0.trans0 hd).trans0 M1.out.t).trans0 t2).trans tq (fun b hb => .inr (by simp at hb; omega))
theorem make_no (SA : Option Addr) (cap n : Nat) (cs : List CD) (hn : cs.length = n) (hok : ∀ c ∈ cs, c.Ok) (A : Option Addr) (c m : Nat) (rows : List (List VD)) (hm : rows.length = m) (hvk : RowsOk rows) (w : World)
  (h : ColsAt w SA cs) (hv : RowsAt w A rows) (hl : n <= 140737000000000) (hl2 : m <= 140737000000000) (he : fitV cs rows ≠ 0) :
  Calls Tryz.prog 66 #[.slice SA n cap, .slice A m c] w fun e w' => e = .returned (.tuple #[.agg #[.slice none 0 0, .slice none 0 0], .int .i64 (fitV cs rows)]) /\ Touch [] w w' := by
 have t0 := (Touch.refl [] w).alloc (.cells #[.slice none 0 0, .slice none 0 0] 27)
 have hr := heap_alloc_new w (.cells #[.slice none 0 0, .slice none 0 0] 27)
 have Hf := lh (fit_any SA cap n cs hn hok A c m rows hm hvk _ (h.touch0 t0) (hv.touch0 t0) hl hl2)
 have HR := lh (And.intro t0 hr)
 obtain ⟨k, hk⟩ : ∃ k, k = fitV cs rows := ⟨_, rfl⟩
 rw [<- hk] at Hf he ⊢
 have hq : (k == 0) = false := by rw [beq_eq_false_iff_ne]; exact he
 have hq' : (k != 0) = true := by rw [bne, hq]; rfl
 clear t0 hr hk h hv
 go_enter Tryz.func66, Tryz.ntmps66
 go_wp2_with fail
 refine Hf.out.mono ?_
 rintro e w1 ⟨rfl, t1⟩
 have hr1 := t1.blk HR.out.2 (by simp)
 obtain ⟨z0, z1, y0, y1⟩ := blk2 hr1
 have HT := lh (And.intro (HR.out.1.trans0 t1) hr1)
 clear hr1 t1
 go_wp2_with fail
 refine bodyPost_ret (results_cell_two rfl _ _ w.heap.size _ _ _ _ rfl (set2 HT.out.2 rfl _ _) Tryz.underlying27 rfl rfl) rfl ⟨rfl, HT.out.1.trans (touch2 _ _ _ _) (fun b hb => .inr (by simp at hb; omega))⟩
theorem fitV_zero {cs : List CD} {rows : List (List VD)} (h : fitV cs rows = 0) : checkV cs = 0 /\ rows.length <= 4096 /\ rows.all (fitR cs) = true := by
 unfold fitV at h
 by_cases h1 : checkV cs = 0
 ·rw [if_pos h1] at h
  by_cases h2 : 4096 < rows.length
  ·rw [if_pos h2] at h; cases h
  ·rw [if_neg h2] at h
   by_cases h3 : rows.all (fitR cs) = true
   ·exact ⟨h1, by omega, h3⟩
   ·rw [if_neg h3] at h; cases h
 ·rw [if_neg h1] at h; exact absurd h h1
theorem checkV_16 {cs : List CD} (h : checkV cs = 0) : 1 <= cs.length /\ cs.length <= 16 := by
 unfold checkV at h
 by_cases h1 : cs.length < 1 \/ 16 < cs.length
 ·rw [if_pos h1] at h; cases h
 ·omega
theorem make_yes (SA : Option Addr) (cap n : Nat) (cs : List CD) (hn : cs.length = n) (hcap : n <= cap) (hok : ∀ c ∈ cs, c.Ok) (A : Option Addr) (c m : Nat) (rows : List (List VD)) (hm : rows.length = m) (hvk : RowsOk rows) (hle : RowsLe rows) (w : World)
  (h : ColsAt w SA cs) (hv : RowsAt w A rows) (hl : n <= 140737000000000) (hl2 : m <= 140737000000000) (he : fitV cs rows = 0) :
  Calls Tryz.prog 66 #[.slice SA n cap, .slice A m c] w fun e w' => ∃ (s r : SL) (out : List (List VD)), e = .returned (.tuple #[.agg #[.slice s.A s.n s.c, .slice r.A r.n r.c], .int .i64 0]) /\ NewTab w.heap.size w' s r cs out /\ SortedOf rows out /\ Touch [] w w' := by
 have t0 := (Touch.refl [] w).alloc (.cells #[.slice none 0 0, .slice none 0 0] 27)
 have hr := heap_alloc_new w (.cells #[.slice none 0 0, .slice none 0 0] 27)
 have hf := fit_any SA cap n cs hn hok A c m rows hm hvk _ (h.touch0 t0) (hv.touch0 t0) hl hl2
 obtain ⟨hc0, h4, _⟩ := fitV_zero he
 have h16 := checkV_16 hc0
 rw [he] at hf
 have Hf := lh hf
 have Hcp := lh fun w' (t : Touch [] w w') => copy_any ⟨SA, n, cap⟩ ⟨A, m, c⟩ cs rows (by omega) (by omega) hle w' (⟨hn.symm, hcap, h.touch0 t, hm.symm, hv.touch0 t⟩ : TabAt w' ⟨SA, n, cap⟩ ⟨A, m, c⟩ cs rows)
 have HR := lh (And.intro t0 hr)
 have HV := lh (And.intro hvk h4)
 clear t0 hr h hv hf hvk hle hc0 h4 h16 hok
 go_enter Tryz.func66, Tryz.ntmps66
 go_wp2_with fail
 refine Hf.out.mono ?_
 rintro e w1 ⟨rfl, t1⟩
 have HT := lh (And.intro (HR.out.1.trans0 t1) (t1.blk HR.out.2 (by simp)))
 clear t1
 go_wp2_with fail
 refine (Hcp.out _ HT.out.1).mono ?_
 rintro e w2 ⟨s2, r2, rfl, hn2, t2⟩
 obtain ⟨sA, sn, sc⟩ := s2
 obtain ⟨rA, rn, rc⟩ := r2
 have ta := (Touch.refl [] w2).alloc (.cells #[.slice sA sn sc, .slice rA rn rc] 27)
 have hb2 := heap_alloc_new w2 (.cells #[.slice sA sn sc, .slice rA rn rc] 27)
 have hr2 := ta.blk (t2.blk HT.out.2 (by simp)) (by simp)
 have hm2 := hn2.m
 have hs := sortRows_any rA rc rn rows hm2.symm (by have := HV.out.2; dsimp only at hm2; omega) HV.out.1 w1.heap.size _ (hn2.rws.touch0 ta)
 have Hs := lh hs
 have H2 := lh (And.intro hn2 (And.intro t2 (And.intro ta (And.intro hb2 hr2))))
 clear hn2 t2 ta hb2 hr2 hm2 hs
 go_wp2_with fail
 refine Hs.out.mono ?_
 rintro e w3 ⟨rfl, out, hsort, hown3, t3⟩
 obtain ⟨hn2, t2, ta, hb2, hr2⟩ := H2.out
 have hw1 := lt_of_block HT.out.2
 have hnA : w.heap.size ∉ fpo rA := fun q => by have := hn2.rf _ q; omega
 have hnB : w2.heap.size ∉ fpo rA := fun q => by have := hn2.rws.lt _ q; omega
 have hb3 := t3.blk hb2 hnB
 have hr3 := t3.blk hr2 hnA
 obtain ⟨x0, x1, _, _⟩ := blk2 hb3
 obtain ⟨z0, z1, y0, y1⟩ := blk2 hr3
 have H3 := lh (And.intro hsort (And.intro hown3 (And.intro t3 hr3)))
 clear hsort hown3 t3 hr3 hb3 hnA hnB hn2 t2 ta hb2 hr2
 go_wp2_with fail
 obtain ⟨hsort, hown3, t3, hr3⟩ := H3.out
 obtain ⟨hn2, t2, ta, hb2, hr2⟩ := H2.out
 have tq := touch2 w3 w.heap.size (.slice sA sn sc) (.slice rA rn rc)
 have s2 := t2.size
 have s3 := ta.size
 have s4 := t3.size
 have s5 := tq.size
 have hlen := hsort.1.length_eq
 have T3 : Touch [] w w3 := ((HT.out.1.trans0 t2).trans0 ta).trans t3 (fun b hb => .inr (by have := hn2.rf b hb; omega))
 refine bodyPost_ret (results_cell_two rfl _ _ w.heap.size _ _ _ _ rfl (set2 hr3 rfl _ _) Tryz.underlying27 rfl rfl) rfl ⟨⟨sA, sn, sc⟩, ⟨rA, rn, rc⟩, out, rfl, ⟨hn2.n, hn2.le, ?_, fun b hb => ⟨?_, ?_⟩, ?_, ?_, fun b hb => ?_, hn2.apart⟩, hsort, T3.trans tq (fun b hb => .inr (by simp at hb; omega))⟩
 ·exact RdK.touch (RdK.touch (RdK.touch0 hn2.cols ta) t3 (fun b hb => hn2.apart b hb)) tq (fun b hb hm => by simp at hm; have := (hn2.cf b hb).1; omega)
 ·have := (hn2.cf b hb).1; omega
 ·have := (hn2.cf b hb).2; omega
 ·have := hn2.m; omega
 ·exact (hown3.touch tq (fun b hb => by simp at hb; omega) (fun b hb => hn2.rf b hb)).base (by omega)
 ·have := hn2.rf b hb; omega
end
section
open Go.RowKit Go.Maps Go.ChangeMaps
structure EN where
 key : List UInt8
 A : Option Addr
 c : Nat
 ix : List Nat
def EN.kv (e : EN) : Value × Value := (.string (S e.key), .slice e.A e.ix.length e.c)
def slAt (sl : List SL) (i : Nat) : SL := sl.getD i ⟨none, 0, 0⟩
structure IdxAt (sl : List SL) (g0 : Nat) (w : World) (b : Nat) (es : List EN) : Prop where
 mp : MapAt Tryz.prog 193 w b (es.map EN.kv)
 own : ∀ e ∈ es, OwnK 33 1 slE w e.A e.c (e.ix.map (slAt sl))
 low : ∀ e ∈ es, ∀ a ∈ fpo e.A, g0 <= a /\ a ≠ b
 apart : es.Pairwise fun e f => ∀ a ∈ fpo e.A, a ∉ fpo f.A
 base : g0 <= b
theorem key_law : Keyed Tryz.prog 193 := string_keyed Tryz.underlying193
theorem key_of (l : List UInt8) (h : l.length <= 1000000000) : keyOf Tryz.prog 193 (.string (S l)) = some (.string (S l).data.toList) :=
 Go.WideMaps.keyOf_string_mk Tryz.underlying193 (s := S l) (by rw [S_size]; unfold maxLen; omega)
theorem IdxAt.touch0 {sl : List SL} {g0 : Nat} {w w' : World} {b : Nat} {es : List EN} (h : IdxAt sl g0 w b es) (ht : Touch [] w w') : IdxAt sl g0 w' b es :=
 ⟨h.mp.touch ht (by simp), fun e he => (h.own e he).touch0 ht, h.low, h.apart, h.base⟩
theorem IdxAt.made (sl : List SL) (w : World) : IdxAt sl w.heap.size (w.alloc (.map #[] 0)) w.heap.size [] :=
 ⟨MapAt.made _, by simp, by simp, .nil, Nat.le_refl _⟩
theorem kv_ne {es : List EN} {K : List UInt8} (h : ∀ e ∈ es, e.key ≠ K) : ∀ p ∈ es.map EN.kv, p.1 ≠ Value.string (S K) := by
 intro p hp e
 obtain ⟨x, hx, rfl⟩ := List.mem_map.1 hp
 have e : Value.string (S x.key) = Value.string (S K) := e
 exact h x hx (S_inj (by injection e))
theorem zeroRows (w : World) : (zeroValue 25).run Tryz.prog w = .ok (.slice none 0 0) w := by kernel_rfl
theorem IdxAt.miss {sl : List SL} {g0 : Nat} {w : World} {b : Nat} {es : List EN} (h : IdxAt sl g0 w b es) (K : List UInt8) (hK : K.length <= 1000000000) (hn : ∀ e ∈ es, e.key ≠ K) (c : Bool) :
  (Instr.lookup 191 (.map (some b)) (.string (S K)) c).run Tryz.prog w = .ok (if c then .tuple #[.slice none 0 0, .bool false] else .slice none 0 0) w :=
 h.mp.miss key_law Tryz.underlying191 (key_of K hK) (kv_ne hn) (.slice none 0 0) (zeroRows w) c
theorem IdxAt.hit {sl : List SL} {g0 : Nat} {w : World} {b : Nat} {es : List EN} (h : IdxAt sl g0 w b es) (e : EN) (he : e ∈ es) (hK : e.key.length <= 1000000000) (c : Bool) :
  (Instr.lookup 191 (.map (some b)) (.string (S e.key)) c).run Tryz.prog w = .ok (if c then .tuple #[.slice e.A e.ix.length e.c, .bool true] else .slice e.A e.ix.length e.c) w :=
 h.mp.hit key_law Tryz.underlying191 (key_of e.key hK) (List.mem_map.2 ⟨e, he, rfl⟩) c
theorem IdxAt.put_new {sl : List SL} {g0 : Nat} {w w' : World} {b : Nat} {es : List EN} (h : IdxAt sl g0 w b es) (K : List UInt8) (hK : K.length <= 1000000000) (hn : ∀ e ∈ es, e.key ≠ K) (i : Nat) (A' : Option Addr) (c' : Nat)
  (hown : OwnK 33 1 slE w' A' c' [slAt sl i]) (ht : Touch [] w w') (hf : ∀ a ∈ fpo A', w.heap.size <= a) (hg : g0 <= w.heap.size) :
  ∃ w'', (Instr.mapUpdate 191 (.map (some b)) (.string (S K)) (.slice A' 1 c')).run Tryz.prog w' = .ok () w'' /\ IdxAt sl g0 w'' b (es ++ [⟨K, A', c', [i]⟩]) /\ Touch [b] w' w'' := by
 obtain ⟨w'', hrun, hm, t2⟩ := (h.mp.touch ht (by simp)).put_new key_law Tryz.underlying191 (key_of K hK) (kv_ne hn) (.slice A' 1 c')
 have hbl := h.mp.lt
 have hnew : ∀ a ∈ fpo A', a ≠ b := fun a ha e => by have := hf a ha; omega
 refine ⟨w'', hrun, ⟨by rw [List.map_append]; exact hm, fun e he => ?_, fun e he a ha => ?_, ?_, h.base⟩, t2⟩
 ·rcases List.mem_append.1 he with q | q
  ·exact ((h.own e q).touch0 ht).touch t2 (fun a ha hm => (h.low e q a ha).2 (by simpa using hm))
  ·simp only [List.mem_singleton] at q
   subst q
   exact hown.touch t2 (fun a ha hm => hnew a ha (by simpa using hm))
 ·rcases List.mem_append.1 he with q | q
  ·exact h.low e q a ha
  ·simp only [List.mem_singleton] at q
   subst q
   exact ⟨by have := hf a ha; omega, hnew a ha⟩
 ·rw [List.pairwise_append]
  refine ⟨h.apart, by simp, fun e he f hf' a ha hm => ?_⟩
  simp only [List.mem_singleton] at hf'
  subst hf'
  have := (h.own e he).lt a ha
  have := hf a hm
  omega
theorem IdxAt.put_old {sl : List SL} {g0 : Nat} {w w' : World} {b : Nat} {l1 l2 : List EN} {e0 : EN} (h : IdxAt sl g0 w b (l1 ++ e0 :: l2)) (hK : e0.key.length <= 1000000000) (i : Nat) (A' : Option Addr) (c' : Nat)
  (hown : OwnK 33 1 slE w' A' c' ((e0.ix ++ [i]).map (slAt sl))) (ht : Touch (fpo e0.A) w w') (hf : ∀ a ∈ fpo A', a ∈ fpo e0.A \/ w.heap.size <= a) (hg : g0 <= w.heap.size) :
  ∃ w'', (Instr.mapUpdate 191 (.map (some b)) (.string (S e0.key)) (.slice A' (e0.ix.length + 1) c')).run Tryz.prog w' = .ok () w'' /\ IdxAt sl g0 w'' b (l1 ++ ⟨e0.key, A', c', e0.ix ++ [i]⟩ :: l2) /\ Touch [b] w' w'' := by
 have hm0 := h.mp
 rw [List.map_append, List.map_cons] at hm0
 have h0m : e0 ∈ l1 ++ e0 :: l2 := by simp
 have hb0 : b ∉ fpo e0.A := fun q => (h.low e0 h0m b q).2 rfl
 obtain ⟨w'', hrun, hm, t2⟩ := (hm0.touch ht hb0).put_old key_law Tryz.underlying191 (key_of e0.key hK) (.slice A' (e0.ix.length + 1) c')
 have hbl := h.mp.lt
 have hnew : ∀ a ∈ fpo A', a ≠ b := fun a ha e => by
  rcases hf a ha with q | q
  ·exact hb0 (e ▸ q)
  ·omega
 have hap := h.apart
 rw [List.pairwise_append, List.pairwise_cons] at hap
 have hoth : ∀ e, e ∈ l1 \/ e ∈ l2 -> ∀ a ∈ fpo e.A, a ∉ fpo e0.A := fun e he a ha hm => by
  rcases he with q | q
  ·exact hap.2.2 e q e0 (by simp) a ha hm
  ·exact hap.2.1.1 e q a hm ha
 have hmem : ∀ e, e ∈ l1 \/ e ∈ l2 -> e ∈ l1 ++ e0 :: l2 := fun e he => by rcases he with q | q <;> simp [q]
 have hothn : ∀ e, e ∈ l1 \/ e ∈ l2 -> ∀ a ∈ fpo e.A, a ∉ fpo A' := fun e he a ha hm => by
  rcases hf a hm with q | q
  ·exact hoth e he a ha q
  ·have := (h.own e (hmem e he)).lt a ha; omega
 have hsplit : ∀ e, e ∈ l1 ++ (⟨e0.key, A', c', e0.ix ++ [i]⟩ : EN) :: l2 -> (e ∈ l1 \/ e ∈ l2) \/ e = ⟨e0.key, A', c', e0.ix ++ [i]⟩ := fun e he => by
  rcases List.mem_append.1 he with q | q
  ·exact .inl (.inl q)
  ·rcases List.mem_cons.1 q with q | q
   ·exact .inr q
   ·exact .inl (.inr q)
 refine ⟨w'', hrun, ⟨?_, fun e he => ?_, fun e he a ha => ?_, ?_, h.base⟩, t2⟩
 ·rw [List.map_append, List.map_cons]
  have e : (EN.kv ⟨e0.key, A', c', e0.ix ++ [i]⟩) = (Value.string (S e0.key), Value.slice A' (e0.ix.length + 1) c') := by
   unfold EN.kv; simp
  rw [e]; exact hm
 ·rcases hsplit e he with q | rfl
  ·exact ((h.own e (hmem e q)).touch ht (hoth e q)).touch t2 (fun a ha hm => (h.low e (hmem e q) a ha).2 (by simpa using hm))
  ·exact hown.touch t2 (fun a ha hm => hnew a ha (by simpa using hm))
 ·rcases hsplit e he with q | rfl
  ·exact h.low e (hmem e q) a ha
  ·refine ⟨?_, hnew a ha⟩
   rcases hf a ha with q | q
   ·exact (h.low e0 h0m a q).1
   ·omega
 ·rw [List.pairwise_append, List.pairwise_cons]
  refine ⟨hap.1, ⟨fun f hf' a ha hm => hothn f (.inr hf') a hm ha, hap.2.1.2⟩, fun e he f hf' a ha hm => ?_⟩
  rcases List.mem_cons.1 hf' with rfl | q
  ·exact hothn e (.inl he) a ha hm
  ·exact hap.2.2 e he f (List.mem_cons_of_mem _ q) a ha hm
def selK (okI : Nat -> Bool) (keyI : Nat -> List UInt8) (k : Nat) (K : List UInt8) : List Nat := (List.range k).filter fun i => okI i && decide (keyI i = K)
theorem selK_succ (okI : Nat -> Bool) (keyI : Nat -> List UInt8) (k : Nat) (K : List UInt8) : selK okI keyI (k + 1) K = selK okI keyI k K ++ if (okI k && decide (keyI k = K)) = true then [k] else [] := by
 unfold selK
 rw [List.range_succ, List.filter_append]
 congr 1
 by_cases h : (okI k && decide (keyI k = K)) = true
 ·rw [if_pos h, List.filter_cons, if_pos h]; rfl
 ·rw [if_neg h, List.filter_cons, if_neg h]; rfl
structure IdxIs (okI : Nat -> Bool) (keyI : Nat -> List UInt8) (k : Nat) (es : List EN) : Prop where
 ix : ∀ e ∈ es, e.ix = selK okI keyI k e.key
 all : ∀ i, i < k -> okI i = true -> ∃ e ∈ es, e.key = keyI i
 ne : es.Pairwise fun e f => e.key ≠ f.key
 some : ∀ e ∈ es, e.ix ≠ []
theorem IdxIs.zero (okI : Nat -> Bool) (keyI : Nat -> List UInt8) : IdxIs okI keyI 0 [] := ⟨by simp, fun i h => absurd h (by omega), .nil, by simp⟩
theorem IdxIs.skip {okI : Nat -> Bool} {keyI : Nat -> List UInt8} {k : Nat} {es : List EN} (h : IdxIs okI keyI k es) (hk : okI k = false) : IdxIs okI keyI (k + 1) es :=
 ⟨fun e he => by rw [selK_succ, hk]; simpa using h.ix e he, fun i hi ho => by
  by_cases e : i = k
  ·subst e; rw [hk] at ho; cases ho
  ·exact h.all i (by omega) ho, h.ne, h.some⟩
theorem IdxIs.none_ {okI : Nat -> Bool} {keyI : Nat -> List UInt8} {k : Nat} {es : List EN} (h : IdxIs okI keyI k es) {K : List UInt8} (hn : ∀ e ∈ es, e.key ≠ K) : selK okI keyI k K = [] := by
 unfold selK
 rw [List.filter_eq_nil_iff]
 intro i hi hp
 rw [Bool.and_eq_true_iff] at hp
 obtain ⟨e, he, hk⟩ := h.all i (List.mem_range.1 hi) hp.1
 exact hn e he (hk.trans (of_decide_eq_true hp.2))
theorem IdxIs.put_new {okI : Nat -> Bool} {keyI : Nat -> List UInt8} {k : Nat} {es : List EN} (h : IdxIs okI keyI k es) (hk : okI k = true) (hn : ∀ e ∈ es, e.key ≠ keyI k) (A : Option Addr) (c : Nat) : IdxIs okI keyI (k + 1) (es ++ [⟨keyI k, A, c, [k]⟩]) := by
 refine ⟨fun e he => ?_, fun i hi ho => ?_, ?_, fun e he => by
  rcases List.mem_append.1 he with q | q
  ·exact h.some e q
  ·simp only [List.mem_singleton] at q
   subst q; simp⟩
 ·rw [selK_succ, hk]
  rcases List.mem_append.1 he with q | q
  ·have : ¬ keyI k = e.key := fun z => hn e q z.symm
   simp [this, h.ix e q]
  ·simp only [List.mem_singleton] at q
   subst q
   dsimp only
   rw [h.none_ hn]; simp
 ·by_cases e : i = k
  ·subst e; exact ⟨⟨keyI i, A, c, [i]⟩, by simp, rfl⟩
  ·obtain ⟨x, hx, hy⟩ := h.all i (by omega) ho
   exact ⟨x, by simp [hx], hy⟩
 ·rw [List.pairwise_append]
  refine ⟨h.ne, by simp, fun e he f hf => ?_⟩
  simp only [List.mem_singleton] at hf
  subst hf
  exact hn e he
theorem IdxIs.put_old {okI : Nat -> Bool} {keyI : Nat -> List UInt8} {k : Nat} {l1 l2 : List EN} {e0 : EN} (h : IdxIs okI keyI k (l1 ++ e0 :: l2)) (hk : okI k = true) (he0 : e0.key = keyI k) (A : Option Addr) (c : Nat) : IdxIs okI keyI (k + 1) (l1 ++ ⟨e0.key, A, c, e0.ix ++ [k]⟩ :: l2) := by
 have hne := h.ne
 rw [List.pairwise_append, List.pairwise_cons] at hne
 have hoth : ∀ e, e ∈ l1 \/ e ∈ l2 -> e.key ≠ e0.key := fun e he => by
  rcases he with q | q
  ·exact hne.2.2 e q e0 (by simp)
  ·exact fun z => hne.2.1.1 e q z.symm
 refine ⟨fun e he => ?_, fun i hi ho => ?_, ?_, fun e he => by
  rcases List.mem_append.1 he with q | q
  ·exact h.some e (by simp [q])
  ·rcases List.mem_cons.1 q with rfl | q
   ·simp
   ·exact h.some e (by simp [q])⟩
 ·rw [selK_succ, hk]
  have hcase : (e ∈ l1 \/ e ∈ l2) \/ e = ⟨e0.key, A, c, e0.ix ++ [k]⟩ := by
   rcases List.mem_append.1 he with q | q
   ·exact .inl (.inl q)
   ·rcases List.mem_cons.1 q with q | q
    ·exact .inr q
    ·exact .inl (.inr q)
  rcases hcase with q | rfl
  ·have h1 : ¬ keyI k = e.key := fun z => hoth e q (z.symm.trans he0.symm)
   have h2 : e ∈ l1 ++ e0 :: l2 := by rcases q with q | q <;> simp [q]
   simp [h1, h.ix e h2]
  ·dsimp only
   rw [<- h.ix e0 (by simp), he0]; simp
 ·by_cases e : i = k
  ·subst e; exact ⟨⟨e0.key, A, c, e0.ix ++ [i]⟩, by simp, he0⟩
  ·obtain ⟨x, hx, hy⟩ := h.all i (by omega) ho
   rcases List.mem_append.1 hx with q | q
   ·exact ⟨x, by simp [q], hy⟩
   ·rcases List.mem_cons.1 q with rfl | q
    ·exact ⟨⟨x.key, A, c, x.ix ++ [k]⟩, by simp, hy⟩
    ·exact ⟨x, by simp [q], hy⟩
 ·rw [List.pairwise_append, List.pairwise_cons]
  refine ⟨hne.1, ⟨fun f hf => hne.2.1.1 f hf, hne.2.1.2⟩, fun e he f hf => ?_⟩
  rcases List.mem_cons.1 hf with rfl | q
  ·exact hne.2.2 e he e0 (by simp)
  ·exact hne.2.2 e he f (List.mem_cons_of_mem _ q)
theorem SlsAt.pick {w : World} {sl : List SL} {rows : List (List VD)} (h : SlsAt w sl rows) (ix : List Nat) (hix : ∀ i ∈ ix, i < rows.length) : SlsAt w (ix.map (slAt sl)) (ix.map fun i => rows.getD i []) := by
 refine ⟨by simp, fun i a b => ?_⟩
 have hi : i < ix.length := by simpa using a
 have h2 := hix _ (List.getElem_mem hi)
 have h1 : ix[i] < sl.length := by rw [h.1]; exact h2
 have := h.2 ix[i] h1 h2
 simp only [List.getElem_map, slAt]
 simpa [h1, h2] using this
theorem selK_lt {okI : Nat -> Bool} {keyI : Nat -> List UInt8} {k : Nat} {K : List UInt8} : ∀ i ∈ selK okI keyI k K, i < k := fun _i hi => List.mem_range.1 (List.mem_filter.1 hi).1
end
end Go.Proofs.YtafoklilkdnepaaGreatDoor
namespace Go.Proofs
open Go.Shelf
def Tryz.lays125_ren : Go.Shelf.Ren := ⟨fun | 125 => 85 | 128 => 124 | 129 => 125 | n => n, fun | 46 => 149 | 3 => 3 | 51 => 182 | 53 => 184 | 4 => 4 | 5 => 5 | 9 => 9 | n => n, fun | n => n⟩
theorem Tryz.lays125 : Go.Proofs.Lays.n125 Tryz.prog Tryz.lays125_ren := {
 mixed := by kernel_rfl
 f125 := Tryz.func85.trans (congrArg some (by kernel_rfl))
 f128 := Tryz.func124.trans (congrArg some (by kernel_rfl))
 f129 := Tryz.func125.trans (congrArg some (by kernel_rfl))
 t3 := Tryz.underlying3
 a3 := Tryz.isAgg3
 z3 := Tryz.sizeOf3
 v3 := Tryz.zeroValue3
 t4 := Tryz.underlying4
 a4 := Tryz.isAgg4
 z4 := Tryz.sizeOf4
 v4 := Tryz.zeroValue4
 t5 := Tryz.underlying5
 a5 := Tryz.isAgg5
 z5 := Tryz.sizeOf5
 v5 := Tryz.zeroValue5
 t9 := Tryz.underlying9
 a9 := Tryz.isAgg9
 z9 := Tryz.sizeOf9
 v9 := Tryz.zeroValue9
 t46 := Tryz.underlying149
 a46 := Tryz.isAgg149
 z46 := Tryz.sizeOf149
 v46 := Tryz.zeroValue149
 t51 := Tryz.underlying182
 a51 := Tryz.isAgg182
 z51 := Tryz.sizeOf182
 v51 := Tryz.zeroValue182
 t53 := Tryz.underlying184
 a53 := Tryz.isAgg184
 z53 := Tryz.sizeOf184
 v53 := Tryz.zeroValue184 }
theorem Tryz.bits_Len (x : Int) (w : World) (h0 : 0 <= x) (h1 : x <= 18446744073709551615) :
  Calls Tryz.prog 85 #[.int .u64 x] w fun e w' => e = .returned (.int .i64 (Lib.bitLen x.toNat)) /\ w' = w := Any.bits_Len Tryz.lays125 x w h0 h1
def Tryz.laysM171_ren : Go.Shelf.Ren := ⟨fun | 171 => 193 | 243 => 207 | 246 => 213 | 283 => 215 | 284 => 216 | 285 => 217 | 286 => 218 | 129 => 125 | 317 => 219 | 318 => 220 | 319 => 221 | 320 => 222 | 337 => 223 | 338 => 224 | n => n, fun | 3 => 3 | 9 => 9 | 2 => 2 | 4 => 4 | 171 => 262 | 0 => 0 | 53 => 184 | 37 => 165 | 5 => 5 | 173 => 264 | 212 => 267 | 51 => 182 | 20 => 20 | 213 => 268 | 46 => 149 | 232 => 269 | 233 => 270 | n => n, fun | 17 => 2 | 18 => 3 | 19 => 4 | n => n⟩
theorem Tryz.laysM171 : Go.Proofs.LaysM.n171 Tryz.prog Tryz.laysM171_ren := {
 mixed := by kernel_rfl
 f129 := Tryz.func125.trans (congrArg some (by kernel_rfl))
 f171 := Tryz.func193.trans (congrArg some (by kernel_rfl))
 f243 := Tryz.func207.trans (congrArg some (by kernel_rfl))
 f246 := Tryz.func213.trans (congrArg some (by kernel_rfl))
 f283 := Tryz.func215.trans (congrArg some (by kernel_rfl))
 f284 := Tryz.func216.trans (congrArg some (by kernel_rfl))
 f285 := Tryz.func217.trans (congrArg some (by kernel_rfl))
 f286 := Tryz.func218.trans (congrArg some (by kernel_rfl))
 f317 := Tryz.func219.trans (congrArg some (by kernel_rfl))
 f318 := Tryz.func220.trans (congrArg some (by kernel_rfl))
 f319 := Tryz.func221.trans (congrArg some (by kernel_rfl))
 f320 := Tryz.func222.trans (congrArg some (by kernel_rfl))
 f337 := Tryz.func223.trans (congrArg some (by kernel_rfl))
 f338 := Tryz.func224.trans (congrArg some (by kernel_rfl))
 t0 := Tryz.underlying0
 a0 := Tryz.isAgg0
 z0 := Tryz.sizeOf0
 v0 := Tryz.zeroValue0
 t2 := Tryz.underlying2
 a2 := Tryz.isAgg2
 z2 := Tryz.sizeOf2
 v2 := Tryz.zeroValue2
 t3 := Tryz.underlying3
 a3 := Tryz.isAgg3
 z3 := Tryz.sizeOf3
 v3 := Tryz.zeroValue3
 t4 := Tryz.underlying4
 a4 := Tryz.isAgg4
 z4 := Tryz.sizeOf4
 v4 := Tryz.zeroValue4
 t5 := Tryz.underlying5
 a5 := Tryz.isAgg5
 z5 := Tryz.sizeOf5
 v5 := Tryz.zeroValue5
 t9 := Tryz.underlying9
 a9 := Tryz.isAgg9
 z9 := Tryz.sizeOf9
 v9 := Tryz.zeroValue9
 t20 := Tryz.underlying20
 a20 := Tryz.isAgg20
 z20 := Tryz.sizeOf20
 v20 := Tryz.zeroValue20
 t37 := Tryz.underlying165
 a37 := Tryz.isAgg165
 z37 := Tryz.sizeOf165
 v37 := Tryz.zeroValue165
 t46 := Tryz.underlying149
 a46 := Tryz.isAgg149
 z46 := Tryz.sizeOf149
 v46 := Tryz.zeroValue149
 t51 := Tryz.underlying182
 a51 := Tryz.isAgg182
 z51 := Tryz.sizeOf182
 v51 := Tryz.zeroValue182
 t53 := Tryz.underlying184
 a53 := Tryz.isAgg184
 z53 := Tryz.sizeOf184
 v53 := Tryz.zeroValue184
 t171 := Tryz.underlying262
 a171 := Tryz.isAgg262
 z171 := Tryz.sizeOf262
 v171 := Tryz.zeroValue262
 t173 := Tryz.underlying264
 a173 := Tryz.isAgg264
 z173 := Tryz.sizeOf264
 v173 := Tryz.zeroValue264
 t212 := Tryz.underlying267
 a212 := Tryz.isAgg267
 z212 := Tryz.sizeOf267
 v212 := Tryz.zeroValue267
 t213 := Tryz.underlying268
 a213 := Tryz.isAgg268
 z213 := Tryz.sizeOf268
 t232 := Tryz.underlying269
 a232 := Tryz.isAgg269
 z232 := Tryz.sizeOf269
 v232 := Tryz.zeroValue269
 t233 := Tryz.underlying270
 a233 := Tryz.isAgg270
 z233 := Tryz.sizeOf270
 v233 := Tryz.zeroValue270
 g17 := by kernel_rfl
 g18 := by kernel_rfl
 g19 := by kernel_rfl
 i0 := by kernel_rfl
 i2 := by kernel_rfl
 i3 := by kernel_rfl
 i4 := by kernel_rfl
 i5 := by kernel_rfl
 i9 := by kernel_rfl
 i20 := by kernel_rfl
 i37 := by kernel_rfl
 i46 := by kernel_rfl
 i51 := by kernel_rfl
 i53 := by kernel_rfl
 i171 := by kernel_rfl
 i173 := by kernel_rfl
 i212 := by kernel_rfl
 i232 := by kernel_rfl
 i233 := by kernel_rfl
 m17 := by kernel_rfl
 m18 := by kernel_rfl
 m19 := by kernel_rfl }
open Go.RowKit Go.Sort Go.Lib in
theorem Tryz.strconv_Itoa (n : Int) (h0 : -9223372036854775808 <= n) (h1 : n <= 9223372036854775807) (w : World) (htab : Lib.TabIs Tryz.prog w "internal/strconv.uint64pow10" .u64 Lib.pow10Tab) :
  Calls Tryz.prog 193 #[.int .i64 n] w fun e w' => e = .returned (.string ⟨(Lib.itoa n).toArray⟩) /\ ∃ k os, w' = grow (w.drewN k) os := Any.strconv_Itoa Tryz.laysM171 n h0 h1 w htab
end Go.Proofs
namespace Go.Proofs.YtafoklilkdnepaaGreatDoor
end Go.Proofs.YtafoklilkdnepaaGreatDoor
