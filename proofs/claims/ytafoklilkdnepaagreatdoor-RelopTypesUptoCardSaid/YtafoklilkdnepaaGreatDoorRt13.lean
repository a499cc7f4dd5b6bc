/- Part 13 of the texts of this proof, one behind the other; each begins with its own sentence. No condition beyond those that its theorems state. -/
import Derived.Test.YtafoklilkdnepaaGreatDoorRt12
import Derived.Deep.RegionHeld3
/- table.copied, table.Table.Copy, table.Make: tables in new memory. For every rows. -/
namespace Go.Proofs.YtafoklilkdnepaaGreatDoor
open Go.RowKit

theorem lt_of_block {w : World} {g : Nat} {o : Obj} (h : w.heap[g]? = some o) : g < w.heap.size := (Array.getElem?_eq_some_iff.1 h).1
/-- rows that are not too long -/
def RowsLe (rows : List (List VD)) : Prop := ∀ r ∈ rows, r.length ≤ 1000000

set_option maxRecDepth 20000 in
set_option maxHeartbeats 3200000 in
theorem copied_any (A : Option Addr) (c n : Nat) (rows : List (List VD)) (hn : rows.length = n) (hl : n ≤ 1000000) (hr : RowsLe rows) (w : World) (h : RowsAt w A rows) :
    Calls Tryz.prog 88 #[.slice A n c] w fun e w' => ∃ B c', e = .returned (.slice B n c') ∧ OwnR 33 w.heap.size w' B c' rows ∧ Touch [] w w' ∧ ∀ b ∈ fpo B, w.heap.size ≤ b := by
  subst hn
  have HR := Lib.hid h
  clear h
  go_enter Tryz.func88, Tryz.ntmps88
  go_wp2_with fail
  go_loopw [3, 8] (fun o i wr => ∃ (k : Nat) (B : Option Addr) (c2 : Nat), k ≤ rows.length ∧ i = .int .i64 k ∧ o = .slice B k c2 ∧ Hid (OwnR 33 w.heap.size wr B c2 (rows.take k)) ∧ Hid (Touch [] w wr) ∧ Hid (∀ b ∈ fpo B, w.heap.size ≤ b)) (fun _ i _ => rows.length - (intOf i).toNat)
  case atStart => exact ⟨0, none, 0, by omega, rfl, rfl, Lib.hid (OwnR.nil _ _ _), Lib.hid (Touch.refl _ _), Lib.hid (by simp [fpo])⟩
  case round =>
    obtain ⟨k, B, c2, hk, rfl, rfl, HO, HT, HF⟩ := hrel
    by_cases hlt : k < rows.length
    · obtain ⟨bd, A1, c1, rfl, e0, hr1⟩ := (HR.out.touch0 HT.out).at_ k hlt
      have hl1 := hr _ (List.getElem_mem hlt)
      have htk := List.take_succ_eq_append_getElem hlt
      obtain ⟨r, hre⟩ : ∃ r, r = rows[k] := ⟨_, rfl⟩
      rw [← hre] at e0 hr1 hl1 htk
      have Hc := Lib.hid (cloneV_any A1 c1 r.length r rfl hl1 wr hr1)
      have Htk := Lib.hid htk
      have hkn : (k : Int) < (rows.length : Int) := by omega
      clear hre htk hr1
      go_wp2_with fail
      refine Hc.out.mono ?_
      rintro e w1 ⟨A2, c3, rfl, hm⟩
      have HM := Lib.hid hm
      clear hm Hc
      go_wp2_with (at_builtin; refine stop ?_)
      refine go ?_
      have hB := HO.out.lt
      have hsz := HM.out.t.size
      refine wpList_appR rfl (.tmp 12) (.tmp 15) 25 rfl 33 info_r5 Tryz.underlying25 w.heap.size B k c2 (rows.take k) (by rw [List.length_take]; omega) rfl (HO.out.touch0 HM.out.t) A2 c3 r HM.out.own.rd
        (fun b hb => ⟨fun q => by have := hB b q; have := HM.out.f b hb; omega, HM.out.own.lt b hb, by have := HM.out.f b hb; have := HT.out.size; omega⟩) 1 rfl (by omega) rfl ?_
      intro B' c' w' hown ht hf
      have HX := Lib.hid (And.intro hown (And.intro ht hf))
      clear hown ht hf
      go_wp2_with fail
      go_roundw
      case rel =>
        obtain ⟨hown, ht, hf⟩ := HX.out
        refine ⟨k + 1, B', c', by omega, by go_num, rfl, Lib.hid (by rw [Htk.out]; exact hown), Lib.hid (((HT.out.trans0 HM.out.t).alloc _).trans ht (fun b hb => .inr (HF.out b hb))), Lib.hid (fun b hb => ?_)⟩
        rcases hf b hb with q | q
        · exact HF.out b q
        · have := HT.out.size; omega
      case measure => simp [intOf]; omega
    · obtain rfl : k = rows.length := by omega
      have HO2 : Hid (OwnR 33 w.heap.size wr B c2 rows) := Lib.hid (by have := HO.out; rwa [List.take_length] at this)
      clear HO
      go_wp2
      go_ret
      exact ⟨B, c2, rfl, HO2.out, HT.out, HF.out⟩

/-- a table of the calls' own: what is new behind base -/
structure NewTab (base : Nat) (w : World) (s r : SL) (cs : List CD) (rows : List (List VD)) : Prop where
  n : s.n = cs.length
  le : s.n ≤ s.c
  cols : ColsAt w s.A cs
  cf : ∀ b ∈ fpo s.A, base ≤ b ∧ b < w.heap.size
  m : r.n = rows.length
  rws : OwnR 33 base w r.A r.c rows
  rf : ∀ b ∈ fpo r.A, base ≤ b
  apart : ∀ b ∈ fpo s.A, b ∉ fpo r.A
theorem NewTab.tab {base : Nat} {w : World} {s r : SL} {cs : List CD} {rows : List (List VD)} (h : NewTab base w s r cs rows) : TabAt w s r cs rows := ⟨h.n, h.le, h.cols, h.m, h.rws.rowsAt⟩
theorem NewTab.touch0 {base : Nat} {w w' : World} {s r : SL} {cs : List CD} {rows : List (List VD)} (h : NewTab base w s r cs rows) (ht : Touch [] w w') : NewTab base w' s r cs rows :=
  ⟨h.n, h.le, h.cols.touch0 ht, fun b hb => ⟨(h.cf b hb).1, Nat.lt_of_lt_of_le (h.cf b hb).2 ht.size⟩, h.m, h.rws.touch0 ht, h.rf, h.apart⟩
theorem OwnR.base {t base base' : Nat} {w : World} {B : Option Addr} {c : Nat} {rows : List (List VD)} (h : OwnR t base w B c rows) (hb : base' ≤ base) : OwnR t base' w B c rows := by
  obtain ⟨sl, h1, h2, h3⟩ := h
  exact ⟨sl, h1, h2, fun s hs b q => ⟨(h3 s hs b q).1, (h3 s hs b q).2.1, Nat.le_trans hb (h3 s hs b q).2.2⟩⟩
theorem NewTab.base {base base' : Nat} {w : World} {s r : SL} {cs : List CD} {rows : List (List VD)} (h : NewTab base w s r cs rows) (hb : base' ≤ base) : NewTab base' w s r cs rows :=
  ⟨h.n, h.le, h.cols, fun b q => ⟨Nat.le_trans hb (h.cf b q).1, (h.cf b q).2⟩, h.m, h.rws.base hb, fun b q => Nat.le_trans hb (h.rf b q), h.apart⟩

set_option maxRecDepth 20000 in
set_option maxHeartbeats 3200000 in
/-- table.Table.Copy -/
theorem copy_any (s r : SL) (cs : List CD) (rows : List (List VD)) (hn : cs.length ≤ 1000000) (hl : rows.length ≤ 1000000) (hr : RowsLe rows) (w : World) (h : TabAt w s r cs rows) :
    Calls Tryz.prog 63 #[.agg #[.slice s.A s.n s.c, .slice r.A r.n r.c]] w fun e w' => ∃ s' r' : SL, e = .returned (.agg #[.slice s'.A s'.n s'.c, .slice r'.A r'.n r'.c]) ∧ NewTab w.heap.size w' s' r' cs rows ∧ Touch [] w w' := by
  obtain ⟨SA, sn, sc⟩ := s
  obtain ⟨RA, rn, rc⟩ := r
  obtain ⟨h1, h2, h3, h4, h5⟩ := h
  dsimp only at *
  obtain ⟨W, hW⟩ : ∃ W, W = ((w.alloc (.cells #[.slice SA sn sc, .slice RA rn rc] 27)).alloc (.cells #[.slice none 0 0, .slice none 0 0] 27)) := ⟨_, rfl⟩
  have t0 : Touch [] w W := hW ▸ ((Touch.refl [] w).alloc (.cells #[.slice SA sn sc, .slice RA rn rc] 27)).alloc (.cells #[.slice none 0 0, .slice none 0 0] 27)
  have hp0 : W.heap[w.heap.size]? = some (.cells #[.slice SA sn sc, .slice RA rn rc] 27 (0, 0)) := hW ▸ ((Touch.refl [] (w.alloc (.cells #[.slice SA sn sc, .slice RA rn rc] 27))).alloc (.cells #[.slice none 0 0, .slice none 0 0] 27)).blk (heap_alloc_new w _) (by simp)
  have hr0 : W.heap[w.heap.size + 1]? = some (.cells #[.slice none 0 0, .slice none 0 0] 27 (0, 0)) := by
    have := heap_alloc_new (w.alloc (.cells #[.slice SA sn sc, .slice RA rn rc] 27)) (.cells #[.slice none 0 0, .slice none 0 0] 27)
    rw [World.size_alloc] at this
    rw [hW]; exact this
  have HW := Lib.hid hW
  have Hc1 := Lib.hid fun w' (t : Touch [] W w') => cloneC_any SA sc sn cs h1.symm (by omega) w' (h3.touch0 (t0.trans0 t))
  have Hc2 := Lib.hid fun w' (t : Touch [] W w') => copied_any RA rc rn rows h4.symm (by omega) hr w' (h5.touch0 (t0.trans0 t))
  obtain ⟨c0, c1, _, _⟩ := blk2 hp0
  have c0d := ((Touch.refl [] W).drew).cell c0 (by simp)
  have c1d := ((Touch.refl [] W).drew).cell c1 (by simp)
  have H0 := Lib.hid (And.intro t0 (And.intro hr0 (And.intro c0 c1)))
  have Hn := Lib.hid (And.intro h1 (And.intro h2 h4))
  clear hW h3 h5 t0 hr0 h1 h2 h4 hn hl hp0 c0 c1
  go_enter Tryz.func63, Tryz.ntmps63
  go_wp2_with fail
  rw [← HW.out]
  go_region_held3 (fun w' => w'.cell? ⟨w.heap.size, 0, none⟩ = some (.slice SA sn sc) ∧ w'.cell? ⟨w.heap.size, 1, none⟩ = some (.slice RA rn rc)) (first | exact ⟨c0d, c1d⟩ | exact ⟨d0, d1⟩ | exact ⟨f0, f1⟩ | exact ⟨(touch2 _ _ _ _).cell f0 (by simp), (touch2 _ _ _ _).cell f1 (by simp)⟩) (first
    | (go_at_call 67; refine (Hc1.out _ (Touch.refl _ _).drew).mono ?_; rintro e w1 ⟨A1, k1, rfl, m1⟩; have M1 := Lib.hid m1; have d0 := M1.out.t.cell c0d (by simp); have d1 := M1.out.t.cell c1d (by simp); clear m1)
    | (go_at_call 88; refine (Hc2.out _ ((Touch.refl _ _).drew.trans0 M1.out.t)).mono ?_; rintro e w2 ⟨B2, k2, rfl, o2, t2, f2⟩; have M2 := Lib.hid (And.intro o2 (And.intro t2 f2)); have f0 := t2.cell d0 (by simp); have f1 := t2.cell d1 (by simp); have hr2 := t2.blk (M1.out.t.blk ((Touch.refl [] W).drew.blk H0.out.2.1 (by simp)) (by simp)) (by simp); obtain ⟨z0, z1, y0, y1⟩ := blk2 hr2; clear o2 t2 f2))
  go_wp2_with fail
  obtain ⟨o2, t2, f2⟩ := M2.out
  obtain ⟨ht0, hr0, _, _⟩ := H0.out
  obtain ⟨h1, h2, h4⟩ := Hn.out
  have hWs : W.heap.size = w.heap.size + 2 := by rw [HW.out]; simp
  have hd := (Touch.refl [] W).drew
  have s1 := M1.out.t.size
  have s2 := t2.size
  have s0 := hd.size
  have hr2 := t2.blk (M1.out.t.blk (hd.blk hr0 (by simp)) (by simp)) (by simp)
  have tq := touch2 w2 (w.heap.size + 1) (.slice A1 sn k1) (.slice B2 rn k2)
  have s3 := tq.size
  have hle := M1.out.own.le
  refine bodyPost_ret (results_cell_row rfl _ _ (w.heap.size + 1) _ _ _ _ rfl (set2 hr2 rfl _ _) Tryz.underlying27 rfl rfl) rfl ⟨⟨A1, sn, k1⟩, ⟨B2, rn, k2⟩, rfl, ⟨h1, by dsimp only; omega, RdK.touch (RdK.touch0 M1.out.own.rd t2) tq (fun b hb hm => ?_), fun b hb => ⟨?_, ?_⟩, h4, ?_, fun b hb => ?_, fun b hb hm => ?_⟩, ?_⟩
  · have := M1.out.f b hb; simp at hm; omega
  · have := M1.out.f b hb; omega
  · have := M1.out.own.lt b hb; omega
  · exact (o2.touch tq (fun b hb => by simp at hb; omega) (fun b hb => f2 b hb)).base (by omega)
  · have := f2 b hb; omega
  · have := M1.out.own.lt b hb; have := f2 b hm; omega
  · exact (((ht0.trans0 hd).trans0 M1.out.t).trans0 t2).trans tq (fun b hb => .inr (by simp at hb; omega))

set_option maxRecDepth 20000 in
set_option maxHeartbeats 3200000 in
/-- table.Make of what does not fit -/
theorem make_no (SA : Option Addr) (cap n : Nat) (cs : List CD) (hn : cs.length = n) (hok : ∀ c ∈ cs, c.Ok) (A : Option Addr) (c m : Nat) (rows : List (List VD)) (hm : rows.length = m) (hvk : RowsOk rows) (w : World)
    (h : ColsAt w SA cs) (hv : RowsAt w A rows) (hl : n ≤ 140737000000000) (hl2 : m ≤ 140737000000000) (he : fitV cs rows ≠ 0) :
    Calls Tryz.prog 66 #[.slice SA n cap, .slice A m c] w fun e w' => e = .returned (.tuple #[.agg #[.slice none 0 0, .slice none 0 0], .int .i64 (fitV cs rows)]) ∧ Touch [] w w' := by
  have t0 := (Touch.refl [] w).alloc (.cells #[.slice none 0 0, .slice none 0 0] 27)
  have hr := heap_alloc_new w (.cells #[.slice none 0 0, .slice none 0 0] 27)
  have Hf := Lib.hid (fit_any SA cap n cs hn hok A c m rows hm hvk _ (h.touch0 t0) (hv.touch0 t0) hl hl2)
  have HR := Lib.hid (And.intro t0 hr)
  obtain ⟨k, hk⟩ : ∃ k, k = fitV cs rows := ⟨_, rfl⟩
  rw [← hk] at Hf he ⊢
  have hq : (k == 0) = false := by rw [beq_eq_false_iff_ne]; exact he
  have hq' : (k != 0) = true := by rw [bne, hq]; rfl
  clear t0 hr hk h hv
  go_enter Tryz.func66, Tryz.ntmps66
  go_wp2_with fail
  refine Hf.out.mono ?_
  rintro e w1 ⟨rfl, t1⟩
  have hr1 := t1.blk HR.out.2 (by simp)
  obtain ⟨z0, z1, y0, y1⟩ := blk2 hr1
  have HT := Lib.hid (And.intro (HR.out.1.trans0 t1) hr1)
  clear hr1 t1
  go_wp2_with fail
  refine bodyPost_ret (results_cell_two rfl _ _ w.heap.size _ _ _ _ rfl (set2 HT.out.2 rfl _ _) Tryz.underlying27 rfl rfl) rfl ⟨rfl, HT.out.1.trans (touch2 _ _ _ _) (fun b hb => .inr (by simp at hb; omega))⟩

theorem fitV_zero {cs : List CD} {rows : List (List VD)} (h : fitV cs rows = 0) : checkV cs = 0 ∧ rows.length ≤ 4096 ∧ rows.all (fitR cs) = true := by
  unfold fitV at h
  by_cases h1 : checkV cs = 0
  · rw [if_pos h1] at h
    by_cases h2 : 4096 < rows.length
    · rw [if_pos h2] at h; cases h
    · rw [if_neg h2] at h
      by_cases h3 : rows.all (fitR cs) = true
      · exact ⟨h1, by omega, h3⟩
      · rw [if_neg h3] at h; cases h
  · rw [if_neg h1] at h; exact absurd h h1
theorem checkV_16 {cs : List CD} (h : checkV cs = 0) : 1 ≤ cs.length ∧ cs.length ≤ 16 := by
  unfold checkV at h
  by_cases h1 : cs.length < 1 ∨ 16 < cs.length
  · rw [if_pos h1] at h; cases h
  · omega

set_option maxRecDepth 20000 in
set_option maxHeartbeats 3200000 in
/-- table.Make of what fits: the rows in their order -/
theorem make_yes (SA : Option Addr) (cap n : Nat) (cs : List CD) (hn : cs.length = n) (hcap : n ≤ cap) (hok : ∀ c ∈ cs, c.Ok) (A : Option Addr) (c m : Nat) (rows : List (List VD)) (hm : rows.length = m) (hvk : RowsOk rows) (hle : RowsLe rows) (w : World)
    (h : ColsAt w SA cs) (hv : RowsAt w A rows) (hl : n ≤ 140737000000000) (hl2 : m ≤ 140737000000000) (he : fitV cs rows = 0) :
    Calls Tryz.prog 66 #[.slice SA n cap, .slice A m c] w fun e w' => ∃ (s r : SL) (out : List (List VD)), e = .returned (.tuple #[.agg #[.slice s.A s.n s.c, .slice r.A r.n r.c], .int .i64 0]) ∧ NewTab w.heap.size w' s r cs out ∧ SortedOf rows out ∧ Touch [] w w' := by
  have t0 := (Touch.refl [] w).alloc (.cells #[.slice none 0 0, .slice none 0 0] 27)
  have hr := heap_alloc_new w (.cells #[.slice none 0 0, .slice none 0 0] 27)
  have hf := fit_any SA cap n cs hn hok A c m rows hm hvk _ (h.touch0 t0) (hv.touch0 t0) hl hl2
  obtain ⟨hc0, h4, _⟩ := fitV_zero he
  have h16 := checkV_16 hc0
  rw [he] at hf
  have Hf := Lib.hid hf
  have Hcp := Lib.hid fun w' (t : Touch [] w w') => copy_any ⟨SA, n, cap⟩ ⟨A, m, c⟩ cs rows (by omega) (by omega) hle w' (⟨hn.symm, hcap, h.touch0 t, hm.symm, hv.touch0 t⟩ : TabAt w' ⟨SA, n, cap⟩ ⟨A, m, c⟩ cs rows)
  have HR := Lib.hid (And.intro t0 hr)
  have HV := Lib.hid (And.intro hvk h4)
  clear t0 hr h hv hf hvk hle hc0 h4 h16 hok
  go_enter Tryz.func66, Tryz.ntmps66
  go_wp2_with fail
  refine Hf.out.mono ?_
  rintro e w1 ⟨rfl, t1⟩
  have HT := Lib.hid (And.intro (HR.out.1.trans0 t1) (t1.blk HR.out.2 (by simp)))
  clear t1
  go_wp2_with fail
  refine (Hcp.out _ HT.out.1).mono ?_
  rintro e w2 ⟨s2, r2, rfl, hn2, t2⟩
  obtain ⟨sA, sn, sc⟩ := s2
  obtain ⟨rA, rn, rc⟩ := r2
  have ta := (Touch.refl [] w2).alloc (.cells #[.slice sA sn sc, .slice rA rn rc] 27)
  have hb2 := heap_alloc_new w2 (.cells #[.slice sA sn sc, .slice rA rn rc] 27)
  have hr2 := ta.blk (t2.blk HT.out.2 (by simp)) (by simp)
  have hm2 := hn2.m
  have hs := sortRows_any rA rc rn rows hm2.symm (by have := HV.out.2; dsimp only at hm2; omega) HV.out.1 w1.heap.size _ (hn2.rws.touch0 ta)
  have Hs := Lib.hid hs
  have H2 := Lib.hid (And.intro hn2 (And.intro t2 (And.intro ta (And.intro hb2 hr2))))
  clear hn2 t2 ta hb2 hr2 hm2 hs
  go_wp2_with fail
  refine Hs.out.mono ?_
  rintro e w3 ⟨rfl, out, hsort, hown3, t3⟩
  obtain ⟨hn2, t2, ta, hb2, hr2⟩ := H2.out
  have hw1 := lt_of_block HT.out.2
  have hnA : w.heap.size ∉ fpo rA := fun q => by have := hn2.rf _ q; omega
  have hnB : w2.heap.size ∉ fpo rA := fun q => by have := hn2.rws.lt _ q; omega
  have hb3 := t3.blk hb2 hnB
  have hr3 := t3.blk hr2 hnA
  obtain ⟨x0, x1, _, _⟩ := blk2 hb3
  obtain ⟨z0, z1, y0, y1⟩ := blk2 hr3
  have H3 := Lib.hid (And.intro hsort (And.intro hown3 (And.intro t3 hr3)))
  clear hsort hown3 t3 hr3 hb3 hnA hnB hn2 t2 ta hb2 hr2
  go_wp2_with fail
  obtain ⟨hsort, hown3, t3, hr3⟩ := H3.out
  obtain ⟨hn2, t2, ta, hb2, hr2⟩ := H2.out
  have tq := touch2 w3 w.heap.size (.slice sA sn sc) (.slice rA rn rc)
  have s2 := t2.size
  have s3 := ta.size
  have s4 := t3.size
  have s5 := tq.size
  have hlen := hsort.1.length_eq
  have T3 : Touch [] w w3 := ((HT.out.1.trans0 t2).trans0 ta).trans t3 (fun b hb => .inr (by have := hn2.rf b hb; omega))
  refine bodyPost_ret (results_cell_two rfl _ _ w.heap.size _ _ _ _ rfl (set2 hr3 rfl _ _) Tryz.underlying27 rfl rfl) rfl ⟨⟨sA, sn, sc⟩, ⟨rA, rn, rc⟩, out, rfl, ⟨hn2.n, hn2.le, ?_, fun b hb => ⟨?_, ?_⟩, ?_, ?_, fun b hb => ?_, hn2.apart⟩, hsort, T3.trans tq (fun b hb => .inr (by simp at hb; omega))⟩
  · exact RdK.touch (RdK.touch (RdK.touch0 hn2.cols ta) t3 (fun b hb => hn2.apart b hb)) tq (fun b hb hm => by simp at hm; have := (hn2.cf b hb).1; omega)
  · have := (hn2.cf b hb).1; omega
  · have := (hn2.cf b hb).2; omega
  · have := hn2.m; omega
  · exact (hown3.touch tq (fun b hb => by simp at hb; omega) (fun b hb => hn2.rf b hb)).base (by omega)
  · have := hn2.rf b hb; omega
end Go.Proofs.YtafoklilkdnepaaGreatDoor

/- A map of the calls' own from keys to rows: memory, and what it says. No program's function. -/
namespace Go.Proofs.YtafoklilkdnepaaGreatDoor
open Go.RowKit Go.Maps Go.ChangeMaps

/-- one key's rows, by their places -/
structure EN where
  key : List UInt8
  A : Option Addr
  c : Nat
  ix : List Nat
def EN.kv (e : EN) : Value × Value := (.string (S e.key), .slice e.A e.ix.length e.c)
def slAt (sl : List SL) (i : Nat) : SL := sl.getD i ⟨none, 0, 0⟩
/-- block b is a map from keys to rows of the calls' own -/
structure IdxAt (sl : List SL) (g0 : Nat) (w : World) (b : Nat) (es : List EN) : Prop where
  mp : MapAt Tryz.prog 193 w b (es.map EN.kv)
  own : ∀ e ∈ es, OwnK 33 1 slE w e.A e.c (e.ix.map (slAt sl))
  low : ∀ e ∈ es, ∀ a ∈ fpo e.A, g0 ≤ a ∧ a ≠ b
  apart : es.Pairwise fun e f => ∀ a ∈ fpo e.A, a ∉ fpo f.A
  base : g0 ≤ b
theorem key_law : Keyed Tryz.prog 193 := string_keyed Tryz.underlying193
theorem key_of (l : List UInt8) (h : l.length ≤ 1000000000) : keyOf Tryz.prog 193 (.string (S l)) = some (.string (S l).data.toList) :=
  Go.WideMaps.keyOf_string_mk Tryz.underlying193 (s := S l) (by rw [S_size]; unfold maxLen; omega)
theorem IdxAt.touch0 {sl : List SL} {g0 : Nat} {w w' : World} {b : Nat} {es : List EN} (h : IdxAt sl g0 w b es) (ht : Touch [] w w') : IdxAt sl g0 w' b es :=
  ⟨h.mp.touch ht (by simp), fun e he => (h.own e he).touch0 ht, h.low, h.apart, h.base⟩
theorem IdxAt.made (sl : List SL) (w : World) : IdxAt sl w.heap.size (w.alloc (.map #[] 0)) w.heap.size [] :=
  ⟨MapAt.made _, by simp, by simp, .nil, Nat.le_refl _⟩
theorem kv_ne {es : List EN} {K : List UInt8} (h : ∀ e ∈ es, e.key ≠ K) : ∀ p ∈ es.map EN.kv, p.1 ≠ Value.string (S K) := by
  intro p hp e
  obtain ⟨x, hx, rfl⟩ := List.mem_map.1 hp
  have e : Value.string (S x.key) = Value.string (S K) := e
  exact h x hx (S_inj (by injection e))
theorem zeroRows (w : World) : (zeroValue 25).run Tryz.prog w = .ok (.slice none 0 0) w := by kernel_rfl
/-- nothing stands under a key -/
theorem IdxAt.miss {sl : List SL} {g0 : Nat} {w : World} {b : Nat} {es : List EN} (h : IdxAt sl g0 w b es) (K : List UInt8) (hK : K.length ≤ 1000000000) (hn : ∀ e ∈ es, e.key ≠ K) (c : Bool) :
    (Instr.lookup 191 (.map (some b)) (.string (S K)) c).run Tryz.prog w = .ok (if c then .tuple #[.slice none 0 0, .bool false] else .slice none 0 0) w :=
  h.mp.miss key_law Tryz.underlying191 (key_of K hK) (kv_ne hn) (.slice none 0 0) (zeroRows w) c
theorem IdxAt.hit {sl : List SL} {g0 : Nat} {w : World} {b : Nat} {es : List EN} (h : IdxAt sl g0 w b es) (e : EN) (he : e ∈ es) (hK : e.key.length ≤ 1000000000) (c : Bool) :
    (Instr.lookup 191 (.map (some b)) (.string (S e.key)) c).run Tryz.prog w = .ok (if c then .tuple #[.slice e.A e.ix.length e.c, .bool true] else .slice e.A e.ix.length e.c) w :=
  h.mp.hit key_law Tryz.underlying191 (key_of e.key hK) (List.mem_map.2 ⟨e, he, rfl⟩) c
theorem touch_b {w w' : World} {b _g0 : Nat} (ht : Touch [b] w w') : ∀ x, x ≠ b → ∀ {o : Obj}, w.heap[x]? = some o → w'.heap[x]? = some o := fun x hx o ho => ht.blk ho (by simp [hx])
/-- the first row of a key -/
theorem IdxAt.put_new {sl : List SL} {g0 : Nat} {w w' : World} {b : Nat} {es : List EN} (h : IdxAt sl g0 w b es) (K : List UInt8) (hK : K.length ≤ 1000000000) (hn : ∀ e ∈ es, e.key ≠ K) (i : Nat) (A' : Option Addr) (c' : Nat)
    (hown : OwnK 33 1 slE w' A' c' [slAt sl i]) (ht : Touch [] w w') (hf : ∀ a ∈ fpo A', w.heap.size ≤ a) (hg : g0 ≤ w.heap.size) :
    ∃ w'', (Instr.mapUpdate 191 (.map (some b)) (.string (S K)) (.slice A' 1 c')).run Tryz.prog w' = .ok () w'' ∧ IdxAt sl g0 w'' b (es ++ [⟨K, A', c', [i]⟩]) ∧ Touch [b] w' w'' := by
  obtain ⟨w'', hrun, hm, t2⟩ := (h.mp.touch ht (by simp)).put_new key_law Tryz.underlying191 (key_of K hK) (kv_ne hn) (.slice A' 1 c')
  have hbl := h.mp.lt
  have hnew : ∀ a ∈ fpo A', a ≠ b := fun a ha e => by have := hf a ha; omega
  refine ⟨w'', hrun, ⟨by rw [List.map_append]; exact hm, fun e he => ?_, fun e he a ha => ?_, ?_, h.base⟩, t2⟩
  · rcases List.mem_append.1 he with q | q
    · exact ((h.own e q).touch0 ht).touch t2 (fun a ha hm => (h.low e q a ha).2 (by simpa using hm))
    · simp only [List.mem_singleton] at q
      subst q
      exact hown.touch t2 (fun a ha hm => hnew a ha (by simpa using hm))
  · rcases List.mem_append.1 he with q | q
    · exact h.low e q a ha
    · simp only [List.mem_singleton] at q
      subst q
      exact ⟨by have := hf a ha; omega, hnew a ha⟩
  · rw [List.pairwise_append]
    refine ⟨h.apart, by simp, fun e he f hf' a ha hm => ?_⟩
    simp only [List.mem_singleton] at hf'
    subst hf'
    have := (h.own e he).lt a ha
    have := hf a hm
    omega
/-- one more row of a key -/
theorem IdxAt.put_old {sl : List SL} {g0 : Nat} {w w' : World} {b : Nat} {l1 l2 : List EN} {e0 : EN} (h : IdxAt sl g0 w b (l1 ++ e0 :: l2)) (hK : e0.key.length ≤ 1000000000) (i : Nat) (A' : Option Addr) (c' : Nat)
    (hown : OwnK 33 1 slE w' A' c' ((e0.ix ++ [i]).map (slAt sl))) (ht : Touch (fpo e0.A) w w') (hf : ∀ a ∈ fpo A', a ∈ fpo e0.A ∨ w.heap.size ≤ a) (hg : g0 ≤ w.heap.size) :
    ∃ w'', (Instr.mapUpdate 191 (.map (some b)) (.string (S e0.key)) (.slice A' (e0.ix.length + 1) c')).run Tryz.prog w' = .ok () w'' ∧ IdxAt sl g0 w'' b (l1 ++ ⟨e0.key, A', c', e0.ix ++ [i]⟩ :: l2) ∧ Touch [b] w' w'' := by
  have hm0 := h.mp
  rw [List.map_append, List.map_cons] at hm0
  have h0m : e0 ∈ l1 ++ e0 :: l2 := by simp
  have hb0 : b ∉ fpo e0.A := fun q => (h.low e0 h0m b q).2 rfl
  obtain ⟨w'', hrun, hm, t2⟩ := (hm0.touch ht hb0).put_old key_law Tryz.underlying191 (key_of e0.key hK) (.slice A' (e0.ix.length + 1) c')
  have hbl := h.mp.lt
  have hnew : ∀ a ∈ fpo A', a ≠ b := fun a ha e => by
    rcases hf a ha with q | q
    · exact hb0 (e ▸ q)
    · omega
  have hap := h.apart
  rw [List.pairwise_append, List.pairwise_cons] at hap
  have hoth : ∀ e, e ∈ l1 ∨ e ∈ l2 → ∀ a ∈ fpo e.A, a ∉ fpo e0.A := fun e he a ha hm => by
    rcases he with q | q
    · exact hap.2.2 e q e0 (by simp) a ha hm
    · exact hap.2.1.1 e q a hm ha
  have hmem : ∀ e, e ∈ l1 ∨ e ∈ l2 → e ∈ l1 ++ e0 :: l2 := fun e he => by rcases he with q | q <;> simp [q]
  have hothn : ∀ e, e ∈ l1 ∨ e ∈ l2 → ∀ a ∈ fpo e.A, a ∉ fpo A' := fun e he a ha hm => by
    rcases hf a hm with q | q
    · exact hoth e he a ha q
    · have := (h.own e (hmem e he)).lt a ha; omega
  have hsplit : ∀ e, e ∈ l1 ++ (⟨e0.key, A', c', e0.ix ++ [i]⟩ : EN) :: l2 → (e ∈ l1 ∨ e ∈ l2) ∨ e = ⟨e0.key, A', c', e0.ix ++ [i]⟩ := fun e he => by
    rcases List.mem_append.1 he with q | q
    · exact .inl (.inl q)
    · rcases List.mem_cons.1 q with q | q
      · exact .inr q
      · exact .inl (.inr q)
  refine ⟨w'', hrun, ⟨?_, fun e he => ?_, fun e he a ha => ?_, ?_, h.base⟩, t2⟩
  · rw [List.map_append, List.map_cons]
    have e : (EN.kv ⟨e0.key, A', c', e0.ix ++ [i]⟩) = (Value.string (S e0.key), Value.slice A' (e0.ix.length + 1) c') := by
      unfold EN.kv; simp
    rw [e]; exact hm
  · rcases hsplit e he with q | rfl
    · exact ((h.own e (hmem e q)).touch ht (hoth e q)).touch t2 (fun a ha hm => (h.low e (hmem e q) a ha).2 (by simpa using hm))
    · exact hown.touch t2 (fun a ha hm => hnew a ha (by simpa using hm))
  · rcases hsplit e he with q | rfl
    · exact h.low e (hmem e q) a ha
    · refine ⟨?_, hnew a ha⟩
      rcases hf a ha with q | q
      · exact (h.low e0 h0m a q).1
      · omega
  · rw [List.pairwise_append, List.pairwise_cons]
    refine ⟨hap.1, ⟨fun f hf' a ha hm => hothn f (.inr hf') a hm ha, hap.2.1.2⟩, fun e he f hf' a ha hm => ?_⟩
    rcases List.mem_cons.1 hf' with rfl | q
    · exact hothn e (.inl he) a ha hm
    · exact hap.2.2 e he f (List.mem_cons_of_mem _ q) a ha hm

/-- the places of a key, as far as k -/
def selK (okI : Nat → Bool) (keyI : Nat → List UInt8) (k : Nat) (K : List UInt8) : List Nat := (List.range k).filter fun i => okI i && decide (keyI i = K)
theorem selK_succ (okI : Nat → Bool) (keyI : Nat → List UInt8) (k : Nat) (K : List UInt8) : selK okI keyI (k + 1) K = selK okI keyI k K ++ if (okI k && decide (keyI k = K)) = true then [k] else [] := by
  unfold selK
  rw [List.range_succ, List.filter_append]
  congr 1
  by_cases h : (okI k && decide (keyI k = K)) = true
  · rw [if_pos h, List.filter_cons, if_pos h]; rfl
  · rw [if_neg h, List.filter_cons, if_neg h]; rfl
structure IdxIs (okI : Nat → Bool) (keyI : Nat → List UInt8) (k : Nat) (es : List EN) : Prop where
  ix : ∀ e ∈ es, e.ix = selK okI keyI k e.key
  all : ∀ i, i < k → okI i = true → ∃ e ∈ es, e.key = keyI i
  ne : es.Pairwise fun e f => e.key ≠ f.key
  some : ∀ e ∈ es, e.ix ≠ []
theorem IdxIs.zero (okI : Nat → Bool) (keyI : Nat → List UInt8) : IdxIs okI keyI 0 [] := ⟨by simp, fun i h => absurd h (by omega), .nil, by simp⟩
theorem IdxIs.skip {okI : Nat → Bool} {keyI : Nat → List UInt8} {k : Nat} {es : List EN} (h : IdxIs okI keyI k es) (hk : okI k = false) : IdxIs okI keyI (k + 1) es :=
  ⟨fun e he => by rw [selK_succ, hk]; simpa using h.ix e he, fun i hi ho => by
    by_cases e : i = k
    · subst e; rw [hk] at ho; cases ho
    · exact h.all i (by omega) ho, h.ne, h.some⟩
theorem IdxIs.none_ {okI : Nat → Bool} {keyI : Nat → List UInt8} {k : Nat} {es : List EN} (h : IdxIs okI keyI k es) {K : List UInt8} (hn : ∀ e ∈ es, e.key ≠ K) : selK okI keyI k K = [] := by
  unfold selK
  rw [List.filter_eq_nil_iff]
  intro i hi hp
  rw [Bool.and_eq_true_iff] at hp
  obtain ⟨e, he, hk⟩ := h.all i (List.mem_range.1 hi) hp.1
  exact hn e he (hk.trans (of_decide_eq_true hp.2))
theorem IdxIs.put_new {okI : Nat → Bool} {keyI : Nat → List UInt8} {k : Nat} {es : List EN} (h : IdxIs okI keyI k es) (hk : okI k = true) (hn : ∀ e ∈ es, e.key ≠ keyI k) (A : Option Addr) (c : Nat) : IdxIs okI keyI (k + 1) (es ++ [⟨keyI k, A, c, [k]⟩]) := by
  refine ⟨fun e he => ?_, fun i hi ho => ?_, ?_, fun e he => by
    rcases List.mem_append.1 he with q | q
    · exact h.some e q
    · simp only [List.mem_singleton] at q
      subst q; simp⟩
  · rw [selK_succ, hk]
    rcases List.mem_append.1 he with q | q
    · have : ¬ keyI k = e.key := fun z => hn e q z.symm
      simp [this, h.ix e q]
    · simp only [List.mem_singleton] at q
      subst q
      dsimp only
      rw [h.none_ hn]; simp
  · by_cases e : i = k
    · subst e; exact ⟨⟨keyI i, A, c, [i]⟩, by simp, rfl⟩
    · obtain ⟨x, hx, hy⟩ := h.all i (by omega) ho
      exact ⟨x, by simp [hx], hy⟩
  · rw [List.pairwise_append]
    refine ⟨h.ne, by simp, fun e he f hf => ?_⟩
    simp only [List.mem_singleton] at hf
    subst hf
    exact hn e he
theorem IdxIs.put_old {okI : Nat → Bool} {keyI : Nat → List UInt8} {k : Nat} {l1 l2 : List EN} {e0 : EN} (h : IdxIs okI keyI k (l1 ++ e0 :: l2)) (hk : okI k = true) (he0 : e0.key = keyI k) (A : Option Addr) (c : Nat) : IdxIs okI keyI (k + 1) (l1 ++ ⟨e0.key, A, c, e0.ix ++ [k]⟩ :: l2) := by
  have hne := h.ne
  rw [List.pairwise_append, List.pairwise_cons] at hne
  have hoth : ∀ e, e ∈ l1 ∨ e ∈ l2 → e.key ≠ e0.key := fun e he => by
    rcases he with q | q
    · exact hne.2.2 e q e0 (by simp)
    · exact fun z => hne.2.1.1 e q z.symm
  refine ⟨fun e he => ?_, fun i hi ho => ?_, ?_, fun e he => by
    rcases List.mem_append.1 he with q | q
    · exact h.some e (by simp [q])
    · rcases List.mem_cons.1 q with rfl | q
      · simp
      · exact h.some e (by simp [q])⟩
  · rw [selK_succ, hk]
    have hcase : (e ∈ l1 ∨ e ∈ l2) ∨ e = ⟨e0.key, A, c, e0.ix ++ [k]⟩ := by
      rcases List.mem_append.1 he with q | q
      · exact .inl (.inl q)
      · rcases List.mem_cons.1 q with q | q
        · exact .inr q
        · exact .inl (.inr q)
    rcases hcase with q | rfl
    · have h1 : ¬ keyI k = e.key := fun z => hoth e q (z.symm.trans he0.symm)
      have h2 : e ∈ l1 ++ e0 :: l2 := by rcases q with q | q <;> simp [q]
      simp [h1, h.ix e h2]
    · dsimp only
      rw [← h.ix e0 (by simp), he0]; simp
  · by_cases e : i = k
    · subst e; exact ⟨⟨e0.key, A, c, e0.ix ++ [i]⟩, by simp, he0⟩
    · obtain ⟨x, hx, hy⟩ := h.all i (by omega) ho
      rcases List.mem_append.1 hx with q | q
      · exact ⟨x, by simp [q], hy⟩
      · rcases List.mem_cons.1 q with rfl | q
        · exact ⟨⟨x.key, A, c, x.ix ++ [k]⟩, by simp, hy⟩
        · exact ⟨x, by simp [q], hy⟩
  · rw [List.pairwise_append, List.pairwise_cons]
    refine ⟨hne.1, ⟨fun f hf => hne.2.1.1 f hf, hne.2.1.2⟩, fun e he f hf => ?_⟩
    rcases List.mem_cons.1 hf with rfl | q
    · exact hne.2.2 e he e0 (by simp)
    · exact hne.2.2 e he f (List.mem_cons_of_mem _ q)
theorem SlsAt.pick {w : World} {sl : List SL} {rows : List (List VD)} (h : SlsAt w sl rows) (ix : List Nat) (hix : ∀ i ∈ ix, i < rows.length) : SlsAt w (ix.map (slAt sl)) (ix.map fun i => rows.getD i []) := by
  refine ⟨by simp, fun i a b => ?_⟩
  have hi : i < ix.length := by simpa using a
  have h2 := hix _ (List.getElem_mem hi)
  have h1 : ix[i] < sl.length := by rw [h.1]; exact h2
  have := h.2 ix[i] h1 h2
  simp only [List.getElem_map, slAt]
  simpa [h1, h2] using this
theorem selK_lt {okI : Nat → Bool} {keyI : Nat → List UInt8} {k : Nat} {K : List UInt8} : ∀ i ∈ selK okI keyI k K, i < k := fun _i hi => List.mem_range.1 (List.mem_filter.1 hi).1
end Go.Proofs.YtafoklilkdnepaaGreatDoor

/- slices.Grow, slices.Concat over values. For every two rows. -/
namespace Go.Proofs.YtafoklilkdnepaaGreatDoor
open Go.RowKit

set_option maxRecDepth 100000 in
set_option maxHeartbeats 800000 in
theorem growV_any (n : Nat) (hn : n ≤ 1000000) (w : World) :
    Calls Tryz.prog 171 #[.slice none 0 0, .int .i64 n] w fun e w' => ∃ A c, e = .returned (.slice A 0 c) ∧ Made 31 3 vdE [] A c w w' := by
  obtain ⟨i0, hi0, hz0, hz1, hz2⟩ := info_parts info_v5
  go_enter Tryz.func171, Tryz.ntmps171
  by_cases h0 : n = 0
  · subst h0
    go_wp2
    go_ret
    exact ⟨none, 0, rfl, Made.nil _ _ _ _⟩
  · have hn0 : 0 < n := by omega
    have hge := grownCap_ge w n 0 31
    have hle := grownCap_le_maxLen w n 0 31 (by simp only [maxLen]; omega)
    have hold : (Builtin.firstCells i0.size 0 (.slice none 0 0)).run Tryz.prog w.drew = .ok ([] : List Value).toArray w.drew := run_firstCells_none w.drew i0.size 0 0 0
    have hrz : ∀ ty, (Builtin.append_ #[33, 3] ty #[.slice none 0 0, .int .i64 (n : Int)]).run Tryz.prog w = _ := fun ty =>
      Lib.run_append_grow_zeros w 33 3 ty 31 i0 (.agg #[.int .i64 0, .int .i64 0, .string ⟨#[]⟩]) .i64 .i64 Tryz.underlying33 Tryz.underlying3 hi0 hz0 none 0 0 [] hold n hn0 (by omega) (by omega) (by omega)
        (by rw [hz2]; omega) (by rw [hz2]; exact growslice_fits (by omega) (by omega))
    simp only [Nat.zero_add] at hrz
    have hsz : (([] : List Value).toArray ++ Builtin.zeroCells (Value.agg #[.int .i64 0, .int .i64 0, .string ⟨#[]⟩]).cells n ++ Builtin.zeroCells (Value.agg #[.int .i64 0, .int .i64 0, .string ⟨#[]⟩]).cells (grownCap w n 0 31 - n)).size = grownCap w n 0 31 * 3 := by
      rw [Array.size_append, Array.size_append, size_zeroCells, size_zeroCells]
      simp [Value.cells]
      omega
    have hcut := OwnK.room 31 3 vdE w.drew (grownCap w n 0 31) _ hle hsz
    obtain ⟨W, hW⟩ : ∃ W, W = w.drew.alloc (.cells (([] : List Value).toArray ++ Builtin.zeroCells (Value.agg #[.int .i64 0, .int .i64 0, .string ⟨#[]⟩]).cells n ++ Builtin.zeroCells (Value.agg #[.int .i64 0, .int .i64 0, .string ⟨#[]⟩]).cells (grownCap w n 0 31 - n)) 31) := ⟨_, rfl⟩
    obtain ⟨G, hG⟩ : ∃ G, G = grownCap w n 0 31 := ⟨_, rfl⟩
    have tW : Touch [] w W := by rw [hW]; exact ((Touch.refl [] w).drew).alloc _
    rw [← hW] at hrz hcut
    rw [← hG] at hrz hcut hge hle
    have hws : w.drew.heap.size = w.heap.size := rfl
    rw [hws] at hcut
    unfold maxLen at hle
    clear hW hG hold hsz hws
    go_wp2_with (at_builtin; refine Lib.wpList_append_run _ rfl _ _ _ _ rfl _ _ rfl rfl _ _ (hrz _) ?_)
    go_ret
    exact ⟨_, G, rfl, hcut, tW, by simp [fpo]⟩

set_option maxRecDepth 20000 in
set_option maxHeartbeats 3200000 in
/-- two rows, one behind the other -/
theorem concatV_any (A1 A2 : Option Addr) (n1 n2 c1 c2 : Nat) (l1 l2 : List VD) (e1 : l1.length = n1) (e2 : l2.length = n2) (h1 : n1 ≤ 1000) (h2 : n2 ≤ 1000) (w : World) (r1 : ValsAt w A1 l1) (r2 : ValsAt w A2 l2) :
    Calls Tryz.prog 137 #[.slice (some ⟨w.heap.size, 0, none⟩) 2 2] (w.alloc (.cells #[.slice A1 n1 c1, .slice A2 n2 c2] 33)) fun e w' =>
      ∃ A c, e = .returned (.slice A (l1 ++ l2).length c) ∧ Made 31 3 vdE (l1 ++ l2) A c w w' := by
  subst e1 e2
  have t0 := (Touch.refl [] w).alloc (.cells #[.slice A1 l1.length c1, .slice A2 l2.length c2] 33)
  have hb := heap_alloc_new w (.cells #[.slice A1 l1.length c1, .slice A2 l2.length c2] 33)
  obtain ⟨W, hW⟩ : ∃ W, W = w.alloc (.cells #[.slice A1 l1.length c1, .slice A2 l2.length c2] 33) := ⟨_, rfl⟩
  have hWs : w.heap.size < W.heap.size := by rw [hW, World.size_alloc]; omega
  rw [← hW] at t0 hb ⊢
  have d0 := cell_blk hb (i := 0) rfl
  have d1 := cell_blk hb (i := 1) rfl
  have hlen : (l1 ++ l2).length = l1.length + l2.length := List.length_append
  have Hlen := Lib.hid hlen
  clear hW hlen
  go_enter Tryz.func137, Tryz.ntmps137
  go_wp2
  refine wp_loop_rounds 3 ?_
  rw [rounds_succ]
  go_wp2
  rw [rounds_succ]
  go_wp2
  rw [rounds_succ]
  go_wp2_with fail
  have hgr := growV_any (l1.length + l2.length) (by omega) W
  rw [Int.natCast_add] at hgr
  refine hgr.mono ?_
  rintro e w1 ⟨A3, c3, rfl, hm3⟩
  have b1 := hm3.t.blk hb (by simp)
  have f0 := cell_blk b1 (i := 0) rfl
  have f1 := cell_blk b1 (i := 1) rfl
  have T1 := t0.trans0 hm3.t
  go_wp2_with fail
  refine wp_loop_rounds 3 ?_
  rw [rounds_succ]
  go_wp2_with (at_builtin; refine stop ?_)
  refine go ?_
  refine wpList_appK rfl (.tmp 31) (.tmp 32) 33 rfl 31 _ 3 32 info_v5 Tryz.underlying33 rfl (by omega) vdE_length vdE_one A3 0 c3 [] rfl rfl hm3.own
    A1 l1.length c1 l1 rfl rfl (r1.touch0 T1) (by omega) (by omega) ?_
  intro A4 c4 w4 hown4 ht4 hf4
  have hm4 := hm3.step hown4 ht4 hf4
  have b4 := hm4.t.blk hb (by simp)
  have g0 := cell_blk b4 (i := 0) rfl
  have g1 := cell_blk b4 (i := 1) rfl
  rw [List.nil_append] at hm4
  go_wp2_with fail
  rw [rounds_succ]
  go_wp2_with (at_builtin; refine stop ?_)
  refine go ?_
  refine wpList_appK rfl (.tmp 31) (.tmp 32) 33 rfl 31 _ 3 32 info_v5 Tryz.underlying33 rfl (by omega) vdE_length vdE_one A4 l1.length c4 l1 rfl rfl hm4.own
    A2 l2.length c2 l2 rfl rfl (r2.touch0 (t0.trans0 hm4.t)) (by omega) (by omega) ?_
  intro A5 c5 w5 hown5 ht5 hf5
  have hm5 := hm4.step hown5 ht5 hf5
  go_wp2_with fail
  rw [rounds_succ]
  go_wp2
  go_ret
  exact ⟨A5, c5, ret_slice Hlen.out.symm, hm5.own, t0.trans0 hm5.t, fun b hb => by have := hm5.f b hb; omega⟩

end Go.Proofs.YtafoklilkdnepaaGreatDoor

/- relop.Plan.join: what it tells, plainly; its walk as far as the places and the index. -/
namespace Go.Proofs.YtafoklilkdnepaaGreatDoor
open Go.RowKit Go.Maps Go.ChangeMaps

theorem info_str5 : (Tryz.prog.info? 9).map (fun i => (i.zero, i.size, i.bytes)) = some (some (.string ⟨#[]⟩), 1, 16) := by kernel_rfl
def okI (rows : List (List VD)) (at_ : List Nat) (i : Nat) : Bool := !nullV (pickV (rows.getD i []) at_)
def keyI (rows : List (List VD)) (at_ : List Nat) (i : Nat) : List UInt8 := keyL (pickV (rows.getD i []) at_)
/-- the rows of b that are joined to one of a -/
def foundI (rowsB : List (List VD)) (bt at_ : List Nat) (r : List VD) : List Nat := if nullV (pickV r at_) = true then [] else selK (okI rowsB bt) (keyI rowsB bt) rowsB.length (keyL (pickV r at_))
def foundR (left : Bool) (wide : Nat) (rowsB : List (List VD)) (bt at_ : List Nat) (r : List VD) : List (List VD) :=
  if foundI rowsB bt at_ r = [] ∧ left = true then [List.replicate wide ⟨0, 0, ⟨#[]⟩⟩] else (foundI rowsB bt at_ r).map fun i => rowsB.getD i []
def joinL (left : Bool) (wide : Nat) (rowsA rowsB : List (List VD)) (at_ bt : List Nat) : List (List VD) := rowsA.flatMap fun r => (foundR left wide rowsB bt at_ r).map fun o => r ++ o
theorem joinL_snoc (left : Bool) (wide : Nat) (rowsA rowsB : List (List VD)) (at_ bt : List Nat) (k : Nat) (h : k < rowsA.length) :
    joinL left wide (rowsA.take (k + 1)) rowsB at_ bt = joinL left wide (rowsA.take k) rowsB at_ bt ++ (foundR left wide rowsB bt at_ rowsA[k]).map fun o => rowsA[k] ++ o := by
  unfold joinL
  rw [List.take_succ_eq_append_getElem h, List.flatMap_append]; simp
theorem joinL_le (left : Bool) (wide : Nat) (rowsA rowsB : List (List VD)) (at_ bt : List Nat) (k : Nat) : (joinL left wide (rowsA.take k) rowsB at_ bt).length ≤ (joinL left wide rowsA rowsB at_ bt).length := by
  conv => rhs; rw [← List.take_append_drop k rowsA]
  unfold joinL
  rw [List.flatMap_append, List.length_append]; omega
theorem places_lt {cs : List CD} {names : List ByteArray} (h : 0 < cs.length) : ∀ i ∈ placesV cs names, i < cs.length := by
  intro i hi
  obtain ⟨n, _, rfl⟩ := List.mem_map.1 hi
  rcases hp : placeV cs n with _ | k
  · exact h
  · exact placeV_lt hp
/-- values whose texts are told, within bounds -/
def GoodR (w : World) (rows : List (List VD)) (n : Nat) : Prop := ∀ r ∈ rows, r.length = n ∧ ∀ v ∈ r, ShowAt w v ∧ v.Ok 140737000000000
theorem GoodR.touch0 {w w' : World} {rows : List (List VD)} {n : Nat} (h : GoodR w rows n) (ht : Touch [] w w') : GoodR w' rows n := fun r hr => ⟨(h r hr).1, fun v hv => ⟨((h r hr).2 v hv).1.touch0 ht, ((h r hr).2 v hv).2⟩⟩
theorem pick_mem {r : List VD} {at_ : List Nat} (h : ∀ i ∈ at_, i < r.length) : ∀ v ∈ pickV r at_, v ∈ r := by
  intro v hv
  obtain ⟨i, hi, rfl⟩ := List.mem_map.1 hv
  have := h i hi
  simp [this]
theorem key_le (l : List VD) (h : ∀ v ∈ l, v.Ok 140737000000000) : (keyL l).length ≤ 201 * l.length := by
  unfold keyL
  induction l with
  | nil => simp
  | cons a l ih =>
    have := show_le a (h a List.mem_cons_self).n
    have := ih fun v hv => h v (List.mem_cons_of_mem _ hv)
    rw [List.flatMap_cons, List.length_append, List.length_append, List.length_cons, List.length_cons, List.length_nil]
    omega
/-- what a call of keyOf at values picked tells -/
theorem key_pick {w : World} {r : List VD} {at_ : List Nat} {n : Nat} (hr : r.length = n) (hat : ∀ i ∈ at_, i < n) (hl : at_.length ≤ 1000000) (hg : ∀ v ∈ r, ShowAt w v ∧ v.Ok 140737000000000) (A : Option Addr) (c : Nat) (w' : World) (ht : Touch [] w w') (hv : ValsAt w' A (pickV r at_)) :
    Calls Tryz.prog 136 #[.slice A at_.length c] w' fun e w'' => e = .returned (.string (S (keyL (pickV r at_)))) ∧ Touch [] w' w'' := by
  have hm := pick_mem (r := r) (at_ := at_) (by rw [hr]; exact hat)
  exact keyOf_any A c at_.length (pickV r at_) (by unfold pickV; rw [List.length_map]) w' hv (by omega) (fun v hv => (hg v (hm v hv)).1.touch0 ht) (fun v hv => (hg v (hm v hv)).2)
/-- what the joining tells -/
def JoinP (left : Bool) (wide : Nat) (rowsA rowsB : List (List VD)) (at_ bt : List Nat) (w : World) (e : Ending) (w' : World) : Prop :=
  Touch [] w w' ∧ if 4096 < (joinL left wide rowsA rowsB at_ bt).length then e = .returned (.tuple #[.slice none 0 0, .int .i64 31])
    else ∃ B c, e = .returned (.tuple #[.slice B (joinL left wide rowsA rowsB at_ bt).length c, .int .i64 0]) ∧ RowsAt w' B (joinL left wide rowsA rowsB at_ bt)
theorem run_mkV (n : Nat) (hn : n ≤ 1000) (w : World) : (Instr.makeSlice 33 (.int .i64 (n : Int)) (.int .i64 (n : Int))).run Tryz.prog w = .ok (.slice (some ⟨w.heap.size, 0, none⟩) n n) (w.alloc (.cells (madeCells #[.int .i64 0, .int .i64 0, .string ⟨#[]⟩] (n * 3)) 31)) := by
  obtain ⟨i0, hi0, hz0, hz1, hz2⟩ := info_parts info_v5
  have h := run_make (P := Tryz.prog) w 33 31 i0 _ Tryz.underlying33 hi0 hz0 .i64 .i64 (n : Int) (n : Int) (by omega) (by omega) (by rw [hz2]; omega) (by omega)
  rw [Int.toNat_natCast, hz1] at h
  exact h
theorem vals_made (n : Nat) (w : World) : ValsAt (w.alloc (.cells (madeCells #[.int .i64 0, .int .i64 0, .string ⟨#[]⟩] (n * 3)) 31)) (some ⟨w.heap.size, 0, none⟩) (List.replicate n ⟨0, 0, ⟨#[]⟩⟩) := by
  refine RdK.row (enc := vdE) w 31 (List.replicate n ⟨0, 0, ⟨#[]⟩⟩) _ ?_
  have hl : ((List.replicate n (⟨0, 0, ⟨#[]⟩⟩ : VD)).flatMap vdE).length = n * 3 := by rw [flat_length vdE 3 vdE_length, List.length_replicate]
  apply List.ext_getElem?
  intro i
  by_cases hi : i < n * 3
  · have h3 : i / 3 < n := by omega
    have hd := flat_get vdE 3 vdE_length (List.replicate n (⟨0, 0, ⟨#[]⟩⟩ : VD)) (i / 3) (i % 3) (by simpa using h3) (Nat.mod_lt _ (by omega))
    rw [show i / 3 * 3 + i % 3 = i by omega] at hd
    rw [hd]
    have hm : i % 3 = 0 ∨ i % 3 = 1 ∨ i % 3 = 2 := by omega
    simp only [madeCells, List.getElem_replicate]
    rcases hm with q | q | q <;> simp [hi, q, vdE]
  · rw [List.getElem?_eq_none (by simp [madeCells]; omega), List.getElem?_eq_none (by rw [hl]; omega)]
end Go.Proofs.YtafoklilkdnepaaGreatDoor
