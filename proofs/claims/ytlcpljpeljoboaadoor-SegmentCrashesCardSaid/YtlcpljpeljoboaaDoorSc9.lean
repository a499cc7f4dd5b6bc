/- Part 9 of the texts of this proof, one behind the other; each begins with its own sentence. No condition beyond those that its theorems state. -/
import Derived.Test.YtlcpljpeljoboaaDoorSc8
import Derived.Deep.RegionLawGrows
/- What SegmentCrashes keeps in memory; bywashlaw08's state.fits. -/
namespace Go.Proofs.YtlcpljpeljoboaaDoor
open Go.RowKit

theorem GsD.take {D : Nat → Prop} {w : World} {A : Option Addr} {gs : List (List (List UInt8))} (h : GsD D w A gs) (n : Nat) : GsD D w A (gs.take n) := by
  intro h0
  rw [List.length_take] at h0
  obtain ⟨ad, e, hd, hat⟩ := h (by omega)
  refine ⟨ad, e, hd, fun j hj => ?_⟩
  rw [List.length_take] at hj
  obtain ⟨A', c', k1, k2⟩ := hat j (by omega)
  refine ⟨A', c', ?_, ?_⟩
  · rw [List.getElem_take]; exact k1
  · rw [List.getElem_take]; exact k2
theorem GsD.vals {D : Nat → Prop} {w : World} {A : Option Addr} {gs : List (List (List UInt8))} (h : GsD D w A gs) : ∃ vs : List Value, vs.length = gs.length ∧ Rd w A vs ∧ (∀ u ∈ vs, u.oneCell' = true) ∧ ∀ j (hj : j < gs.length), ∃ A' c', vs[j]? = some (.slice A' gs[j].length c') ∧ BsD D w A' gs[j] := by
  rcases Nat.eq_zero_or_pos gs.length with h0 | h0
  · exact ⟨[], by simp [h0], Rd.nil _ _, by simp, fun j hj => by omega⟩
  · obtain ⟨ad, rfl, hd, hat⟩ := h h0
    have key : ∀ j, j < gs.length → ∃ v : Value, w.cell? (ad.add j) = some v ∧ v.oneCell' = true ∧ ∀ hj : j < gs.length, ∃ A' c', v = .slice A' gs[j].length c' ∧ BsD D w A' gs[j] := fun j hj => by
      obtain ⟨A', c', k1, k2⟩ := hat j hj
      exact ⟨_, k1, rfl, fun _ => ⟨A', c', rfl, k2⟩⟩
    obtain ⟨f, hf⟩ : ∃ f : Nat → Value, ∀ j, j < gs.length → w.cell? (ad.add j) = some (f j) ∧ (f j).oneCell' = true ∧ ∀ hj : j < gs.length, ∃ A' c', f j = .slice A' gs[j].length c' ∧ BsD D w A' gs[j] :=
      ⟨fun j => if h : j < gs.length then (key j h).choose else .bool false, fun j hj => by simp only [dif_pos hj]; exact (key j hj).choose_spec⟩
    refine ⟨(List.range gs.length).map f, by simp, fun _ => ⟨ad, rfl, fun j u hu => ?_⟩, fun u hu => ?_, fun j hj => ?_⟩
    · have hj : j < gs.length := by
        have := (List.getElem?_eq_some_iff.1 hu).1
        simpa using this
      simp [hj] at hu
      rw [← hu]
      exact (hf j hj).1
    · obtain ⟨i, hi, rfl⟩ := List.mem_map.1 hu
      exact (hf i (by simpa using hi)).2.1
    · obtain ⟨A', c', e, hb⟩ := (hf j hj).2.2 hj
      exact ⟨A', c', by simp [hj, e], hb⟩

set_option maxRecDepth 20000 in
/-- append behind groups without room, a step of a region that draws -/
theorem step_appGr {ops : Array Oper} {o : Oper} {a : Act} {w : World} {K : Act → World → Prop} {Q : Exit → Act → World → Prop} {E : Prop} (hgd : o.guard = none) (s x : Operand)
    (ho : o.op = .call { callee := .builtin .append, args := #[s, x], argTypes := #[28, 28] }) {D : Nat → Prop}
    (A0 : Option Addr) (n : Nat) (gs : List (List (List UInt8))) (hn : gs.length = n) (hs : a.eval s = .slice A0 n n) (hgs : GsD D w A0 gs)
    (H : Nat) (Ax : Option Addr) (nx cx : Nat) (l : List (List UInt8)) (hx : a.eval x = .slice (some ⟨H, 0, none⟩) 1 1) (hc : w.cell? ⟨H, 0, none⟩ = some (.slice Ax nx cx)) (hl : l.length = nx) (hr : BsD D w Ax l) (hb : n < 1000000000)
    (hK : ∀ g c w', GsD (fun b => D b ∨ b = g) w' (some ⟨g, 0, none⟩) (gs ++ [l]) → w.heap.size ≤ g → Touch [] w w' → n + 1 ≤ c → K (a.put o.dst (.slice (some ⟨g, 0, none⟩) (n + 1) c)) w') :
    if Region.wanted o (yielded ops a.tmps) = true then Oper.wp Tryd.prog o a w K Q else E := by
  obtain ⟨i0, hi0, hz0, hz1, hz2⟩ := info_parts info_bytes2
  obtain ⟨vs, hlen, hrd, hone, hat⟩ := hgs.vals
  subst hn hl
  have hadd : (⟨H, 0, none⟩ : Addr).add 0 = ⟨H, 0, none⟩ := by unfold Addr.add; split <;> simp_all
  refine step_append_grows hgd s x _ ho 49 i0 _ 1 24 Tryd.underlying28 hi0 hz0 hz1 hz2 rfl (by omega) A0 gs.length gs.length vs hs (fun e => ?_) (by omega) (fun b e j u hu => ?_)
    ⟨H, 0, none⟩ 1 1 [.slice Ax l.length cx] hx (by simp) (fun j u hu => ?_) (by simp [Value.oneCell']) (by omega) (by simp only [maxLen]; omega) (by omega) ?_
  · rcases Nat.eq_zero_or_pos gs.length with h0 | h0
    · exact ⟨h0, h0⟩
    · obtain ⟨ad, e2, _⟩ := hgs h0
      rw [e] at e2; cases e2
  · obtain ⟨ad, e2, hcc⟩ := hrd (by
      have := (List.getElem?_eq_some_iff.1 hu).1
      omega)
    rw [e] at e2
    injection e2 with e2
    subst e2
    exact hcc j u hu
  · rcases j with _ | j
    · simp at hu; subst hu; rw [hadd]; exact hc
    · simp at hu
  · intro v' w' hrow hgr
    rcases hrow.2 with ⟨_, h0⟩ | ⟨g, cap, cur, rfl, hg, hb', hnc, hm, hsz, htk⟩
    · omega
    · have T := Touch.of_grown hgr
      refine hK g cap w' (fun _ => ⟨_, rfl, .inr rfl, fun j hj => ?_⟩) hg T hnc
      have hcell := World.ownsRow.cells hrow (g := g) rfl
      rcases Nat.lt_or_ge j gs.length with hj2 | hj2
      · obtain ⟨A', c', k1, k2⟩ := hat j hj2
        refine ⟨A', c', ?_, ?_⟩
        · rw [List.getElem_append_left hj2]
          exact hcell j _ (by rw [List.getElem?_append_left (by omega)]; exact k1)
        · rw [List.getElem_append_left hj2]
          exact (k2.touch0 T).mono (fun b _ h => .inl h)
      · obtain rfl : j = gs.length := by simp at hj; omega
        refine ⟨Ax, cx, ?_, ?_⟩
        · rw [List.getElem_append_right (Nat.le_refl _)]
          simp only [Nat.sub_self, List.getElem_cons_zero]
          refine hcell gs.length _ ?_
          rw [List.getElem?_append_right (by omega), hlen]
          simp
        · rw [List.getElem_append_right (Nat.le_refl _)]
          simp only [Nat.sub_self, List.getElem_cons_zero]
          exact (hr.touch0 T).mono (fun b _ h => .inl h)

set_option maxRecDepth 100000 in
set_option maxHeartbeats 6400000 in
theorem fits_any {D1 D2 : Nat → Prop} (Ac : Option Addr) (cc : Nat) (cp : List UInt8) (Ag : Option Addr) (cg : Nat) (gs : List (List (List UInt8))) (sure : Nat) (Fc : Option Addr) (fcc : Nat) (fcp : List UInt8) (Fg : Option Addr) (fcg : Nat) (fgs : List (List (List UInt8))) (w : World)
    (hc : RdB w Ac cp) (hg : GsD D1 w Ag gs) (hgc : gs.length ≤ cg) (hfc : RdB w Fc fcp) (hfg : GsD D2 w Fg fgs) (hl1 : gs.length ≤ 1000) (hl2 : fgs.length ≤ 1000) (hgr : ∀ g ∈ fgs, g.length ≤ 1000)
    (heq : fgs.length ≤ gs.length → fgs = gs.take fgs.length) :
    Calls Tryd.prog 27 #[.agg #[.slice Ac cp.length cc, .slice Ag gs.length cg, .int .i64 sure], .agg #[.slice Fc fcp.length fcc, .slice Fg fgs.length fcg]] w fun e w' =>
      e = .returned (.bool (decide (fcp = cp) && decide (sure ≤ fgs.length) && decide (fgs.length ≤ gs.length))) ∧ Touch [] w w' := by
  have T0 : Touch [] w ((w.alloc (.cells #[.slice Ac cp.length cc, .slice Ag gs.length cg, .int .i64 sure] 47)).alloc (.cells #[.slice Fc fcp.length fcc, .slice Fg fgs.length fcg] 34)) := ((Touch.refl _ _).alloc _).alloc _
  have bN : ((w.alloc (.cells #[.slice Ac cp.length cc, .slice Ag gs.length cg, .int .i64 sure] 47)).alloc (.cells #[.slice Fc fcp.length fcc, .slice Fg fgs.length fcg] 34)).heap[w.heap.size]? = some (.cells #[.slice Ac cp.length cc, .slice Ag gs.length cg, .int .i64 sure] 47 (0, 0)) := ((Touch.refl [] _).alloc _).blk (heap_alloc_new w _) (by simp)
  have bF : ((w.alloc (.cells #[.slice Ac cp.length cc, .slice Ag gs.length cg, .int .i64 sure] 47)).alloc (.cells #[.slice Fc fcp.length fcc, .slice Fg fgs.length fcg] 34)).heap[w.heap.size + 1]? = some (.cells #[.slice Fc fcp.length fcc, .slice Fg fgs.length fcg] 34 (0, 0)) := heap_alloc2_new w _ _
  obtain ⟨W, hW⟩ : ∃ W, W = ((w.alloc (.cells #[.slice Ac cp.length cc, .slice Ag gs.length cg, .int .i64 sure] 47)).alloc (.cells #[.slice Fc fcp.length fcc, .slice Fg fgs.length fcg] 34)) := ⟨_, rfl⟩
  rw [← hW] at T0 bN bF
  have n0 := TW.cell (cell_blk (i := 0) bN rfl)
  have n1 := TW.cell (cell_blk (i := 1) bN rfl)
  have n2 := TW.cell (cell_blk (i := 2) bN rfl)
  have f0 := TW.cell (cell_blk (i := 0) bF rfl)
  have f1 := TW.cell (cell_blk (i := 1) bF rfl)
  have k1 : ∀ x : TW W, (convert 22 9 (.slice Fc fcp.length fcc)).run Tryd.prog x.w = .ok (.string (S fcp)) x.w := fun x => run_str_of fcc rfl (Rd.touch0 (Rd.touch0 hfc T0) x.t)
  have k2 : ∀ x : TW W, (convert 22 9 (.slice Ac cp.length cc)).run Tryd.prog x.w = .ok (.string (S cp)) x.w := fun x => run_str_of cc rfl (Rd.touch0 (Rd.touch0 hc T0) x.t)
  have hq := S_beq fcp cp
  have Hg := Lib.hid (fun (h : fgs.length ≤ gs.length) (x : TW W) => groups_true Fg Ag fcg cg fgs.length fgs rfl (by omega) (fun g hg => by have := hgr g hg; omega) x.w ((hfg.touch0 T0).touch0 x.t) (by
    have h2 := ((hg.touch0 T0).touch0 x.t).take fgs.length
    rw [← heq h] at h2
    exact h2))
  have HT := Lib.hid T0
  obtain ⟨fl, hfl⟩ : ∃ fl, fl = fgs.length := ⟨_, rfl⟩
  obtain ⟨gl, hgl⟩ : ∃ gl, gl = gs.length := ⟨_, rfl⟩
  rw [← hfl] at f1 Hg hl2
  rw [← hgl] at n1 Hg hgc hl1
  rw [← hfl, ← hgl] at hW ⊢
  have HW := Lib.hid hW
  clear hW T0 bN bF hc hg hfc hfg hgr heq hfl hgl
  by_cases e1 : fcp = cp
  · rw [decide_eq_true e1] at hq
    rw [decide_eq_true e1]
    have E1 := Lib.hid e1
    clear e1
    by_cases e2 : sure ≤ fl
    · have i2 : decide (sure ≤ fl) = true := decide_eq_true e2
      have j2 : decide ((sure : Int) ≤ (fl : Int)) = true := decide_eq_true (by omega)
      rw [i2]
      by_cases e3 : fl ≤ gl
      · have i3 : decide (fl ≤ gl) = true := decide_eq_true e3
        have j3 : decide ((fl : Int) ≤ (gl : Int)) = true := decide_eq_true (by omega)
        have l0 : (0 : Int) ≤ (fl : Int) := by omega
        have l1 : (fl : Int) ≤ (cg : Int) := by omega
        rw [i3]
        have Hg2 := Lib.hid (Hg.out e3)
        clear Hg
        go_enter Tryd.func27, Tryd.ntmps27
        go_wp2_with fail
        rw [← HW.out]
        refine wp_region_tw W (Touch.refl _ _) (by kernel_rfl) (by kernel_rfl) ?_
        repeat (go_big_quiet_step (((go_at_call 18; exact Calls.tw _ (Hg2.out _)))))
        refine wpQuiet_nil ?_
        rintro _ ⟨z, rfl⟩
        go_wp2
        go_ret
        exact ⟨rfl, HT.out.trans0 z.t⟩
      · have i3 : decide (fl ≤ gl) = false := decide_eq_false e3
        have j3 : decide ((fl : Int) ≤ (gl : Int)) = false := decide_eq_false (by omega)
        rw [i3]
        clear Hg
        go_enter Tryd.func27, Tryd.ntmps27
        go_wp2_with fail
        rw [← HW.out]
        refine wp_region_tw W (Touch.refl _ _) (by kernel_rfl) (by kernel_rfl) ?_
        repeat (go_big_quiet_step (fail))
        refine wpQuiet_nil ?_
        rintro _ ⟨z, rfl⟩
        go_wp2
        go_ret
        exact ⟨rfl, HT.out.trans0 z.t⟩
    · have i2 : decide (sure ≤ fl) = false := decide_eq_false e2
      have j2 : decide ((sure : Int) ≤ (fl : Int)) = false := decide_eq_false (by omega)
      rw [i2]
      clear Hg
      go_enter Tryd.func27, Tryd.ntmps27
      go_wp2_with fail
      rw [← HW.out]
      refine wp_region_tw W (Touch.refl _ _) (by kernel_rfl) (by kernel_rfl) ?_
      repeat (go_big_quiet_step (fail))
      refine wpQuiet_nil ?_
      rintro _ ⟨z, rfl⟩
      go_wp2
      go_ret
      exact ⟨by simp, HT.out.trans0 z.t⟩
  · rw [decide_eq_false e1] at hq
    rw [decide_eq_false e1]
    clear Hg e1
    go_enter Tryd.func27, Tryd.ntmps27
    go_wp2_with fail
    rw [← HW.out]
    refine wp_region_tw W (Touch.refl _ _) (by kernel_rfl) (by kernel_rfl) ?_
    repeat (go_big_quiet_step (fail))
    refine wpQuiet_nil ?_
    rintro _ ⟨z, rfl⟩
    go_wp2
    go_ret
    exact ⟨by simp, HT.out.trans0 z.t⟩
end Go.Proofs.YtlcpljpeljoboaaDoor

/- What SegmentCrashes carries through its rounds. No program's function. -/
namespace Go.Proofs.YtlcpljpeljoboaaDoor
open Go.RowKit

structure NowP (N : Nat) (Z : List Nat) (Ac : Option Addr) (cc : Nat) (cp : List UInt8) (Ag : Option Addr) (cg : Nat) (gs : List (List (List UInt8))) (sure : Nat) (wr : World) : Prop where
  blk : wr.heap[N]? = some (.cells #[.slice Ac cp.length cc, .slice Ag gs.length cg, .int .i64 sure] 47 (0, 0))
  rc : RdB wr Ac cp
  ac : 0 < cp.length → ∀ x ∈ fpo Ac, x ∉ N :: Z
  gd : GsD (fun x => x ∉ N :: Z) wr Ag gs
  cap : gs.length ≤ cg
def NextP (N : Nat) (Z : List Nat) (next : Option (List UInt8)) (v8 : Value) (wr : World) : Prop :=
  (next = none ∧ v8 = .pointer none) ∨ ∃ cp2 X Xc xcc, next = some cp2 ∧ v8 = .pointer (some ⟨X, 0, none⟩) ∧ wr.heap[X]? = some (.cells #[.slice Xc cp2.length xcc, .slice none 0 0, .int .i64 0] 47 (0, 0)) ∧ X ∉ N :: Z ∧ RdB wr Xc cp2 ∧ (0 < cp2.length → ∀ x ∈ fpo Xc, x ∉ N :: Z)
section
variable {N : Nat} {Z Z2 : List Nat} {wr w2 : World}
theorem apart_step (hN : N ∉ Z) (hNl : N < wr.heap.size) (hZ : ∀ b ∈ Z2, b ∈ Z ∨ wr.heap.size ≤ b) : ∀ x, x < wr.heap.size → x ∉ N :: Z → x ∉ N :: Z2 := fun x h1 h2 hm => by
  rcases List.mem_cons.1 hm with e | e
  · exact h2 (by simp [e])
  · rcases hZ x e with e | e
    · exact h2 (by simp [e])
    · omega
theorem NowP.step {Ac : Option Addr} {cc : Nat} {cp : List UInt8} {Ag : Option Addr} {cg : Nat} {gs : List (List (List UInt8))} {sure : Nat} (h : NowP N Z Ac cc cp Ag cg gs sure wr) (T : Touch Z wr w2) (hN : N ∉ Z) (hZ : ∀ b ∈ Z2, b ∈ Z ∨ wr.heap.size ≤ b) : NowP N Z2 Ac cc cp Ag cg gs sure w2 := by
  have key := apart_step (Z2 := Z2) hN (lt_of_block h.blk) hZ
  refine ⟨T.blk h.blk hN, RdB.touch1 h.rc T (fun h0 x hx hm => h.ac h0 x hx (by simp [hm])), fun h0 x hx => key x (Rd.lt h.rc (by simpa using h0) x hx) (h.ac h0 x hx), ?_, h.cap⟩
  exact (h.gd.mono (D' := fun x => x ∉ N :: Z ∧ x ∉ N :: Z2) (fun b hb hd => ⟨hd, key b hb hd⟩)).touch T (fun b hd _ hm => hd.1 (by simp [hm])) |>.mono (fun b _ hd => hd.2)
theorem NextP.step {next : Option (List UInt8)} {v8 : Value} (h : NextP N Z next v8 wr) (T : Touch Z wr w2) (hN : N ∉ Z) (hNl : N < wr.heap.size) (hZ : ∀ b ∈ Z2, b ∈ Z ∨ wr.heap.size ≤ b) : NextP N Z2 next v8 w2 := by
  have key := apart_step (Z2 := Z2) hN hNl hZ
  rcases h with h | ⟨cp2, X, Xc, xcc, h1, h2, h3, h4, h5, h6⟩
  · exact .inl h
  · exact .inr ⟨cp2, X, Xc, xcc, h1, h2, T.blk h3 (fun hm => h4 (by simp [hm])), key X (lt_of_block h3) h4, RdB.touch1 h5 T (fun h0 x hx hm => h6 h0 x hx (by simp [hm])), fun h0 x hx => key x (Rd.lt h5 (by simpa using h0) x hx) (h6 h0 x hx)⟩
theorem NextP.setN {next : Option (List UInt8)} {v8 : Value} (h : NextP N Z next v8 wr) (T : Touch [N] wr w2) : NextP N Z next v8 w2 := by
  rcases h with h | ⟨cp2, X, Xc, xcc, h1, h2, h3, h4, h5, h6⟩
  · exact .inl h
  · exact .inr ⟨cp2, X, Xc, xcc, h1, h2, T.blk h3 (fun hm => h4 (by simp at hm; simp [hm])), h4, RdB.touch1 h5 T (fun h0 x hx hm => h6 h0 x hx (by simp at hm; simp [hm])), h6⟩
end
structure CrS (w : World) (L D N : Nat) (fp : List Nat) (s : LS) (g : GH) (v8 : Value) (wr : World) : Prop where
  ls : LsS w L D fp s wr
  now : ∃ Ac cc Ag cg, NowP N (L :: fp) Ac cc g.cp Ag cg g.gs g.sure wr
  next : NextP N (L :: fp) g.next v8 wr
  nN : N ∉ L :: fp
  wN : w.heap.size ≤ N
section
variable {w wr w2 : World} {L D N : Nat} {fp : List Nat} {s s2 : LS} {g : GH} {v8 : Value}
theorem CrS.lt (h : CrS w L D N fp s g v8 wr) : N < wr.heap.size := by
  obtain ⟨_, _, _, _, h⟩ := h.now
  exact lt_of_block h.blk
theorem CrS.touch0 (h : CrS w L D N fp s g v8 wr) (T : Touch [] wr w2) : CrS w L D N fp s g v8 w2 := by
  obtain ⟨Ac, cc, Ag, cg, hn⟩ := h.now
  have T' : Touch (L :: fp) wr w2 := T.mono (by simp)
  exact ⟨h.ls.touch0 T, ⟨Ac, cc, Ag, cg, hn.step T' h.nN (fun b hb => .inl hb)⟩, h.next.step T' h.nN h.lt (fun b hb => .inl hb), h.nN, h.wN⟩
theorem CrS.log (h : CrS w L D N fp s g v8 wr) (st : LsStep L D fp s2 wr w2) : ∃ fp2, CrS w L D N fp2 s2 g v8 w2 ∧ Touch (L :: fp) wr w2 := by
  obtain ⟨fp2, h1, h2, h3⟩ := h.ls.step st
  obtain ⟨Ac, cc, Ag, cg, hn⟩ := h.now
  have hl := h.lt
  have hZ : ∀ b ∈ L :: fp2, b ∈ L :: fp ∨ wr.heap.size ≤ b := fun b hb => by
    rcases List.mem_cons.1 hb with e | e
    · exact .inl (by simp [e])
    · rcases h3 b e with e | e
      · exact .inl (by simp [e])
      · exact .inr e
  refine ⟨fp2, ⟨h1, ⟨Ac, cc, Ag, cg, hn.step h2 h.nN hZ⟩, h.next.step h2 h.nN hl hZ, fun hm => ?_, h.wN⟩, h2⟩
  rcases hZ N hm with e | e
  · exact h.nN e
  · omega
theorem LsS.setN (h : LsS w L D fp s wr) (hh : HalfAt w) (T : Touch [N] wr w2) (hN : N ∉ L :: fp) (hw : w.heap.size ≤ N) : LsS w L D fp s w2 :=
  ⟨h.ls.touch T (fun b hb hm => hN (by simp at hm; exact hm ▸ hb)) (fun hm => by have := hh.lt; simp at hm; omega), h.t.trans T (fun b hb => .inr (by simp at hb; omega)), h.f⟩
/-- the variable now is written anew -/
theorem CrS.put (h : CrS w L D N fp s g v8 wr) (hh : HalfAt w) (T : Touch [N] wr w2) {g2 : GH} (hg : g2.next = g.next) {Ac : Option Addr} {cc : Nat} {Ag : Option Addr} {cg : Nat}
    (blk : w2.heap[N]? = some (.cells #[.slice Ac g2.cp.length cc, .slice Ag g2.gs.length cg, .int .i64 g2.sure] 47 (0, 0))) (rc : RdB wr Ac g2.cp) (ac : 0 < g2.cp.length → ∀ x ∈ fpo Ac, x ∉ N :: L :: fp) (gs : GsD (fun x => x ∉ N :: L :: fp) wr Ag g2.gs) (cap : g2.gs.length ≤ cg) :
    CrS w L D N fp s g2 v8 w2 :=
  ⟨h.ls.setN hh T h.nN h.wN, ⟨Ac, cc, Ag, cg, ⟨blk, RdB.touch1 rc T (fun h0 x hx hm => ac h0 x hx (by simp at hm; simp [hm])), ac, gs.touch T (fun b hd _ hm => hd (by simp at hm; simp [hm])), cap⟩⟩, by rw [hg]; exact h.next.setN T, h.nN, h.wN⟩
theorem CrS.sure (h : CrS w L D N fp s g v8 wr) (hh : HalfAt w) (n : Nat) : CrS w L D N fp s { g with sure := n } v8 (wr.setCell ⟨N, 2, none⟩ (.int .i64 n)) := by
  obtain ⟨Ac, cc, Ag, cg, hn⟩ := h.now
  exact h.put hh ((Touch.refl [N] wr).setCell (.inl (by simp)) _) rfl (set_blk hn.blk 2 (.int .i64 n)) hn.rc hn.ac hn.gd hn.cap
theorem CrS.opened (h : CrS w L D N fp s g v8 wr) {L7 : Nat} {fp7 : List Nat} (hL7 : LsS w L7 D fp7 s2 w2) (hT7 : Touch fp wr w2) (hLg : wr.heap.size ≤ L7) (hF7 : ∀ b ∈ fp7, b ∈ fp ∨ wr.heap.size ≤ b) : CrS w L7 D N fp7 s2 g v8 w2 := by
  have hl := h.lt
  have hT : Touch (L :: fp) wr w2 := hT7.mono (fun b hb => .inl (by simp [hb]))
  have hZ : ∀ b ∈ L7 :: fp7, b ∈ L :: fp ∨ wr.heap.size ≤ b := fun b hb => by
    rcases List.mem_cons.1 hb with e | e
    · exact .inr (by omega)
    · rcases hF7 b e with e | e
      · exact .inl (by simp [e])
      · exact .inr e
  obtain ⟨Ac, cc, Ag, cg, hn⟩ := h.now
  refine ⟨hL7, ⟨Ac, cc, Ag, cg, hn.step hT h.nN hZ⟩, h.next.step hT h.nN hl hZ, fun hm => ?_, h.wN⟩
  rcases hZ _ hm with e | e
  · exact h.nN e
  · omega
theorem CrS.dn (h : CrS w L D N fp s g v8 wr) (b : Bool) : CrS w L D N fp s { g with down := b } v8 wr := ⟨h.ls, h.now, h.next, h.nN, h.wN⟩
end
/-- a journal opened: what was found has room in its slices -/
theorem open_cap (D : Nat) (fp : List Nat) (V : Fl) (r : DR) (w wr : World) (h : DkS w D fp V r wr) (hf : HalfAt w) (hdn : r.down = false) (hl0 : (V.getD 0 ([], 0)).1.length ≤ 900000000) (hl1 : (V.getD 1 ([], 0)).1.length ≤ 900000000)
    (hdone : r.done + 5 ≤ 1073741824) (j : LS) (hj : lOpen V r = (0, j)) (B : SG) (hB : bestS V = B) :
    Calls Tryd.prog 11 #[.pointer (some ⟨D, 0, none⟩)] wr fun e w' =>
      ∃ L fp' Ac cc Ag cg, e = .returned (.tuple #[.pointer (some ⟨L, 0, none⟩), .agg #[.slice Ac B.cp.length cc, .slice Ag B.gs.length cg], .int .i64 0]) ∧ LsS w L D fp' j w' ∧ Touch fp wr w' ∧ wr.heap.size ≤ L ∧ (∀ b ∈ fp', b ∈ fp ∨ wr.heap.size ≤ b) ∧
        RdB w' Ac B.cp ∧ B.cp.length ≤ cc ∧ (0 < B.cp.length → ∀ x ∈ fpo Ac, wr.heap.size ≤ x ∧ x ∉ L :: fp') ∧ GsD (fun x => wr.heap.size ≤ x ∧ x ∉ L :: fp') w' Ag B.gs ∧ B.gs.length ≤ cg := by
  subst hB
  refine (open_ok D fp V r wr h.dk (hf.touch h.t (by simp)) (fun hm => by have := h.f _ hm; have := hf.lt; omega) hdn hl0 hl1 hdone (by rw [hj])).mono ?_
  rintro e w' ⟨L, fp', Ac, cc, Ag, cg, h1, h2, h3, h4, h5, h6, h7, h8, h9, h10⟩
  rw [hj] at h2
  have hs := h.t.size
  refine ⟨L, fp', Ac, cc, Ag, cg, h1, ⟨h2, h.t.trans h3 (fun b hb => .inr (h.f b hb)), fun b hb => ?_⟩, h3, h5, h4, h6, h7, h8, h9, h10⟩
  rcases List.mem_cons.1 hb with e | e
  · omega
  · rcases h4 b e with e | e
    · exact h.f b e
    · omega
end Go.Proofs.YtlcpljpeljoboaaDoor

/- A region that draws its order, walked by hand under a condition on the world that holds UNTIL a last operation (a store) comes up. No program's function. -/
namespace Go.Proofs.YtlcpljpeljoboaaDoor
open Go.RowKit

section
variable {P : Program} {ops : Array Oper} {Q : Exit → Act → World → Prop} {md : Region.Mode} {S : World → Prop} {m : Nat}
def wpAnyU (P : Program) (md : Region.Mode) (ops : Array Oper) (Q : Exit → Act → World → Prop) (S : World → Prop) (m : Nat) : Nat → Array Bool → Act → World → Prop
  | 0, listed, a, w => Region.ready md ops listed = [] ∧ Q .normal a w
  | fuel + 1, listed, a, w =>
    (Region.ready md ops listed = [] → Q .normal a w) ∧
    ∀ i ∈ Region.ready md ops listed, wpOp P ops Q i (fun a' w' => ((listed.setIfInBounds i true).getD m true = false → S w') ∧ wpAnyU P md ops Q S m fuel (listed.setIfInBounds i true) a' w') a w
theorem wpAny_of_until : ∀ (fuel : Nat) (listed : Array Bool) (a : Act) (w : World), wpAnyU P md ops Q S m fuel listed a w → wpAny P md ops Q fuel listed a w
  | 0, _, _, _, h => h
  | fuel + 1, _, _, _, h => ⟨h.1, fun i hi => wpOp_mono (fun a' w' h' => wpAny_of_until fuel _ a' w' h'.2) (h.2 i hi)⟩
theorem wpAnyU_first {i : Nat} {oi om : Oper} {v : Value} (hi : ops[i]? = some oi) (hsel : ∀ (j : Nat) (o : Oper) cs b, ops[j]? = some o → o.op ≠ .select cs b)
    (hQ : ∀ c a w, Q (.panic c) (a.put oi.dst v) w → Q (.panic c) a w) (hmi : m ≠ i) (hom : ops[m]? = some om) (hwait : ∃ e ∈ om.after, Region.binds md e = true ∧ e.on = i) :
    ∀ (fuel : Nat) (listed : Array Bool) (a : Act) (w : World), listed.getD m true = false →
      (∀ j oj, ops[j]? = some oj → j ≠ i → listed.getD j true = false → (∀ e ∈ oj.after, Region.binds md e = true → e.on ≠ i) → oi.apart ops oj = true) →
      i ∈ Region.ready md ops listed → YieldsIf P ops S oi v a → S w →
      wpAnyU P md ops Q S m fuel (listed.setIfInBounds i true) (a.put oi.dst v) w → wpAnyU P md ops Q S m (fuel + 1) listed a w := by
  intro fuel
  induction fuel with
  | zero =>
    intro listed a w _ _ hr hy hS H
    refine ⟨fun h => (by rw [h] at hr; cases hr), fun j hj => ?_⟩
    by_cases hji : j = i
    · subst hji; exact hy.wpOp hi hS ⟨fun _ => hS, H⟩
    · have := ready_mono hj hji
      rw [H.1] at this
      cases this
  | succ fuel ih =>
    intro listed a w hml hfree hr hy hS H
    refine ⟨fun h => (by rw [h] at hr; cases hr), fun j hj => ?_⟩
    by_cases hji : j = i
    · subst hji; exact hy.wpOp hi hS ⟨fun _ => hS, H⟩
    · have h1 := H.2 j (ready_mono hj hji)
      obtain ⟨hjun, oj, hoj, hall⟩ := mem_ready.1 hj
      have hnot : ∀ e ∈ oj.after, Region.binds md e = true → e.on ≠ i := fun e he hb heq => by
        have h1 := hall e he hb
        have h0 := (mem_ready.1 hr).1
        rw [heq] at h1
        rcases Nat.lt_or_ge i listed.size with h' | h'
        · simp [h'] at h0 h1; rw [h0] at h1; cases h1
        · simp [Array.getElem?_eq_none h'] at h1
      have hjm : j ≠ m := fun e => by
        subst e
        rw [hoj] at hom
        injection hom with hom
        subst hom
        obtain ⟨e, he, hb, heq⟩ := hwait
        exact hnot e he hb heq
      have hml' : (listed.setIfInBounds j true).getD m true = false := by rw [getD_set_ne true hjm]; exact hml
      have hml2 : ((listed.setIfInBounds i true).setIfInBounds j true).getD m true = false := by rw [getD_set_ne true hjm, getD_set_ne true (Ne.symm hmi)]; exact hml
      have h2 := wpOp_putIf hoj (hfree j oj hoj hji hjun hnot) (fun cs b => hsel i oi cs b hi) (fun cs b => hsel j oj cs b hoj) hQ hy h1
      have hfree' : ∀ k ok, ops[k]? = some ok → k ≠ i → (listed.setIfInBounds j true).getD k true = false →
          (∀ e ∈ ok.after, Region.binds md e = true → e.on ≠ i) → oi.apart ops ok = true := fun k ok hk hki hun hno => by
        refine hfree k ok hk hki ?_ hno
        by_cases hjk : j = k
        · subst hjk; exact hjun
        · rw [getD_set_ne true hjk] at hun; exact hun
      refine wpOp_mono (fun a' w' h3 => ⟨fun _ => h3.2.1 hml2, ih (listed.setIfInBounds j true) a' w' hml' hfree' (ready_mono hr (Ne.symm hji)) h3.1 (h3.2.1 hml2) ?_⟩) h2
      rw [Array.setIfInBounds_comm _ _ hji]
      exact h3.2.2
/-- take number i first, its temporary told by its number -/
theorem takeU {i d : Nat} {oi om : Oper} {v : Value} {fuel : Nat} {listed : Array Bool} {a : Act} {w : World} (hi : ops[i]? = some oi) (hd : oi.dst = some d)
    (hs : Region.noSelect ops = true) (hf : Region.free md ops listed i = true) (hr : (Region.ready md ops listed).contains i = true)
    (hQ : ∀ c a w, Q (.panic c) (a.put oi.dst v) w → Q (.panic c) a w) (hmi : m ≠ i) (hom : ops[m]? = some om) (hwait : (om.after.any fun e => Region.binds md e && e.on == i) = true) (hml : listed.getD m true = false) (hy : YieldsIf P ops S oi v a) (hS : S w)
    (h : wpAnyU P md ops Q S m fuel (listed.setIfInBounds i true) (a.put (some d) v) w) : wpAnyU P md ops Q S m (fuel + 1) listed a w := by
  refine wpAnyU_first hi (Region.noSelect_spec hs) hQ hmi hom ?_ fuel listed a w hml (Region.free_spec hi hf) (by simpa using hr) hy hS (by rw [hd]; exact h)
  obtain ⟨k, hk, hb⟩ := Array.any_eq_true.1 hwait
  simp only [Bool.and_eq_true, beq_iff_eq] at hb
  exact ⟨_, Array.getElem_mem _, hb.1, hb.2⟩
/-- one operation alone may come up -/
theorem oneU {i : Nat} {oi : Oper} {fuel : Nat} {listed : Array Bool} {a : Act} {w : World} (hr : Region.ready md ops listed = [i]) (hi : ops[i]? = some oi)
    (h : ∀ K : Act → World → Prop, (∀ a' w', ((listed.setIfInBounds i true).getD m true = false → S w') → wpAnyU P md ops Q S m fuel (listed.setIfInBounds i true) a' w' → K a' w') → if Region.wanted oi (yielded ops a.tmps) = true then Oper.wp P oi a w K Q else K (a.put oi.dst undef) w) : wpAnyU P md ops Q S m (fuel + 1) listed a w := by
  refine ⟨fun h0 => absurd (hr ▸ h0) (by simp), fun j hj => ?_⟩
  rw [hr] at hj
  obtain rfl : j = i := by simpa using hj
  have h1 := h (fun a' w' => ((listed.setIfInBounds j true).getD m true = false → S w') ∧ wpAnyU P md ops Q S m fuel (listed.setIfInBounds j true) a' w') (fun a' w' h1 h2 => ⟨h1, h2⟩)
  unfold wpOp
  simp only [hi]
  split
  · rename_i hw
    rw [if_pos hw] at h1
    exact .inl h1
  · rename_i hw
    rw [if_neg hw] at h1
    exact h1
theorem doneU {listed : Array Bool} {a : Act} {w : World} (hr : Region.ready md ops listed = []) (h : Q .normal a w) : ∀ fuel, wpAnyU P md ops Q S m fuel listed a w
  | 0 => ⟨hr, h⟩
  | _ + 1 => ⟨fun _ => h, by rw [hr]; simp⟩
theorem wp_region_until (m : Nat) (S : World → Prop) {id : Nat} {a : Act} {w : World} (hm : P.follows .mixedOrders = true)
    (h : wpAnyU P .any ops Q S m ops.size (Array.replicate ops.size false) a w.drew) : (Code.region id ops true).wp P Q a w :=
  wp_region_any hm (wpAny_of_until _ _ _ _ h)
end
end Go.Proofs.YtlcpljpeljoboaaDoor
