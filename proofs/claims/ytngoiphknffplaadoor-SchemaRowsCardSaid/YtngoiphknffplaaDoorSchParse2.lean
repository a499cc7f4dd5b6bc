/- schema.Parse: the walk. For every text of at most some thousand bytes. -/
import Derived.Test.YtngoiphknffplaaDoorSchParse
namespace Go.Proofs.YtngoiphknffplaaDoor
open Go.RowKit Go.Shelf

attribute [local go_sem] Oper.semAt_some

theorem splitF_length (sep : List UInt8) : ∀ (f : Nat) (r : List UInt8), (splitF sep f r).length ≤ f + 1 ∧ ∀ p ∈ splitF sep f r, p.length ≤ r.length
  | 0, r => by simp [splitF]
  | f + 1, r => by
    unfold splitF
    split
    · simp
    · have ih := splitF_length sep f (r.drop ((Lib.index r sep).toNat + sep.length))
      refine ⟨by rw [List.length_cons]; omega, fun p hp => ?_⟩
      rcases List.mem_cons.1 hp with rfl | hp
      · rw [List.length_take]; omega
      · have := ih.2 p hp
        rw [List.length_drop] at this; omega
theorem nextP_facts {s sep : List UInt8} {pre : List (List UInt8)} {x : List UInt8} (h : NextP (splitV s sep) pre x) : pre.length ≤ s.length ∧ x.length ≤ s.length := by
  obtain ⟨rest, h⟩ := h
  have h1 := splitF_length sep s.length s
  have h2 : (splitV s sep).length = pre.length + (rest.length + 1) := by rw [h]; simp
  have h3 : x ∈ splitV s sep := by rw [h]; simp
  unfold splitV at h2 h3
  exact ⟨by have := h1.1; omega, h1.2 x h3⟩
theorem trim_length (t : List UInt8) : (bodyV t).length ≤ t.length := by
  unfold bodyV Lib.trimSuffix Lib.trimPrefix
  split <;> split <;> simp <;> omega

theorem OwnK.cells {α : Type} {t k : Nat} {enc : α → List Value} {w : World} {A : Option Addr} {c : Nat} {xs : List α} (h : OwnK t k enc w A c xs) : ∀ b ∈ fpo A, ∃ cur, w.heap[b]? = some (.cells cur t (0, 0)) := by
  intro b hb
  rcases h.2 with ⟨hv, _⟩ | ⟨g, cap, cur, hv, _, hg, _⟩
  · injection hv with hA _ _; subst hA; cases hb
  · have hA : A = some ⟨g, 0, none⟩ := by injection hv
    subst hA
    obtain rfl : b = g := by simpa [fpo] using hb
    exact ⟨_, hg⟩
theorem OwnK.same {α : Type} {t k : Nat} {enc : α → List Value} {w w' : World} {A : Option Addr} {c : Nat} {xs : List α} (h : OwnK t k enc w A c xs) (hb : ∀ b ∈ fpo A, w'.heap[b]? = w.heap[b]?) : OwnK t k enc w' A c xs := by
  refine ⟨h.1, ?_⟩
  rcases h.2 with hv | ⟨g, cap, cur, hv, hb1, hg, rest⟩
  · exact .inl hv
  · have hA : A = some ⟨g, 0, none⟩ := by injection hv
    subst hA
    exact .inr ⟨g, cap, cur, hv, hb1, (hb g (by simp [fpo])).trans hg, rest⟩

/-- between two rounds: the schema so far -/
structure ParI (w : World) (pre : List (List UInt8)) (W : World) : Prop where
  ex : ∃ A c, W.heap[w.heap.size]? = some (.cells #[.slice A pre.length c] 24 (0, 0)) ∧ OwnK 38 2 cdE W A c (pre.map colV) ∧ ∀ b ∈ fpo A, w.heap.size + 4 ≤ b
  t : Touch [] w W
  sz : w.heap.size + 4 ≤ W.heap.size
theorem ParI.put {w : World} {pre : List (List UInt8)} {W : World} (h : ParI w pre W) {k : Nat} {o o' : Obj} (hk : w.heap.size + 4 ≤ k) (hl : W.heap[k]? = some o) (ho : o.isCells = false) : ParI w pre (W.putObj k o') := by
  obtain ⟨⟨A, c, h1, h2, h3⟩, ht, hz⟩ := h
  have hoth : ∀ j, j ≠ k → (W.putObj k o').heap[j]? = W.heap[j]? := fun j hj => World.putObj_heap_other (by omega)
  refine ⟨⟨A, c, (hoth _ (by omega)).trans h1, h2.same (fun b hb => hoth b (fun e => ?_)), h3⟩, ⟨ht.os, ht.tape, ht.output, by have := ht.size; simpa [World.putObj] using this, fun j hj hm => (hoth j (by omega)).trans (ht.block j hj hm)⟩, by simpa [World.putObj] using hz⟩
  obtain ⟨cur, hc⟩ := h2.cells b hb
  rw [e, hl] at hc
  cases hc
  cases ho
theorem ParI.step {w : World} {pre : List (List UInt8)} {W W' : World} (h : ParI w pre W) (hs : StepS (w.heap.size + 1) W W') : ParI w pre W' := by
  obtain ⟨⟨A, c, h1, h2, h3⟩, ht, hz⟩ := h
  obtain ⟨v, rfl⟩ := hs
  have hoth : ∀ j, j ≠ w.heap.size + 1 → (W.setCell ⟨w.heap.size + 1, 0, none⟩ v).heap[j]? = W.heap[j]? := fun j hj => Below.heap_setCell W _ v j hj
  exact ⟨⟨A, c, (hoth _ (by omega)).trans h1, h2.same (fun b hb => hoth b (by have := h3 b hb; omega)), h3⟩, ht.setCell (p := ⟨w.heap.size + 1, 0, none⟩) (.inr (Nat.le_succ _)) v, by simpa [World.setCell] using hz⟩
theorem ParI.alloc {w : World} {pre : List (List UInt8)} {W : World} (h : ParI w pre W) (o : Obj) : ParI w pre (W.alloc o) := by
  obtain ⟨⟨A, c, h1, h2, h3⟩, ht, hz⟩ := h
  have tt := (Touch.refl [] W).alloc o
  exact ⟨⟨A, c, tt.blk h1 (by simp), h2.touch0 tt, h3⟩, ht.trans0 tt, by rw [World.size_alloc]; omega⟩

theorem cut_length (p : List UInt8) : (Lib.cut p [32]).1.length ≤ p.length := by
  unfold Lib.cut
  split
  · show (List.take _ p).length ≤ _; rw [List.length_take]; omega
  · exact Nat.le_refl _
theorem colV_ok (p : List UInt8) (h : p.length ≤ 100000) : (colV p).Ok := by
  refine ⟨?_, ?_⟩
  · show (S (Lib.cut p [32]).1).size ≤ _
    rw [S_size]
    have := cut_length p
    omega
  · show -9223372036854775808 ≤ typV _ ∧ typV _ ≤ _
    unfold typV
    split
    · omega
    · split <;> omega
/-- the outcome of Parse -/
def ParsePost (t : List UInt8) (w : World) (e : Ending) (w' : World) : Prop :=
  if t = [] ∨ showV (colsV t) ≠ t then e = .returned (.tuple #[.slice none 0 0, .int .i64 20]) ∧ Touch [] w w'
  else ∃ A c, e = .returned (.tuple #[.slice A (colsV t).length c, .int .i64 0]) ∧ Made 38 2 cdE (colsV t) A c w w'

set_option maxRecDepth 100000 in
set_option maxHeartbeats 6400000 in
theorem parse_any (t : List UInt8) (ht0 : t.length ≤ 100000) (w : World) (hG : Gs w) :
    Calls Tryd.prog 11 #[.string (S t)] w fun e w' => ParsePost t w e w' := by
  refine (callsIn_wide (n := 3)).1 ?_
  refine callsIn_of_wp_marks Tryd.func11 rfl trivial ?_ rfl
  simp only [Tryd.ntmps11, List.size_toArray, List.length_cons, List.length_nil, Nat.reduceAdd, Nat.reduceSub, Array.replicate_succ, Array.replicate_zero, List.push_toArray, List.append_toArray, List.nil_append, List.cons_append]
  have hbl := trim_length t
  gi_wp2_with fail
  refine ⟨trivial, ?_⟩
  refine (callsIn_wide.2 (cutPre_any t [40] _)).mono ?_
  rintro e w1 ⟨rfl, rfl⟩
  gi_wp2_with fail
  refine ⟨trivial, ?_⟩
  refine (callsIn_wide.2 (cutSuf_any (Lib.trimPrefix t [40]) [41] (by unfold Lib.trimPrefix; split <;> (try rw [List.length_drop]) <;> omega) _)).mono ?_
  rintro e w1 ⟨rfl, rfl⟩
  rw [show Lib.trimSuffix (Lib.trimPrefix t [40]) [41] = bodyV t from rfl]
  obtain ⟨s, hs⟩ : ∃ s, s = bodyV t := ⟨_, rfl⟩
  rw [← hs] at hbl ⊢
  have hsl : s.length ≤ 100000 := by omega
  have hcols : colsV t = (splitV s [44, 32]).map colV := by rw [hs]; rfl
  have Hcols := Lib.hid hcols
  clear hcols hs
  gi_wp2_with fail
  refine ⟨trivial, ?_⟩
  refine (callsIn_wide.2 (splitSeq_any s [44, 32] _)).mono ?_
  rintro e w1 ⟨rfl, rfl⟩
  have tA := (Touch.refl [] w).alloc (.cells #[.slice none 0 0] 24)
  have hspl := splitAt_new (w.alloc (.cells #[.slice none 0 0] 24)) s [44, 32]
  have tB := (((Touch.refl [] (w.alloc (.cells #[.slice none 0 0] 24))).alloc (.cells #[.string (S s)] 9)).alloc (.cells #[.string (S [44, 32])] 9)).alloc (.cells #[.int .i64 0] 3)
  have b0 := heap_alloc_new w (.cells #[.slice none 0 0] 24)
  have b0B := tB.blk b0 (by simp)
  have hG2 := (hG.touch0 tA).touch0 tB
  have hI0 : ParI w [] ((((w.alloc (.cells #[.slice none 0 0] 24)).alloc (.cells #[.string (S s)] 9)).alloc (.cells #[.string (S [44, 32])] 9)).alloc (.cells #[.int .i64 0] 3)) :=
    ⟨⟨none, 0, b0B, OwnK.nil _ _ _ _, by simp [fpo]⟩, tA.trans0 tB, by simp⟩
  obtain ⟨w2, hw2⟩ : ∃ w2, w2 = ((((w.alloc (.cells #[.slice none 0 0] 24)).alloc (.cells #[.string (S s)] 9)).alloc (.cells #[.string (S [44, 32])] 9)).alloc (.cells #[.int .i64 0] 3)) := ⟨_, rfl⟩
  have hw2s : w2.heap.size = w.heap.size + 4 := by rw [hw2]; simp
  rw [← hw2] at hspl hG2 hI0 ⊢
  rw [World.size_alloc] at hspl ⊢
  have hgl : (1 : Nat) < w.heap.size := by obtain ⟨m, hm⟩ := hG.len; exact World.block_lt_of_cell? w _ hm
  have Hw2s := Lib.hid hw2s
  clear hw2 hw2s tA tB b0 b0B
  gi_wp2_with fail
  refine range_box rfl (by omega) (gf := 64) rfl trivial (enters_of Tryd.func64 (by kernel_rfl) rfl)
    (split_seq s [44, 32] (by simp) (by simp) (by omega) (w.heap.size + 1) (by omega) 2 (by omega) w2 hspl hG2.len) ?hRn ?hbs (KpB.refl _ _) (fun _ => rfl)
    (ParI w) (fun _ _ => False) ?hIp (fun _ _ _ _ _ h => h.elim) (fun _ _ _ hs h => h.step hs) (fun o1 o2 => (hI0.alloc o1).alloc o2) ?a1 ?assign ?body ?done (fun _ _ _ _ _ h => h.elim)
  case assign =>
    intro l x W K hK
    gi_wp2
    exact hK
  case hRn =>
    rintro A A' ⟨v, rfl⟩ k o ho hn
    unfold World.setCell
    rw [Array.getElem?_modify]
    split
    · rename_i e
      rw [ho]
      cases o <;> simp_all [Obj.isCells]
    · exact ho
  case hbs =>
    intro k hk
    rw [Hw2s.out]
    simp only [List.mem_cons, List.not_mem_nil, or_false] at hk
    rcases hk with rfl | rfl | rfl | rfl <;> omega
  case hIp =>
    intro s A k o o' h hk hl ho
    exact h.put (by rw [← Hw2s.out]; exact hk) hl ho
  case body =>
    rintro l pre x W hI hpf
    obtain ⟨hpl, hxl⟩ := nextP_facts hpf
    obtain ⟨⟨A, c, h1, h2, h3⟩, hT, hWz⟩ := hI
    have hGW := hG.touch0 hT
    have hcut := cutAt_any x [32] (by omega) W hGW
    have hcol : colV x = ⟨S (Lib.cut x [32]).1, typV (Lib.cut x [32]).2.1⟩ := rfl
    obtain ⟨⟨nm, wd, fd⟩, hcx⟩ : ∃ q, q = Lib.cut x [32] := ⟨_, rfl⟩
    rw [← hcx] at hcut hcol
    simp only at hcut hcol
    have Hcut := Lib.hid hcut; have Hcol := Lib.hid hcol
    clear hcut hcx hcol
    gi_wp2_with fail
    refine ⟨trivial, ?_⟩
    refine (callsIn_of Hcut.out).mono ?_
    rintro e wd1 ⟨rfl, nd, rfl⟩
    have hty := idx_typ wd
    obtain ⟨kx, hkx⟩ : ∃ kx, kx = Lib.idxOfS [S [], S [105, 110, 116], S [116, 101, 120, 116]] (S wd) := ⟨_, rfl⟩
    obtain ⟨V, hV⟩ : ∃ V, V = (W.drewN nd).drew := ⟨_, rfl⟩
    have tV : Touch [] W V := by rw [hV]; exact ((Touch.refl [] W).drewN nd).drew
    have hidx := idxW_any wd V (hGW.touch0 tV)
    rw [← hkx] at hty hidx
    have Hidx := Lib.hid hidx
    clear hkx hidx
    have bV := tV.blk h1 (by simp)
    have cV := cell_blk bV (i := 0) rfl
    have ownV := h2.touch0 tV
    have ta := (Touch.refl [] V).alloc (.cells #[.string (S nm), .int .i64 (typV wd)] 38)
    have hownV := ownV.touch0 ta
    have bV2 := ta.blk bV (by simp)
    have cV2 := cell_blk bV2 (i := 0) rfl
    have hrdV := RdK.one (enc := cdE) V 38 (colV x) #[.string (S nm), .int .i64 (typV wd)] (by rw [Hcol.out]; rfl)
    have hnA : w.heap.size ∉ fpo A := fun hm => by have := h3 _ hm; omega
    have hcl := h2.cells
    have hend : ∀ A3 c3 w3, OwnK 38 2 cdE w3 A3 c3 (pre.map colV ++ [colV x]) → Touch (fpo A) (V.alloc (.cells #[.string (S nm), .int .i64 (typV wd)] 38)) w3 → (∀ b ∈ fpo A3, b ∈ fpo A ∨ b = (V.alloc (.cells #[.string (S nm), .int .i64 (typV wd)] 38)).heap.size) →
        KeepN w2.heap.size W (w3.setCell ⟨w.heap.size, 0, none⟩ (.slice A3 (pre.length + 1) c3)) ∧ KpB [w.heap.size + 1 + 1, w.heap.size + 1, w.heap.size + 1 + 2, 1] W (w3.setCell ⟨w.heap.size, 0, none⟩ (.slice A3 (pre.length + 1) c3)) ∧ ParI w (pre ++ [x]) (w3.setCell ⟨w.heap.size, 0, none⟩ (.slice A3 (pre.length + 1) c3)) := fun A3 c3 w3 hown3 ht3 hf3 => by
      have hTT : Touch (w.heap.size :: fpo A) W (w3.setCell ⟨w.heap.size, 0, none⟩ (.slice A3 (pre.length + 1) c3)) :=
        (((tV.trans0 ta).mono (fp2 := w.heap.size :: fpo A) (fun b hb => by simp at hb)).trans ht3 (fun b hb => .inl (by simp [hb]))).setCell (p := ⟨w.heap.size, 0, none⟩) (.inl (by simp)) _
      have hWs := hT.size
      have hsz : V.heap.size = W.heap.size := by rw [hV]; rfl
      have hb3 := ht3.blk bV2 hnA
      have hf3' : ∀ b ∈ fpo A3, w.heap.size + 4 ≤ b := fun b hb => by
        rcases hf3 b hb with e | e
        · exact h3 b e
        · rw [World.size_alloc, hsz] at e
          omega
      refine ⟨KeepN.of_touch hTT (fun k hk => ?_), fun k hk => ?_, ⟨⟨A3, c3, ?_, ?_, hf3'⟩, ?_, by have := hTT.size; omega⟩⟩
      · rcases List.mem_cons.1 hk with rfl | hk
        · left; rw [Hw2s.out]; omega
        · right
          intro o ho
          obtain ⟨cur, hc⟩ := hcl k hk
          rw [ho] at hc
          cases hc
          rfl
      · refine hTT.block k ?_ ?_
        · simp only [List.mem_cons, List.not_mem_nil, or_false] at hk
          rcases hk with rfl | rfl | rfl | rfl <;> omega
        · intro hm
          simp only [List.mem_cons, List.not_mem_nil, or_false] at hk
          rcases List.mem_cons.1 hm with hm | hm
          · rcases hk with rfl | rfl | rfl | rfl <;> omega
          · have := h3 k hm
            rcases hk with rfl | rfl | rfl | rfl <;> omega
      · rw [set_blk hb3]
        simp
      · rw [List.map_append]
        exact hown3.same (fun b hb => Below.heap_setCell w3 _ _ b (fun e => by have := hf3' b hb; simp only at e; omega))
      · exact hT.trans hTT (fun b hb => .inr (by
          rcases List.mem_cons.1 hb with rfl | hb
          · exact Nat.le_refl _
          · have := h3 b hb; omega))
    have Hend := Lib.hid hend
    clear hend hcl h1 h2 ownV ta hG2 hspl hI0
    have HV := Lib.hid hV
    clear hV
    gi_wp2_with fail
    refine region_round (S := fun _ => True) (by kernel_rfl) (by kernel_rfl) ?_
    rw [← HV.out]
    refine take_d (i := 1) (d := 31) (v := ?_) rfl rfl (by kernel_rfl) (by kernel_rfl) (by kernel_rfl) (fun _ _ _ h => q1_panic _ _ _ _ _ h) (Or.inl ⟨by rfl, ?_⟩) trivial ?_
    rotate_left
    · intro w hSw; clear hSw; go_simp; (try with_reducible rfl)
    try simp only [Act.put, List.setIfInBounds_toArray, List.set_cons_zero, List.set_cons_succ]
    refine take_d (i := 2) (d := 32) (v := ?_) rfl rfl (by kernel_rfl) (by kernel_rfl) (by kernel_rfl) (fun _ _ _ h => q1_panic _ _ _ _ _ h) (Or.inl ⟨by rfl, ?_⟩) trivial ?_
    rotate_left
    · intro w hSw; clear hSw; go_simp; (try with_reducible rfl)
    try simp only [Act.put, List.setIfInBounds_toArray, List.set_cons_zero, List.set_cons_succ]
    refine take_d (i := 3) (d := 33) (v := ?_) rfl rfl (by kernel_rfl) (by kernel_rfl) (by kernel_rfl) (fun _ _ _ h => q1_panic _ _ _ _ _ h) (Or.inl ⟨by rfl, ?_⟩) trivial ?_
    rotate_left
    · intro w hSw; clear hSw; go_simp; (try with_reducible rfl)
    try simp only [Act.put, List.setIfInBounds_toArray, List.set_cons_zero, List.set_cons_succ]
    refine wpAnyH_ready (rs := [0, 4]) (by kernel_rfl) (by simp) ?_
    refine AllReadyH.cons rfl (fun K hK => ?_) (AllReadyH.cons rfl (fun K hK => ?_) AllReadyH.nil)
    · go_simp
      refine hK.out _ _ trivial (fun _ => ?_)
      clear hK K
      try simp only [Act.put, List.setIfInBounds_toArray, List.set_cons_zero, List.set_cons_succ]
      refine wpAnyH_ready (rs := [4]) (by kernel_rfl) (by simp) ?_
      refine AllReadyH.cons rfl (fun K hK => ?_) AllReadyH.nil
      go_simp
      go_at_call 36
      refine (Hidx.out).mono ?_
      rintro e w' ⟨rfl, rfl⟩
      (try go_wp2_with fail)
      refine hK.out _ _ trivial (fun _ => ?_)
      clear hK K
      try simp only [Act.put, List.setIfInBounds_toArray, List.set_cons_zero, List.set_cons_succ]
      refine take_d (i := 5) (d := 35) (v := ?_) rfl rfl (by kernel_rfl) (by kernel_rfl) (by kernel_rfl) (fun _ _ _ h => q1_panic _ _ _ _ _ h) (Or.inl ⟨by rfl, ?_⟩) trivial ?_
      rotate_left
      · intro w hSw; clear hSw; go_simp; (try with_reducible rfl)
      try simp only [Act.put, List.setIfInBounds_toArray, List.set_cons_zero, List.set_cons_succ]
      refine take_d (i := 6) (d := 36) (v := ?_) rfl rfl (by kernel_rfl) (by kernel_rfl) (by kernel_rfl) (fun _ _ _ h => q1_panic _ _ _ _ _ h) (Or.inl ⟨by rfl, ?_⟩) trivial ?_
      rotate_left
      · intro w hSw; clear hSw; go_simp; (try with_reducible rfl)
      try simp only [Act.put, List.setIfInBounds_toArray, List.set_cons_zero, List.set_cons_succ]
      refine wpAnyH_ready (rs := [7]) (by kernel_rfl) (by simp) ?_
      refine AllReadyH.cons rfl (fun K hK => ?_) AllReadyH.nil
      go_simp
      refine hK.out _ _ trivial (fun _ => ?_)
      clear hK K
      try simp only [Act.put, List.setIfInBounds_toArray, List.set_cons_zero, List.set_cons_succ]
      refine wpAnyH_ready (rs := [8]) (by kernel_rfl) (by simp) ?_
      refine AllReadyH.cons rfl (fun K hK => ?_) AllReadyH.nil
      refine step_appK rfl (.tmp 30) (.tmp 37) 24 rfl 38 _ 2 24 info_col Tryd.underlying24 rfl (by omega) cdE_length cdE_one A pre.length c (pre.map colV) (by rw [List.length_map]) rfl (by exact hownV) (some ⟨V.heap.size, 0, none⟩) 1 1 [colV x] rfl rfl (by exact hrdV) (by omega) (by omega) ?_
      intro A3 c3 w3 hown3 ht3 hf3
      have c03 := ht3.cell cV2 hnA
      have z03 : w3.frozen? ⟨w.heap.size, 0, none⟩ = false := by
        have hb3 := ht3.blk bV2 hnA
        simp [World.frozen?, hb3]
      refine hK.out _ _ trivial (fun _ => ?_)
      clear hK K
      try simp only [Act.put, List.setIfInBounds_toArray, List.set_cons_zero, List.set_cons_succ]
      refine wpAnyH_ready (rs := [9]) (by kernel_rfl) (by simp) ?_
      refine AllReadyH.cons rfl (fun K hK => ?_) AllReadyH.nil
      go_simp
      refine hK.out _ _ trivial (fun _ => ?_)
      clear hK K
      try simp only [Act.put, List.setIfInBounds_toArray, List.set_cons_zero, List.set_cons_succ]
      refine wpAnyH_done (by kernel_rfl) ?_ _
      refine ⟨rfl, ?_⟩
      gi_wp2
      exact Hend.out A3 c3 w3 hown3 ht3 hf3
    · go_simp
      go_at_call 36
      refine (Hidx.out).mono ?_
      rintro e w' ⟨rfl, rfl⟩
      (try go_wp2_with fail)
      refine hK.out _ _ trivial (fun _ => ?_)
      clear hK K
      try simp only [Act.put, List.setIfInBounds_toArray, List.set_cons_zero, List.set_cons_succ]
      refine take_d (i := 5) (d := 35) (v := ?_) rfl rfl (by kernel_rfl) (by kernel_rfl) (by kernel_rfl) (fun _ _ _ h => q1_panic _ _ _ _ _ h) (Or.inl ⟨by rfl, ?_⟩) trivial ?_
      rotate_left
      · intro w hSw; clear hSw; go_simp; (try with_reducible rfl)
      try simp only [Act.put, List.setIfInBounds_toArray, List.set_cons_zero, List.set_cons_succ]
      refine take_d (i := 6) (d := 36) (v := ?_) rfl rfl (by kernel_rfl) (by kernel_rfl) (by kernel_rfl) (fun _ _ _ h => q1_panic _ _ _ _ _ h) (Or.inl ⟨by rfl, ?_⟩) trivial ?_
      rotate_left
      · intro w hSw; clear hSw; go_simp; (try with_reducible rfl)
      try simp only [Act.put, List.setIfInBounds_toArray, List.set_cons_zero, List.set_cons_succ]
      refine wpAnyH_ready (rs := [0, 7]) (by kernel_rfl) (by simp) ?_
      refine AllReadyH.cons rfl (fun K hK => ?_) (AllReadyH.cons rfl (fun K hK => ?_) AllReadyH.nil)
      · go_simp
        refine hK.out _ _ trivial (fun _ => ?_)
        clear hK K
        try simp only [Act.put, List.setIfInBounds_toArray, List.set_cons_zero, List.set_cons_succ]
        refine wpAnyH_ready (rs := [7]) (by kernel_rfl) (by simp) ?_
        refine AllReadyH.cons rfl (fun K hK => ?_) AllReadyH.nil
        go_simp
        refine hK.out _ _ trivial (fun _ => ?_)
        clear hK K
        try simp only [Act.put, List.setIfInBounds_toArray, List.set_cons_zero, List.set_cons_succ]
        refine wpAnyH_ready (rs := [8]) (by kernel_rfl) (by simp) ?_
        refine AllReadyH.cons rfl (fun K hK => ?_) AllReadyH.nil
        refine step_appK rfl (.tmp 30) (.tmp 37) 24 rfl 38 _ 2 24 info_col Tryd.underlying24 rfl (by omega) cdE_length cdE_one A pre.length c (pre.map colV) (by rw [List.length_map]) rfl (by exact hownV) (some ⟨V.heap.size, 0, none⟩) 1 1 [colV x] rfl rfl (by exact hrdV) (by omega) (by omega) ?_
        intro A3 c3 w3 hown3 ht3 hf3
        have c03 := ht3.cell cV2 hnA
        have z03 : w3.frozen? ⟨w.heap.size, 0, none⟩ = false := by
          have hb3 := ht3.blk bV2 hnA
          simp [World.frozen?, hb3]
        refine hK.out _ _ trivial (fun _ => ?_)
        clear hK K
        try simp only [Act.put, List.setIfInBounds_toArray, List.set_cons_zero, List.set_cons_succ]
        refine wpAnyH_ready (rs := [9]) (by kernel_rfl) (by simp) ?_
        refine AllReadyH.cons rfl (fun K hK => ?_) AllReadyH.nil
        go_simp
        refine hK.out _ _ trivial (fun _ => ?_)
        clear hK K
        try simp only [Act.put, List.setIfInBounds_toArray, List.set_cons_zero, List.set_cons_succ]
        refine wpAnyH_done (by kernel_rfl) ?_ _
        refine ⟨rfl, ?_⟩
        gi_wp2
        exact Hend.out A3 c3 w3 hown3 ht3 hf3
      · go_simp
        refine hK.out _ _ trivial (fun _ => ?_)
        clear hK K
        try simp only [Act.put, List.setIfInBounds_toArray, List.set_cons_zero, List.set_cons_succ]
        refine wpAnyH_ready (rs := [0]) (by kernel_rfl) (by simp) ?_
        refine AllReadyH.cons rfl (fun K hK => ?_) AllReadyH.nil
        go_simp
        refine hK.out _ _ trivial (fun _ => ?_)
        clear hK K
        try simp only [Act.put, List.setIfInBounds_toArray, List.set_cons_zero, List.set_cons_succ]
        refine wpAnyH_ready (rs := [8]) (by kernel_rfl) (by simp) ?_
        refine AllReadyH.cons rfl (fun K hK => ?_) AllReadyH.nil
        refine step_appK rfl (.tmp 30) (.tmp 37) 24 rfl 38 _ 2 24 info_col Tryd.underlying24 rfl (by omega) cdE_length cdE_one A pre.length c (pre.map colV) (by rw [List.length_map]) rfl (by exact hownV) (some ⟨V.heap.size, 0, none⟩) 1 1 [colV x] rfl rfl (by exact hrdV) (by omega) (by omega) ?_
        intro A3 c3 w3 hown3 ht3 hf3
        have c03 := ht3.cell cV2 hnA
        have z03 : w3.frozen? ⟨w.heap.size, 0, none⟩ = false := by
          have hb3 := ht3.blk bV2 hnA
          simp [World.frozen?, hb3]
        refine hK.out _ _ trivial (fun _ => ?_)
        clear hK K
        try simp only [Act.put, List.setIfInBounds_toArray, List.set_cons_zero, List.set_cons_succ]
        refine wpAnyH_ready (rs := [9]) (by kernel_rfl) (by simp) ?_
        refine AllReadyH.cons rfl (fun K hK => ?_) AllReadyH.nil
        go_simp
        refine hK.out _ _ trivial (fun _ => ?_)
        clear hK K
        try simp only [Act.put, List.setIfInBounds_toArray, List.set_cons_zero, List.set_cons_succ]
        refine wpAnyH_done (by kernel_rfl) ?_ _
        refine ⟨rfl, ?_⟩
        gi_wp2
        exact Hend.out A3 c3 w3 hown3 ht3 hf3
  case done =>
    rintro D xs W hD rfl hI hK
    obtain ⟨⟨A, c, h1, h2, h3⟩, hT, hWz⟩ := hI
    have cW := cell_blk h1 (i := 0) rfl
    have hxs := splitF_length [44, 32] s.length s
    rw [← Hcols.out] at h2
    have hlen : (colsV t).length = (splitV s [44, 32]).length := by rw [Hcols.out, List.length_map]
    have hok : ∀ c ∈ colsV t, c.Ok := fun c hc => by
      rw [Hcols.out] at hc
      obtain ⟨p, hp, rfl⟩ := List.mem_map.1 hc
      exact colV_ok p (by have := hxs.2 p hp; omega)
    have hshow := show_any A c (splitV s [44, 32]).length (colsV t) hlen hok W h2.rd (hG.touch0 hT) (by have := hxs.1; unfold splitV; omega)
    rw [← hlen] at cW hshow
    have hDc : ∀ b ∈ fpo A, b ≠ D := fun b hb e => by
      obtain ⟨cur, hc⟩ := h2.cells b hb
      rw [e, hK] at hc
      cases hc
    have hputT : ∀ W', Touch [] W W' → ∀ o, Touch [] w (W'.putObj D o) := fun W' tW o =>
      ⟨tW.os.trans hT.os, tW.tape.trans hT.tape, tW.output.trans hT.output, by have := (hT.trans0 tW).size; simpa [World.putObj] using this, fun k hk hm => by
        rw [Hw2s.out] at hD
        exact (World.putObj_heap_other (by omega)).trans ((hT.trans0 tW).block k hk hm)⟩
    have hputO : ∀ W', Touch [] W W' → ∀ o, OwnK 38 2 cdE (W'.putObj D o) A c (colsV t) := fun W' tW o =>
      (h2.touch0 tW).same (fun b hb => World.putObj_heap_other (by have := hDc b hb; omega))
    have hKt : ∀ W', Touch [] W W' → W'.heap[D]? = some (.deferred (some [])) := fun W' tW => tW.blk hK (by simp)
    have HputT := Lib.hid hputT; have HputO := Lib.hid hputO; have HKt := Lib.hid hKt; have Hshow := Lib.hid hshow
    have Hh3 := Lib.hid h3
    clear hputT hputO hKt hDc hshow hlen hok hxs h1 h2 hK
    by_cases h0 : t = []
    · have Hp : Hid (∀ e w', e = .returned (.tuple #[.slice none 0 0, .int .i64 20]) → Touch [] w w' → ParsePost t w e w') := Lib.hid (fun e w' he htt => by unfold ParsePost; rw [if_pos (.inl h0)]; exact ⟨he, htt⟩)
      subst h0
      have q1 : (S []).toList = [] := by rw [S_list]
      gi_wp2
      refine ⟨trivial, ?_⟩
      gi_wp2
      exact ⟨by simp, .inl ⟨_, _, rfl, run_takeDeferred (HKt.out _ (Touch.refl _ _)), ⟨_, results_tmp2 rfl _ _ _, Hp.out _ _ rfl (HputT.out _ (Touch.refl _ _) _)⟩⟩⟩
    · have hq : (S t).toList.isEmpty = false := by rw [S_list]; cases t; exact absurd rfl h0; rfl
      have hq2 : ((S t).toList == []) = false := by rw [S_list]; cases t; exact absurd rfl h0; rfl
      have hq3 : ((S t).toList = []) = False := eq_false (by rw [S_list]; exact h0)
      by_cases hsh : showV (colsV t) = t
      · have Hp : Hid (∀ e w', (∃ A c, e = .returned (.tuple #[.slice A (colsV t).length c, .int .i64 0]) ∧ Made 38 2 cdE (colsV t) A c w w') → ParsePost t w e w') := Lib.hid (fun e w' he => by
          unfold ParsePost; rw [if_neg (fun h => by rcases h with h | h; exact h0 h; exact h hsh)]; exact he)
        have hb := S_beq (showV (colsV t)) t
        have hbn := S_bne (showV (colsV t)) t
        rw [decide_eq_true hsh] at hb hbn
        have Hsh := Lib.hid hsh
        clear hsh h0
        gi_wp2_with fail
        refine ⟨trivial, ?_⟩
        refine (callsIn_wide.2 Hshow.out).mono ?_
        rintro e W1 ⟨rfl, tW1⟩
        have cW1 := tW1.cell cW (by simp)
        gi_wp2
        exact ⟨by simp, .inl ⟨_, _, rfl, run_takeDeferred (HKt.out _ tW1), ⟨_, results_tmp2 rfl _ _ _, Hp.out _ _ ⟨A, c, rfl, HputO.out _ tW1 _, HputT.out _ tW1 _, fun b hb => by have := Hh3.out b hb; omega⟩⟩⟩⟩
      · have Hp : Hid (∀ e w', e = .returned (.tuple #[.slice none 0 0, .int .i64 20]) → Touch [] w w' → ParsePost t w e w') := Lib.hid (fun e w' he htt => by unfold ParsePost; rw [if_pos (.inr hsh)]; exact ⟨he, htt⟩)
        have hb := S_beq (showV (colsV t)) t
        have hbn := S_bne (showV (colsV t)) t
        rw [decide_eq_false hsh] at hb hbn
        clear hsh h0
        gi_wp2_with fail
        refine ⟨trivial, ?_⟩
        refine (callsIn_wide.2 Hshow.out).mono ?_
        rintro e W1 ⟨rfl, tW1⟩
        gi_wp2
        exact ⟨by simp, .inl ⟨_, _, rfl, run_takeDeferred (HKt.out _ tW1), ⟨_, results_tmp2 rfl _ _ _, Hp.out _ _ rfl (HputT.out _ tW1 _)⟩⟩⟩
end Go.Proofs.YtngoiphknffplaaDoor
