/- bywashlaw10.CronParses: the walk of the law. For every text. -/
import Derived.Test.YtoabloeechphkaaDoorCronPR
import Derived.Test.YtoabloeechphkaaDoorCronAwake
namespace Go.Proofs.YtoabloeechphkaaDoor
open Go.RowKit Go.Shelf

set_option maxRecDepth 100000 in
set_option maxHeartbeats 12800000 in
theorem parses_law (s : List UInt8) (hs : s.length ≤ maxLen) (w : World) (hG : Gc w) :
    Calls Tryd.prog 3 #[.string (S s)] w fun e w' => e = .returned (.bool true) ∧ Touch [] w w' := by
  have HAw := Lib.hid (fun w' h => awake10_any w' h)
  have HG := Lib.hid hG
  have hsz := S_size s
  have hm : maxLen = 9223372036854775807 := rfl
  rw [hm] at hs
  clear hm
  by_cases h300 : 300 < s.length
  · have h3 : (300 : Int) < s.length := by omega
    go_enter Tryd.func3, Tryd.ntmps3
    go_wp2_with fail
    refine (HAw.out _ HG.out).mono ?_
    rintro e w1 ⟨rfl, t1⟩
    go_wp2_with fail
    go_ret
    exact ⟨rfl, t1⟩
  have h3 : ¬ (300 : Int) < s.length := by omega
  have hP := parse_any s (by omega) w hG
  unfold ParsePost at hP
  have hRP := fun w' => rparse_any s (by omega) w'
  have hok := parseC_ok s
  have hright : (parseC s).1 = 0 → (parseC s).2.right = true := parse_right
  obtain ⟨⟨err, c⟩, hc⟩ : ∃ q, q = parseC s := ⟨_, rfl⟩
  rw [← hc] at hP hRP hok hright
  simp only at hP hRP hok hright
  clear hc
  have hR := fun w' => lright_any c hok w'
  have hF := fun w' => ref_any c hok w'
  have hCh := fun w' h => check_any c hok w' h
  have hst := fun w' => run_store34 c w'
  have hin := info34 c
  obtain ⟨X, hX⟩ : ∃ X, X = (refC c).toArray := ⟨_, rfl⟩
  have hst : ∀ w' : World, (storeCells ⟨w'.heap.size, 0, none⟩ X.toList).run Tryd.prog (w'.alloc (.cells Tryd.zeroCells34 34)) = .ok () (w'.alloc (.cells X 34)) := fun w' => by rw [hX]; exact hst w'
  have h325 : X.size = 325 := by rw [hX, List.size_toArray, refC_length]
  have HX := Lib.hid (show ∃ c : SD, X = (refC c).toArray from ⟨c, hX⟩)
  rw [← hX] at hF hRP hin
  unfold SD.val SD.row at hP hR hF hCh
  have HP := Lib.hid hP; have HRP := Lib.hid hRP; have Hright := Lib.hid hright; have HRt := Lib.hid hR; have HF := Lib.hid hF; have HChk := Lib.hid hCh; have Hst := Lib.hid hst; have Hin := Lib.hid hin
  clear hP hRP hright hR hF hCh hst hin hX h300
  go_enter Tryd.func3, Tryd.ntmps3
  go_wp2_with fail
  refine HP.out.mono ?_
  rintro e w1 ⟨rfl, t1⟩
  have hS := specAt_new w1 c
  have ta := t1.alloc (.cells c.row 27)
  obtain ⟨W2, hW2⟩ : ∃ W2, W2 = w1.alloc (.cells c.row 27) := ⟨_, rfl⟩
  rw [← hW2] at hS ta
  have hW2' := hW2
  unfold SD.row at hW2'
  have HW2 := Lib.hid hW2'
  have HS0 := Lib.hid hS
  clear hS hW2 hW2'
  go_wp2_with (with_reducible rw [← HW2.out])
  try rw [← HW2.out]
  refine (HRP.out _).mono ?_
  rintro e w3 ⟨rfl, t3⟩
  have hst := Hst.out w3
  have T2 := (ta.trans0 t3).alloc (.cells X 34)
  have hg5 := heap_alloc_new w3 (.cells X 34)
  have hS3 := (HS0.out.touch0 t3).touch0 ((Touch.refl [] w3).alloc (.cells X 34))
  go_wp2_with fail
  clear hst
  obtain ⟨G, hGe⟩ : ∃ G, G = w3.heap.size := ⟨_, rfl⟩
  obtain ⟨V, hV⟩ : ∃ V, V = w3.alloc (.cells X 34) := ⟨_, rfl⟩
  rw [← hV] at T2 hg5 hS3 ⊢
  rw [← hGe] at hg5 ⊢
  have HG5 := Lib.hid hg5
  have HS := Lib.hid (fun (w' : World) (t : Touch [] V w') => hS3.touch0 t)
  clear hV hGe hg5 hS3
  refine (wpIn_wide (n := 1)).1 (wpIn_mono (Q := Q1 _) (wpIn_wide.2 ?_) (fun e a w h => by obtain ⟨rfl, h⟩ := h; exact h))
  refine wp_region_held_drew (S := fun w' => Touch [] V w') (by kernel_rfl) (Touch.refl _ _).drew (fun _ => ?_)
  refine take_d (i := 0) (d := 21) (v := ?_) rfl rfl (by kernel_rfl) (by kernel_rfl) (by kernel_rfl) (fun _ _ _ h => q1_panic _ _ _ _ _ h) (Or.inl ⟨by rfl, ?_⟩) (Touch.refl _ _).drew ?_
  rotate_left
  · intro w hSw; (try dsimp only at hSw); go_simp; (try with_reducible rfl)
  try simp only [Act.put, List.setIfInBounds_toArray, List.set_cons_zero, List.set_cons_succ]
  refine take_d (i := 1) (d := 22) (v := ?_) rfl rfl (by kernel_rfl) (by kernel_rfl) (by kernel_rfl) (fun _ _ _ h => q1_panic _ _ _ _ _ h) (Or.inl ⟨by rfl, ?_⟩) (Touch.refl _ _).drew ?_
  rotate_left
  · intro w hSw; (try dsimp only at hSw); go_simp; (try with_reducible rfl)
  try simp only [Act.put, List.setIfInBounds_toArray, List.set_cons_zero, List.set_cons_succ]
  refine take_d (i := 2) (d := 23) (v := ?_) rfl rfl (by kernel_rfl) (by kernel_rfl) (by kernel_rfl) (fun _ _ _ h => q1_panic _ _ _ _ _ h) (Or.inl ⟨by rfl, ?_⟩) (Touch.refl _ _).drew ?_
  rotate_left
  · intro w hSw; (try dsimp only at hSw); go_simp; (try with_reducible rfl)
  try simp only [Act.put, List.setIfInBounds_toArray, List.set_cons_zero, List.set_cons_succ]
  refine take_d (i := 3) (d := 24) (v := ?_) rfl rfl (by kernel_rfl) (by kernel_rfl) (by kernel_rfl) (fun _ _ _ h => q1_panic _ _ _ _ _ h) (Or.inl ⟨by rfl, ?_⟩) (Touch.refl _ _).drew ?_
  rotate_left
  · intro w hSw; (try dsimp only at hSw); go_simp; (try with_reducible rfl)
  try simp only [Act.put, List.setIfInBounds_toArray, List.set_cons_zero, List.set_cons_succ]
  refine take_d (i := 4) (d := 25) (v := ?_) rfl rfl (by kernel_rfl) (by kernel_rfl) (by kernel_rfl) (fun _ _ _ h => q1_panic _ _ _ _ _ h) (Or.inl ⟨by rfl, ?_⟩) (Touch.refl _ _).drew ?_
  rotate_left
  · intro w hSw; obtain ⟨s0, s1, s2, s3, s4, a0, a1, a2, a3, a4⟩ := HS.out _ hSw; go_simp; (try with_reducible rfl)
  try simp only [Act.put, List.setIfInBounds_toArray, List.set_cons_zero, List.set_cons_succ]
  refine wpAnyH_ready (rs := [5, 6]) (by kernel_rfl) (by simp) ?_
  refine AllReadyH.cons rfl (fun K hK => ?_) (AllReadyH.cons rfl (fun K hK => ?_) AllReadyH.nil)
  · go_simp
    go_at_call 12
    refine (HF.out _).mono ?_
    rintro e wc ⟨rfl, tc⟩
    (try go_wp2_with fail)
    refine hK.out _ _ ((Touch.refl [] _).drew.trans0 tc) (fun _ => ?_)
    clear hK K
    try simp only [Act.put, List.setIfInBounds_toArray, List.set_cons_zero, List.set_cons_succ]
    refine wpAnyH_ready (rs := [6]) (by kernel_rfl) (by simp) ?_
    refine AllReadyH.cons rfl (fun K hK => ?_) AllReadyH.nil
    refine wp_load_row 34 (.tmp 5) rfl G rfl _ _ _ _ (((Touch.refl [] _).drew.trans0 tc).blk HG5.out (by simp)) Tryd.underlying34 rfl Hin.out ?_
    refine hK.out _ _ ((Touch.refl [] _).drew.trans0 tc) (fun _ => ?_)
    clear hK K
    try simp only [Act.put, List.setIfInBounds_toArray, List.set_cons_zero, List.set_cons_succ]
    refine wpAnyH_ready (rs := [7]) (by kernel_rfl) (by simp) ?_
    refine AllReadyH.cons rfl (fun K hK => ?_) AllReadyH.nil
    refine wp_neq_ref X HX.out (.tmp 26) (.tmp 27) 34 rfl rfl rfl ?_
    refine hK.out _ _ ((Touch.refl [] _).drew.trans0 tc) (fun _ => ?_)
    clear hK K
    try simp only [Act.put, List.setIfInBounds_toArray, List.set_cons_zero, List.set_cons_succ]
    refine wpAnyH_ready (rs := [8]) (by kernel_rfl) (by simp) ?_
    refine AllReadyH.cons rfl (fun K hK => ?_) AllReadyH.nil
    go_simp
    refine hK.out _ _ ((Touch.refl [] _).drew.trans0 tc) (fun _ => ?_)
    clear hK K
    try simp only [Act.put, List.setIfInBounds_toArray, List.set_cons_zero, List.set_cons_succ]
    refine wpAnyH_done (by kernel_rfl) ?_ _
    refine ⟨rfl, ?_⟩
    have T3 : Touch [] w wc := T2.trans0 ((Touch.refl [] _).drew.trans0 tc)
    have HS3 := Lib.hid (HS.out _ ((Touch.refl [] _).drew.trans0 tc))
    clear tc
    by_cases he : err = 0
    · have Hr := Lib.hid (Hright.out he)
      subst he
      obtain ⟨s0, s1, s2, s3, s4, a0, a1, a2, a3, a4⟩ := HS3.out
      go_wp2_with fail
      refine (HRt.out _).mono ?_
      rintro e w5 ⟨rfl, t5⟩
      rw [Hr.out]
      clear s0 s1 s2 s3 s4 a0 a1 a2 a3 a4
      obtain ⟨s0, s1, s2, s3, s4, a0, a1, a2, a3, a4⟩ := HS3.out.touch0 t5
      have hce := SD.err_yes Hr.out
      have hck := HChk.out w5 (HG.out.touch0 (T3.trans0 t5))
      rw [hce] at hck
      have Hck := Lib.hid hck
      clear hck hce
      go_wp2_with fail
      refine Hck.out.mono ?_
      rintro e w6 ⟨rfl, t6⟩
      go_wp2_with fail
      refine (HAw.out _ (HG.out.touch0 ((T3.trans0 t5).trans0 t6))).mono ?_
      rintro e w7 ⟨rfl, t7⟩
      go_wp2_with fail
      go_ret
      exact ⟨rfl, ((T3.trans0 t5).trans0 t6).trans0 t7⟩
    · have he1 : (err != 0) = true := by rw [bne_iff_ne]; exact he
      have he2 : (err == 0) = false := by rw [beq_eq_false_iff_ne]; exact he
      go_wp2_with fail
      refine (HAw.out _ (HG.out.touch0 T3)).mono ?_
      rintro e w7 ⟨rfl, t7⟩
      go_wp2_with fail
      go_ret
      exact ⟨rfl, T3.trans0 t7⟩
  · refine wp_load_row 34 (.tmp 5) rfl G rfl _ _ _ _ ((Touch.refl [] _).drew.blk HG5.out (by simp)) Tryd.underlying34 rfl Hin.out ?_
    refine hK.out _ _ (Touch.refl [] _).drew (fun _ => ?_)
    clear hK K
    try simp only [Act.put, List.setIfInBounds_toArray, List.set_cons_zero, List.set_cons_succ]
    refine wpAnyH_ready (rs := [5]) (by kernel_rfl) (by simp) ?_
    refine AllReadyH.cons rfl (fun K hK => ?_) AllReadyH.nil
    go_simp
    go_at_call 12
    refine (HF.out _).mono ?_
    rintro e wc ⟨rfl, tc⟩
    (try go_wp2_with fail)
    refine hK.out _ _ ((Touch.refl [] _).drew.trans0 tc) (fun _ => ?_)
    clear hK K
    try simp only [Act.put, List.setIfInBounds_toArray, List.set_cons_zero, List.set_cons_succ]
    refine wpAnyH_ready (rs := [7]) (by kernel_rfl) (by simp) ?_
    refine AllReadyH.cons rfl (fun K hK => ?_) AllReadyH.nil
    refine wp_neq_ref X HX.out (.tmp 26) (.tmp 27) 34 rfl rfl rfl ?_
    refine hK.out _ _ ((Touch.refl [] _).drew.trans0 tc) (fun _ => ?_)
    clear hK K
    try simp only [Act.put, List.setIfInBounds_toArray, List.set_cons_zero, List.set_cons_succ]
    refine wpAnyH_ready (rs := [8]) (by kernel_rfl) (by simp) ?_
    refine AllReadyH.cons rfl (fun K hK => ?_) AllReadyH.nil
    go_simp
    refine hK.out _ _ ((Touch.refl [] _).drew.trans0 tc) (fun _ => ?_)
    clear hK K
    try simp only [Act.put, List.setIfInBounds_toArray, List.set_cons_zero, List.set_cons_succ]
    refine wpAnyH_done (by kernel_rfl) ?_ _
    refine ⟨rfl, ?_⟩
    have T3 : Touch [] w wc := T2.trans0 ((Touch.refl [] _).drew.trans0 tc)
    have HS3 := Lib.hid (HS.out _ ((Touch.refl [] _).drew.trans0 tc))
    clear tc
    by_cases he : err = 0
    · have Hr := Lib.hid (Hright.out he)
      subst he
      obtain ⟨s0, s1, s2, s3, s4, a0, a1, a2, a3, a4⟩ := HS3.out
      go_wp2_with fail
      refine (HRt.out _).mono ?_
      rintro e w5 ⟨rfl, t5⟩
      rw [Hr.out]
      clear s0 s1 s2 s3 s4 a0 a1 a2 a3 a4
      obtain ⟨s0, s1, s2, s3, s4, a0, a1, a2, a3, a4⟩ := HS3.out.touch0 t5
      have hce := SD.err_yes Hr.out
      have hck := HChk.out w5 (HG.out.touch0 (T3.trans0 t5))
      rw [hce] at hck
      have Hck := Lib.hid hck
      clear hck hce
      go_wp2_with fail
      refine Hck.out.mono ?_
      rintro e w6 ⟨rfl, t6⟩
      go_wp2_with fail
      refine (HAw.out _ (HG.out.touch0 ((T3.trans0 t5).trans0 t6))).mono ?_
      rintro e w7 ⟨rfl, t7⟩
      go_wp2_with fail
      go_ret
      exact ⟨rfl, ((T3.trans0 t5).trans0 t6).trans0 t7⟩
    · have he1 : (err != 0) = true := by rw [bne_iff_ne]; exact he
      have he2 : (err == 0) = false := by rw [beq_eq_false_iff_ne]; exact he
      go_wp2_with fail
      refine (HAw.out _ (HG.out.touch0 T3)).mono ?_
      rintro e w7 ⟨rfl, t7⟩
      go_wp2_with fail
      go_ret
      exact ⟨rfl, T3.trans0 t7⟩
end Go.Proofs.YtoabloeechphkaaDoor
