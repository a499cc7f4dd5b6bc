/- bywashlaw10.CronShows: the walk of the law. For every spec. -/
import Derived.Test.YtoabloeechphkaaDoorCronRShow2
import Derived.Test.YtoabloeechphkaaDoorCronAwake
import Derived.Test.YtoabloeechphkaaDoorCronLawR
namespace Go.Proofs.YtoabloeechphkaaDoor
open Go.RowKit Go.Shelf

theorem eq_same {t : TypeId} (hk : Tryd.prog.keyTypeAt 5 t = true) {X : Array Value} (hf : (Value.agg X).formed Tryd.prog t = true) (hl : (Tryd.prog.keyLits 5 t X.toList).isSome = true) (w : World) : (Op.equalIn 9999 t (.agg X) (.agg X)).run Tryd.prog w = .ok true w := by
  obtain ⟨l, hl⟩ := Option.isSome_iff_exists.1 hl
  obtain ⟨r, hr, hiff⟩ := run_equalIn_deep (P := Tryd.prog) 9994 5 t hk w 5 5 (.agg X) (.agg X) l l hf hf hl hl
  rw [hr, hiff.2 rfl]
theorem cells5 : Tryd.prog.cellsOf 24 = 5 := by kernel_rfl
theorem cells1 : Tryd.prog.cellsOf 23 = 1 := by kernel_rfl
theorem key_sets {a b c d e : Int} (ha : (Lit.int .u64 a).wf = true) (hb : (Lit.int .u64 b).wf = true) (hc : (Lit.int .u64 c).wf = true) (hd : (Lit.int .u64 d).wf = true) (he : (Lit.int .u64 e).wf = true) :
    (Tryd.prog.keyLits 5 24 [.int .u64 a, .int .u64 b, .int .u64 c, .int .u64 d, .int .u64 e]).isSome = true := by
  simp [Program.keyLits, Tryd.underlying24, Tryd.underlying23, cells5, cells1, List.range_succ, List.range_zero, ha, hb, hc, hd, he]
theorem wf_set {c : SD} (hc : c.Ok) (f : Nat) (hf : f < 5) : (Lit.int .u64 (c.set f : Nat)).wf = true := by
  have := hc f hf
  simp [Lit.wf, IntKind.min, IntKind.max, IntKind.signed, IntKind.bits]; omega
theorem eq_sets (c : SD) (hc : c.Ok) (w : World) : (Op.equalIn 9999 24 (.agg #[.int .u64 (c.set 0 : Nat), .int .u64 (c.set 1 : Nat), .int .u64 (c.set 2 : Nat), .int .u64 (c.set 3 : Nat), .int .u64 (c.set 4 : Nat)]) (.agg #[.int .u64 (c.set 0 : Nat), .int .u64 (c.set 1 : Nat), .int .u64 (c.set 2 : Nat), .int .u64 (c.set 3 : Nat), .int .u64 (c.set 4 : Nat)])).run Tryd.prog w = .ok true w :=
  eq_same (by kernel_rfl) (by kernel_rfl) (key_sets (wf_set hc 0 (by omega)) (wf_set hc 1 (by omega)) (wf_set hc 2 (by omega)) (wf_set hc 3 (by omega)) (wf_set hc 4 (by omega))) w
theorem eq_anys (c : SD) (w : World) : (Op.equalIn 9999 25 (.agg #[.bool (c.any 0), .bool (c.any 1), .bool (c.any 2), .bool (c.any 3), .bool (c.any 4)]) (.agg #[.bool (c.any 0), .bool (c.any 1), .bool (c.any 2), .bool (c.any 3), .bool (c.any 4)])).run Tryd.prog w = .ok true w :=
  eq_same (by kernel_rfl) (by kernel_rfl) (by kernel_rfl) w

set_option maxRecDepth 100000 in
set_option maxHeartbeats 12800000 in
theorem shows_law (c : SD) (hc : c.Ok) (w : World) (hG : Gc w) (hZ : Gz w) :
    Calls Tryd.prog 8 #[c.val] w fun e w' => e = .returned (.bool true) ∧ Touch [] w w' := by
  have t0 := (Touch.refl [] w).alloc (.cells c.row 27)
  have hS := specAt_new w c
  have HAw := Lib.hid (fun w' h => awake10_any w' h)
  have HG := Lib.hid hG
  have HZ := Lib.hid hZ
  obtain ⟨W0, hW0⟩ : ∃ W0, W0 = w.alloc (.cells c.row 27) := ⟨_, rfl⟩
  rw [← hW0] at t0 hS
  have HW := hW0
  unfold SD.row at HW
  have HW0 := Lib.hid HW
  have hR := fun w' => lright_any c hc w'
  have hF := fun w' => ref_any c hc w'
  have hCh := fun w' h => check_any c hc w' h
  unfold SD.val SD.row at hR hF hCh
  have HS := Lib.hid hS; have HR := Lib.hid hR; have HF := Lib.hid hF; have HCh := Lib.hid hCh
  clear hS hR hF hCh hG hZ hW0 HW
  rcases hr : c.right with _ | _
  · have hsh := show_none c hc hr W0 (HG.out.touch0 t0)
    rw [hr] at HR
    unfold SD.val SD.row at hsh ⊢
    have Hsh := Lib.hid hsh
    have hce := SD.err_no hr
    rw [hce] at HCh
    have q1 : (S []).toList = [] := by rw [S_list]
    clear hsh hr hce
    go_enter Tryd.func8, Tryd.ntmps8
    obtain ⟨s0, s1, s2, s3, s4, a0, a1, a2, a3, a4⟩ := HS.out
    go_wp2_with (with_reducible rw [← HW0.out])
    refine Hsh.out.mono ?_
    rintro e w1 ⟨rfl, t1⟩
    clear s0 s1 s2 s3 s4 a0 a1 a2 a3 a4
    obtain ⟨s0, s1, s2, s3, s4, a0, a1, a2, a3, a4⟩ := HS.out.touch0 t1
    go_wp2_with fail
    refine (HR.out _).mono ?_
    rintro e w2 ⟨rfl, t2⟩
    clear s0 s1 s2 s3 s4 a0 a1 a2 a3 a4
    obtain ⟨s0, s1, s2, s3, s4, a0, a1, a2, a3, a4⟩ := (HS.out.touch0 t1).touch0 t2
    have T2 := (t0.trans0 t1).trans0 t2
    go_wp2_with fail
    refine (HCh.out _ (HG.out.touch0 T2)).mono ?_
    rintro e w3 ⟨rfl, t3⟩
    go_wp2_with fail
    refine (HAw.out _ (HG.out.touch0 (T2.trans0 t3))).mono ?_
    rintro e w4 ⟨rfl, t4⟩
    go_wp2_with fail
    go_ret
    exact ⟨rfl, (T2.trans0 t3).trans0 t4⟩
  have hLe : ∀ f, ∃ l, Runs (c.set f) 0 l := fun f => runs_ex _ 64 0 (by omega)
  obtain ⟨L, hL⟩ : ∃ L : Nat → List (Nat × Nat), ∀ f, Runs (c.set f) 0 (L f) := ⟨fun f => (hLe f).choose, fun f => (hLe f).choose_spec⟩
  clear hLe
  have hsh := show_any c hc hr L (fun f _ => hL f) W0 (HG.out.touch0 t0) (HZ.out.touch0 t0)
  obtain ⟨hp1, hp2⟩ := show_parse hc hr (fun f _ => hL f)
  have hTl : ∀ k, k ≤ 5 → (Lib.join ((List.range k).map fun f => fldT (c.any f) (L f)) [32]).length ≤ 2000 := fun k hk => by
    have := join_len 32 385 ((List.range k).map fun f => fldT (c.any f) (L f)) (fun t ht => by
      obtain ⟨f, hf, rfl⟩ := List.mem_map.1 ht
      exact fldT_bd (hL f))
    rw [List.length_map, List.length_range] at this
    omega
  have hshow : showT c L = Lib.join ((List.range 5).map fun f => fldT (c.any f) (L f)) [32] := rfl
  have hstep : ∀ k, Lib.join ((List.range (k + 1)).map fun f => fldT (c.any f) (L f)) [32] = (if k = 0 then [] else Lib.join ((List.range k).map fun f => fldT (c.any f) (L f)) [32] ++ [32]) ++ fldT (c.any k) (L k) := fun k => by
    rw [List.range_succ, List.map_append, List.map_cons, List.map_nil]
    by_cases hk : k = 0
    · subst hk; rw [if_pos rfl]; simp [Lib.join_one]
    · rw [if_neg hk, join_snoc 32 _ _ (by simp [List.range_eq_nil]; omega)]; simp
  have hP := fun w' h => parse_any (showT c L) (by rw [hshow]; have := hTl 5 (by omega); omega) w' h
  unfold ParsePost at hP
  rw [hp1, hp2] at hP
  have hrs := fun f (hf : f < 5) w' => rshow_any (c.set f) (right_63 (right_at hr hf)) (c.any f) (L f) (hL f) w'
  have hTf : ∀ f, (fldT (c.any f) (L f)).length ≤ 385 := fun f => fldT_bd (hL f)
  have hce := SD.err_yes hr
  rw [hr] at HR
  rw [hce] at HCh
  have hst := fun w' => run_store34 c w'
  have hin := info34 c
  unfold SD.val SD.row at hsh hP ⊢
  have Hsh := Lib.hid hsh; have HP := Lib.hid hP; have HRs := Lib.hid hrs; have HTl := Lib.hid hTl; have Hshow := Lib.hid hshow; have Hstep := Lib.hid hstep; have Hst := Lib.hid hst; have HTf := Lib.hid hTf
  obtain ⟨st, hst'⟩ : ∃ st, st = showT c L := ⟨_, rfl⟩
  rw [← hst'] at Hsh HP Hshow
  clear hst' hsh hP hrs hTl hshow hstep hp1 hp2 hL hr hce hst hin hTf
  go_enter Tryd.func8, Tryd.ntmps8
  obtain ⟨s0, s1, s2, s3, s4, a0, a1, a2, a3, a4⟩ := HS.out
  go_wp2_with (with_reducible rw [← HW0.out])
  refine Hsh.out.mono ?_
  rintro e w1 ⟨rfl, t1⟩
  clear s0 s1 s2 s3 s4 a0 a1 a2 a3 a4
  obtain ⟨s0, s1, s2, s3, s4, a0, a1, a2, a3, a4⟩ := HS.out.touch0 t1
  go_wp2_with fail
  refine (HR.out _).mono ?_
  rintro e w2 ⟨rfl, t2⟩
  clear s0 s1 s2 s3 s4 a0 a1 a2 a3 a4
  obtain ⟨s0, s1, s2, s3, s4, a0, a1, a2, a3, a4⟩ := (HS.out.touch0 t1).touch0 t2
  go_wp2_with fail
  refine (HF.out _).mono ?_
  rintro e w3 ⟨rfl, t3⟩
  have hst := Hst.out w3
  have T3 := ((t0.trans0 t1).trans0 t2).trans0 t3
  go_wp2_with fail
  clear hst s0 s1 s2 s3 s4 a0 a1 a2 a3 a4
  have tW := T3.alloc (.cells (refC c).toArray 34)
  have tA := (((Touch.refl [] W0).trans0 t1).trans0 t2).trans0 t3
  have tA2 := tA.alloc (.cells (refC c).toArray 34)
  have hb := heap_alloc_new w3 (.cells (refC c).toArray 34)
  obtain ⟨G, hGe⟩ : ∃ G, G = w3.heap.size := ⟨_, rfl⟩
  obtain ⟨W, hW⟩ : ∃ W, W = w3.alloc (.cells (refC c).toArray 34) := ⟨_, rfl⟩
  rw [← hW] at tW tA2 hb ⊢
  rw [← hGe] at hb ⊢
  have HB := Lib.hid hb
  have HS2 := Lib.hid (HS.out.touch0 tA2)
  clear hW hb tA tA2 hGe
  go_loopw [5, 26] (fun tv iv wr => ∃ (k : Nat) (t : List UInt8), k ≤ 5 ∧ iv = .int .i64 k ∧ tv = .string (S t) ∧ Hid (t = Lib.join ((List.range k).map fun f => fldT (c.any f) (L f)) [32]) ∧ t.length ≤ 2000 ∧ Touch [] W wr) (fun _ iv _ => 5 - (intOf iv).toNat)
  case atStart => exact ⟨0, [], by omega, rfl, rfl, Lib.hid rfl, by simp, Touch.refl _ _⟩
  case round =>
    obtain ⟨k, t, hk, rfl, rfl, htx, htl, ht⟩ := hrel
    by_cases hlt : k < 5
    · have hrng := range_fld (ht.blk HB.out (by simp)) k hlt
      have Hrng := Lib.hid hrng
      have hrk := HRs.out k hlt
      have hfl := HTf.out k
      have hstep := Hstep.out k
      have hnl := HTl.out (k + 1) (by omega)
      obtain ⟨fx, hfx⟩ : ∃ fx, fx = fldT (c.any k) (L k) := ⟨_, rfl⟩
      rw [← hfx] at hrk hfl hstep
      rw [← htx.out] at hstep
      have Hrk := Lib.hid hrk; have Hstep2 := Lib.hid hstep; have Hnl := Lib.hid hnl
      have k0 : (0 : Int) ≤ (k : Int) := by omega
      have k1 : (k : Int) < 5 := by omega
      have ht0 : k = 0 → t = [] := fun h => by rw [htx.out, h]; rfl
      clear hrng hrk hstep hfx hnl htx
      by_cases hk0 : k = 0
      · have hte := ht0 hk0
        have hki : (0 < k) = False := eq_false (by omega)
        have y1 : S t ++ S fx = S (t ++ fx) := S_app _ _
        have y2 : (S t).size + (S fx).size ≤ 9000 := by rw [S_size, S_size]; omega
        have Hfin := Lib.hid (show t ++ fx = Lib.join ((List.range (k + 1)).map fun f => fldT (c.any f) (L f)) [32] by rw [Hstep2.out, if_pos hk0, hte])
        clear hk0 hte ht0
        go_wp2_with (refine wpList_load_mid rfl 33 (.tmp 35) rfl G (k * 65) rfl _ _ Hrng.out Tryd.underlying33 rfl (info33 _ _) ?_)
        refine (Hrk.out _).mono ?_
        rintro e w4 ⟨rfl, t4⟩
        go_wp2_with fail
        go_roundw
        case rel => exact ⟨k + 1, t ++ fx, by omega, by go_num, by first | rfl | simp, Hfin, by rw [Hfin.out]; exact Hnl.out, ht.trans0 t4⟩
        case measure => simp [intOf]; omega
      · have hki : (0 < k) = True := eq_true (by omega)
        have y0 : S t ++ ByteArray.mk #[32] = S (t ++ [32]) := S_app t [32]
        have y1 : S (t ++ [32]) ++ S fx = S (t ++ 32 :: fx) := by rw [S_app]; simp
        have y2 : (S t).size + (ByteArray.mk #[32]).size ≤ 9000 := by rw [S_size]; show _ + 1 ≤ _; omega
        have y3 : (S (t ++ [32])).size + (S fx).size ≤ 9000 := by rw [S_size, S_size]; simp; omega
        have Hfin := Lib.hid (show t ++ 32 :: fx = Lib.join ((List.range (k + 1)).map fun f => fldT (c.any f) (L f)) [32] by rw [Hstep2.out, if_neg hk0]; simp)
        clear hk0 ht0
        go_wp2_with (refine wpList_load_mid rfl 33 (.tmp 35) rfl G (k * 65) rfl _ _ Hrng.out Tryd.underlying33 rfl (info33 _ _) ?_)
        refine (Hrk.out _).mono ?_
        rintro e w4 ⟨rfl, t4⟩
        go_wp2_with fail
        go_roundw
        case rel => exact ⟨k + 1, t ++ 32 :: fx, by omega, by go_num, by first | rfl | simp, Hfin, by rw [Hfin.out]; exact Hnl.out, ht.trans0 t4⟩
        case measure => simp [intOf]; omega
    · obtain rfl : k = 5 := by omega
      have hte : t = st := by rw [htx.out, Hshow.out]
      subst hte
      have T4 := tW.trans0 ht
      have hS4 := HS2.out.touch0 ht
      obtain ⟨s0, s1, s2, s3, s4, a0, a1, a2, a3, a4⟩ := hS4
      clear htx
      go_wp2_with fail
      refine (HP.out _ (HG.out.touch0 T4)).mono ?_
      rintro e w5 ⟨rfl, t5⟩
      have hn5 := specAt_new w5 c
      have ta := t5.alloc (.cells c.row 27)
      obtain ⟨W5, hW5⟩ : ∃ W5, W5 = w5.alloc (.cells c.row 27) := ⟨_, rfl⟩
      rw [← hW5] at hn5 ta
      have hW5' := hW5
      unfold SD.row at hW5'
      have HW5 := Lib.hid hW5'
      have HN5 := Lib.hid hn5
      clear s0 s1 s2 s3 s4 a0 a1 a2 a3 a4 hn5 hW5 hW5'
      have hS5 := (HS2.out.touch0 ht).touch0 ta
      obtain ⟨s0, s1, s2, s3, s4, a0, a1, a2, a3, a4⟩ := hS5
      go_wp2_with (with_reducible rw [← HW5.out])
      try rw [← HW5.out]
      refine (HCh.out _ (HG.out.touch0 (T4.trans0 ta))).mono ?_
      rintro e w6 ⟨rfl, t6⟩
      clear s0 s1 s2 s3 s4 a0 a1 a2 a3 a4
      obtain ⟨s0, s1, s2, s3, s4, a0, a1, a2, a3, a4⟩ := ((HS2.out.touch0 ht).touch0 ta).touch0 t6
      obtain ⟨x0, x1, x2, x3, x4, z0, z1, z2, z3, z4⟩ := HN5.out.touch0 t6
      have hE1 := eq_sets c hc
      have hE2 := eq_anys c
      have T6 := (T4.trans0 ta).trans0 t6
      go_wp2_with fail
      refine (HAw.out _ (HG.out.touch0 T6)).mono ?_
      rintro e w7 ⟨rfl, t7⟩
      go_wp2_with fail
      go_ret
      exact ⟨rfl, T6.trans0 t7⟩
end Go.Proofs.YtoabloeechphkaaDoor
