/- bywashlaw24.step at Due: the walk. For every queue. -/
import Derived.Test.YthhjioeipjnjmaaPlayG
namespace Go.Proofs.Ythhjioeipjnjmaa
open Go.RowKit

/-- how many are due -/
structure DueN (L : List QE) (now most : Int) (k : Nat) : Prop where
  le : k ≤ L.length
  due : ∀ x ∈ L.take k, x.due ≤ now
  m : (k : Int) ≤ max most 0
  fin : (k : Int) = max most 0 ∨ ∀ x ∈ (L.drop k).head?, now < x.due
theorem DueN.lt_no {L : List QE} {now most : Int} {j k : Nat} (h : DueN L now most j) (h2 : DueN L now most k) : ¬ j < k := by
  intro hlt
  have hjl : j < L.length := Nat.lt_of_lt_of_le hlt h2.le
  rcases h.fin with h3 | h3
  · have := h2.m; omega
  · have h4 : L[j] ∈ (L.drop j).head? := by rw [List.drop_eq_getElem_cons hjl]; simp
    have h5 := h3 _ h4
    have h6 := h2.due L[j] (by rw [List.mem_take_iff_getElem]; exact ⟨j, by omega, rfl⟩)
    omega
theorem DueN.unique {L : List QE} {now most : Int} {j k : Nat} (h : DueN L now most j) (h2 : DueN L now most k) : j = k := by
  have := h.lt_no h2
  have := h2.lt_no h
  omega

set_option maxRecDepth 20000 in
set_option maxHeartbeats 3200000 in
theorem step_due (g : Nat) (fp : List Nat) (L : List QE) (p : Nat) (A : Option Addr) (c : Nat) (o : QOp) (hk : o.kind = 6) (w : World) (h : StepPre g fp L p A c w) :
    Calls Try.prog 15 #[.pointer (some ⟨g, 0, none⟩), .slice A L.length c, opV o] w (StepPost g fp L p w) := by
  obtain ⟨kd, nw, ms, x⟩ := o
  simp only at hk
  subst hk
  have ta := ((Touch.refl [] w).alloc (.cells #[.int .i64 6, .int .i64 nw, .int .i64 ms, .string x.asset, .int .i64 x.index, .int .i64 x.due, .int .i64 x.rank] 43)).alloc (.cells #[.string x.asset, .int .i64 x.index] 26)
  have hbx := ((Touch.refl [] (w.alloc (.cells #[.int .i64 6, .int .i64 nw, .int .i64 ms, .string x.asset, .int .i64 x.index, .int .i64 x.due, .int .i64 x.rank] 43))).alloc (.cells #[.string x.asset, .int .i64 x.index] 26)).blk (heap_alloc_new w (.cells #[.int .i64 6, .int .i64 nw, .int .i64 ms, .string x.asset, .int .i64 x.index, .int .i64 x.due, .int .i64 x.rank] 43)) (by simp)
  obtain ⟨W, hW⟩ : ∃ W, W = (w.alloc (.cells #[.int .i64 6, .int .i64 nw, .int .i64 ms, .string x.asset, .int .i64 x.index, .int .i64 x.due, .int .i64 x.rank] 43)).alloc (.cells #[.string x.asset, .int .i64 x.index] 26) := ⟨_, rfl⟩
  have HW := Lib.hid hW
  rw [← hW] at ta hbx
  have hLok := h.hq.ord.2
  have hlt := h.hq.lt
  have H := Lib.hid (And.intro h (And.intro ta (And.intro hbx (And.intro hLok hlt))))
  have hl1 := h.hl
  obtain ⟨N, hN⟩ : ∃ N, N = L.length := ⟨_, rfl⟩
  rw [← hN] at hl1 ⊢
  have HN := Lib.hid hN
  clear h ta hbx hLok hlt hW hN
  unfold opV
  go_enter Try.func15, Try.ntmps15
  go_wp2_with fail
  rw [← HW.out]
  go_loopw [1, 18] (fun lv dv wr => ∃ (j m : Nat) (A1 : Option Addr) (c1 : Nat) (A2 : Option Addr) (c2 : Nat), lv = .slice A1 m c1 ∧ dv = .slice A2 j c2 ∧ j + m = N ∧ RdK itE wr A1 (L.drop j) ∧ m ≤ c1 ∧ c1 ≤ 9223372036854775807 ∧ (∀ b ∈ fpo A1, b ∈ fpo A) ∧ OwnR wr A2 c2 (L.take j) ∧ (∀ y ∈ L.take j, y.due ≤ nw) ∧ (j : Int) ≤ max ms 0 ∧ Touch [] W wr ∧ ∀ b ∈ fpo A2, W.heap.size ≤ b) (fun lv _ _ => (match lv with | .slice _ n _ => n | _ => 0))
  case atStart =>
    obtain ⟨h, ta, hbx, hLok, hlt⟩ := H.out
    exact ⟨0, N, A, c, none, 0, rfl, rfl, by omega, h.hr.touch0 ta, by rw [HN.out]; exact h.hc, h.hm, fun b hb => hb, OwnK.nil _ _ _ _, by simp, by omega, Touch.refl _ _, by simp [fpo]⟩
  case round =>
    obtain ⟨j, m, A1, c1, A2, c2, rfl, rfl, hjm, hr, hc1, hm1, hfA, ho, hdue, hjm2, ht, hf2⟩ := hrel
    have hbx2 := ht.blk H.out.2.2.1 (by simp)
    have o1 : wr.cell? ⟨w.heap.size, 1, none⟩ = some (.int .i64 nw) := cell_blk hbx2 rfl
    have o2 : wr.cell? ⟨w.heap.size, 2, none⟩ = some (.int .i64 ms) := cell_blk hbx2 rfl
    have hDl : (L.drop j).length = m := by rw [List.length_drop, ← HN.out]; omega
    have leave : DueN L nw ms j → ∀ q, Hid (Touch [] wr (wr.drewN q) ∧ DueN L nw ms j) := fun h q => Lib.hid ⟨(Touch.refl [] wr).drewN q, h⟩
    have hexit : ((m : Int) = 0 ∨ (j : Int) = max ms 0 ∨ ∃ y L', L.drop j = y :: L' ∧ nw < y.due) → DueN L nw ms j := fun hx => by
      refine ⟨by rw [← HN.out]; omega, hdue, hjm2, ?_⟩
      rcases hx with h1 | h1 | ⟨y, L', h1, h2⟩
      · right
        have : L.drop j = [] := List.eq_nil_of_length_eq_zero (by omega)
        rw [this]; simp
      · exact .inl h1
      · right; rw [h1]; simpa using h2
    rcases Nat.eq_zero_or_pos m with hm0 | hm0
    · subst hm0
      have HX := Lib.hid (And.intro (hexit (.inl rfl)) (And.intro hr (And.intro hc1 (And.intro hm1 (And.intro hfA (And.intro ho (And.intro ht hf2)))))))
      clear leave hexit hr hc1 hm1 hfA ho hdue hjm2 ht hf2 hbx2 hDl
      go_wp2_with fail
      go_quiet (fail)
      obtain ⟨Z, hZ⟩ : ∃ Z, Z = wr.drewN nq := ⟨_, rfl⟩
      have tq := (Touch.refl [] wr).drewN nq
      rw [← hZ] at tq ⊢
      have z1 := tq.cell o1 (by simp)
      have z2 := tq.cell o2 (by simp)
      have Hq := Lib.hid tq
      have Hdue := Lib.hid (due_any g fp L p nw ms Z (((H.out.1.hq.touch0 H.out.2.1).touch0 HX.out.2.2.2.2.2.2.1).touch0 tq))
      clear hZ tq o1 o2
      go_wp2_with fail
      refine Hdue.out.mono ?_
      rintro e3 w3 ⟨k, A3, c3, fp3, rfl, hk, ho3, hq3, hdue3, hkm, hend, t3, hfp3, hf3⟩
      have hjk : j = k := HX.out.1.unique ⟨hk, hdue3, hkm, hend⟩
      subst hjk
      have hsz0 := H.out.2.1.size
      have hszr := HX.out.2.2.2.2.2.2.1.size
      have hszq := Hq.out.size
      have hAf : ∀ v ∈ fpo A2, v ∉ fp := fun v hv hm => by have := HX.out.2.2.2.2.2.2.2 v hv; have := H.out.2.2.2.2 v hm; omega
      have hr2 : RdK itE w3 A2 (L.take j) := (HX.out.2.2.2.2.2.1.rd.touch0 Hq.out).touch t3 hAf
      have Hs := Lib.hid (same_any A3 c3 A2 c2 (L.take j) j (by rw [List.length_take]; omega) (by omega) (fun e he => H.out.2.2.2.1 e (List.mem_of_mem_take he)) w3 ho3.rd hr2)
      have H3 := Lib.hid (And.intro hq3 (And.intro t3 hfp3))
      clear ho3 hq3 hdue3 hkm hend t3 hfp3 hf3 hr2 hAf hk
      go_wp2_with fail
      refine Hs.out.mono ?_
      rintro e4 w4 ⟨rfl, t4⟩
      have H4 := Lib.hid t4
      clear t4
      go_wp2_with fail
      go_ret2
      obtain ⟨h, ta, hbx, hLok, hlt⟩ := H.out
      obtain ⟨hn, hr, hc1, hm1, hfA, ho, ht, hf2⟩ := HX.out
      obtain ⟨hq3, t3, hfp3⟩ := H3.out
      have hfpA : ∀ v ∈ fpo A1, v ∉ fp ∧ v < w.heap.size := fun v hv => h.ha v (hfA v hv)
      have T : Touch fp w w4 := (((ta.trans0 ht).trans0 Hq.out).mono (by simp)).trans t3 (fun v hv => .inl hv) |>.trans0 H4.out
      have hDl : (L.drop j).length = 0 := by rw [List.length_drop, ← HN.out]; omega
      refine ⟨A1, c1, L.drop j, p, fp3, by rw [hDl]; rfl, hq3.touch0 H4.out, (((hr.touch0 Hq.out).touch t3 (fun v hv => (hfpA v hv).1)).touch0 H4.out), by rw [hDl]; exact hc1, hm1, fun v hv => ⟨fun hm => ?_, Nat.lt_of_lt_of_le (hfpA v hv).2 T.size⟩, T, fun v hv => ?_, by omega, by rw [hDl, ← HN.out]; omega⟩
      · rcases hfp3 v hm with h1 | h1
        · exact (hfpA v hv).1 h1
        · have := (hfpA v hv).2; omega
      · rcases hfp3 v hv with h1 | h1
        · exact .inl h1
        · right; omega
    · obtain ⟨y, L', hd⟩ : ∃ y L', L.drop j = y :: L' := by
        rcases hd : L.drop j with _ | ⟨y, L'⟩
        · rw [hd] at hDl; simp at hDl; omega
        · exact ⟨y, L', rfl⟩
      have hmI : (0 : Int) < (m : Int) := by omega
      have hr' := hr
      rw [hd] at hr'
      obtain ⟨ad, b, off, hAe, hadd, -, hcell⟩ := hr'.at_ 4 itE_length (by omega) 0 (by simp)
      obtain rfl : ad = ⟨b, off, none⟩ := by
        have : ad.add (0 * 4) = ad := by simp [Addr.add]
        rw [← this]; exact hadd
      subst hAe
      have e0 := hcell 0 (.string y.asset) rfl
      have e1 := hcell 1 (.int .i64 y.index) rfl
      have e2 := hcell 2 (.int .i64 y.due) rfl
      have e3 := hcell 3 (.int .i64 y.rank) rfl
      rw [show off + 0 = off by omega] at e0
      clear hcell hadd
      by_cases hyd : nw < y.due
      · have hdn : (y.due ≤ nw) = False := eq_false (by omega)
        have HX := Lib.hid (And.intro (hexit (.inr (.inr ⟨y, L', hd, hyd⟩))) (And.intro hr (And.intro hc1 (And.intro hm1 (And.intro hfA (And.intro ho (And.intro ht hf2)))))))
        clear leave hexit hr hc1 hm1 hfA ho hdue hjm2 ht hf2 hbx2 hDl hd hr' e0 e1 e3
        go_wp2_with fail
        go_quiet (fail)
        obtain ⟨Z, hZ⟩ : ∃ Z, Z = wr.drewN nq := ⟨_, rfl⟩
        have tq := (Touch.refl [] wr).drewN nq
        rw [← hZ] at tq ⊢
        have z1 := tq.cell o1 (by simp)
        have z2 := tq.cell o2 (by simp)
        have Hq := Lib.hid tq
        have Hdue := Lib.hid (due_any g fp L p nw ms Z (((H.out.1.hq.touch0 H.out.2.1).touch0 HX.out.2.2.2.2.2.2.1).touch0 tq))
        clear hZ tq o1 o2
        go_wp2_with fail
        refine Hdue.out.mono ?_
        rintro e3 w3 ⟨k, A3, c3, fp3, rfl, hk, ho3, hq3, hdue3, hkm, hend, t3, hfp3, hf3⟩
        have hjk : j = k := HX.out.1.unique ⟨hk, hdue3, hkm, hend⟩
        subst hjk
        have hsz0 := H.out.2.1.size
        have hszr := HX.out.2.2.2.2.2.2.1.size
        have hszq := Hq.out.size
        have hAf : ∀ v ∈ fpo A2, v ∉ fp := fun v hv hm => by have := HX.out.2.2.2.2.2.2.2 v hv; have := H.out.2.2.2.2 v hm; omega
        have hr2 : RdK itE w3 A2 (L.take j) := (HX.out.2.2.2.2.2.1.rd.touch0 Hq.out).touch t3 hAf
        have Hs := Lib.hid (same_any A3 c3 A2 c2 (L.take j) j (by rw [List.length_take]; omega) (by omega) (fun e he => H.out.2.2.2.1 e (List.mem_of_mem_take he)) w3 ho3.rd hr2)
        have H3 := Lib.hid (And.intro hq3 (And.intro t3 hfp3))
        clear ho3 hq3 hdue3 hkm hend t3 hfp3 hf3 hr2 hAf hk
        go_wp2_with fail
        refine Hs.out.mono ?_
        rintro e4 w4 ⟨rfl, t4⟩
        have H4 := Lib.hid t4
        clear t4
        go_wp2_with fail
        go_ret2
        obtain ⟨h, ta, hbx, hLok, hlt⟩ := H.out
        obtain ⟨hn, hr, hc1, hm1, hfA, ho, ht, hf2⟩ := HX.out
        obtain ⟨hq3, t3, hfp3⟩ := H3.out
        have hfpA : ∀ v ∈ fpo (some ⟨b, off, none⟩), v ∉ fp ∧ v < w.heap.size := fun v hv => h.ha v (hfA v hv)
        have T : Touch fp w w4 := (((ta.trans0 ht).trans0 Hq.out).mono (by simp)).trans t3 (fun v hv => .inl hv) |>.trans0 H4.out
        have hDl : (L.drop j).length = m := by rw [List.length_drop, ← HN.out]; omega
        refine ⟨(some ⟨b, off, none⟩), c1, L.drop j, p, fp3, by rw [hDl]; rfl, hq3.touch0 H4.out, (((hr.touch0 Hq.out).touch t3 (fun v hv => (hfpA v hv).1)).touch0 H4.out), by rw [hDl]; exact hc1, hm1, fun v hv => ⟨fun hm => ?_, Nat.lt_of_lt_of_le (hfpA v hv).2 T.size⟩, T, fun v hv => ?_, by omega, by rw [hDl, ← HN.out]; omega⟩
        · rcases hfp3 v hm with h1 | h1
          · exact (hfpA v hv).1 h1
          · have := (hfpA v hv).2; omega
        · rcases hfp3 v hv with h1 | h1
          · exact .inl h1
          · right; omega
      · have hdn : (y.due ≤ nw) = True := eq_true (by omega)
        by_cases hjs : (j : Int) < ms
        · have hjl : j < L.length := by rw [← HN.out]; omega
          have hy : L[j] = y ∧ L.drop (j + 1) = L' := by
            have := List.drop_eq_getElem_cons hjl
            rw [hd] at this
            injection this with h1 h2
            exact ⟨h1.symm, h2.symm⟩
          have htk : L.take (j + 1) = L.take j ++ [y] := by rw [List.take_succ_eq_append_getElem hjl, hy.1]
          have hjn : (L.take j).length = j := by rw [List.length_take]; omega
          have HX := Lib.hid (And.intro hr' (And.intro hfA (And.intro ho (And.intro ht (And.intro hf2 (And.intro htk (And.intro hjn (And.intro hy.2 hdue))))))))
          have hr4 := HX
          clear leave hexit hr hr' hfA ho hdue ht hf2 hbx2 hDl htk hjn hy hd hr4
          go_wp2_with fail
          go_quiet (fail)
          go_wp2_with (at_builtin; refine stop ?_)
          refine go ?_
          have ta := ((Touch.refl [] wr).drewN nq).alloc (.cells #[.string y.asset, .int .i64 y.index, .int .i64 y.due, .int .i64 y.rank] 65)
          have hr1 : RdK itE ((wr.drewN nq).alloc (.cells #[.string y.asset, .int .i64 y.index, .int .i64 y.due, .int .i64 y.rank] 65)) (some ⟨(wr.drewN nq).heap.size, 0, none⟩) [y] := RdK.one _ _ y _ rfl
          refine wpList_appK rfl (.tmp 160) (.tmp 164) 41 rfl 65 noIt 4 40 info_ref Try.underlying41 rfl (by omega) itE_length itE_one A2 j c2 (L.take j) HX.out.2.2.2.2.2.2.1 rfl (HX.out.2.2.1.touch0 ta) (some ⟨(wr.drewN nq).heap.size, 0, none⟩) 1 1 [y] rfl rfl hr1 (by omega) (by omega) ?_
          intro A6 c6 w6 ho6 t6 hf6
          have H6 := Lib.hid (And.intro ho6 (And.intro t6 (And.intro hf6 ta)))
          clear ho6 t6 hf6 ta hr1 o1 o2 e0 e1 e2 e3
          go_wp2_with fail
          all_goals
            go_roundw
            case rel =>
              obtain ⟨hr', hfA, ho, ht, hf2, htk, hjn, hd2, hdue⟩ := HX.out
              obtain ⟨ho6, t6, hf6, ta⟩ := H6.out
              have T6 : Touch [] W w6 := (ht.trans0 ta).trans t6 (fun v hv => .inr (hf2 v hv))
              have hbA : b ∈ fpo A := hfA b (by simp [fpo])
              have hbw := (H.out.1.ha b hbA).2
              have hsz0 := H.out.2.1.size
              have hrz : RdK itE w6 (some ⟨b, off, none⟩) (y :: L') := (hr'.touch0 ta).touch t6 (fun v hv hm => by
                have hvb : v = b := by simpa [fpo] using hv
                subst hvb
                have := hf2 v hm; omega)
              refine ⟨j + 1, m - 1, _, _, A6, c6, by first | rfl | (congr 1; omega), rfl, by omega, ?_, by omega, by omega, fun v hv => ?_, by rw [htk]; exact ho6, ?_, by omega, T6, fun v hv => ?_⟩
              · rw [hd2]
                rcases Nat.eq_zero_or_pos L'.length with h0 | h0
                · obtain rfl := List.eq_nil_of_length_eq_zero h0
                  exact RdK.nil _ _ _
                · have hcut := Rd.cut (n := (L'.flatMap itE).length) (k := 4) hrz (A' := some ⟨b, off + 4, none⟩) (fun ad had _ => by injection had with had; subst had; rfl)
                  have he : (((y :: L').flatMap itE).drop 4).take (L'.flatMap itE).length = L'.flatMap itE := by
                    rw [List.flatMap_cons, show ((itE y ++ L'.flatMap itE).drop 4) = L'.flatMap itE from rfl, List.take_length]
                  rw [he] at hcut
                  have hlen : L'.length + (j + 1) = N := by rw [← hd2, List.length_drop, ← HN.out]; omega
                  have hcc : ¬ c1 = 1 := by omega
                  first | exact hcut | (rw [if_neg hcc]; exact hcut)
              · have hvb : v = b := by
                  by_cases hcc : c1 = 1
                  · simpa [fpo, hcc] using hv
                  · simpa [fpo, hcc] using hv
                rw [hvb]; exact hbA
              · intro z hz
                rw [htk] at hz
                rcases List.mem_append.1 hz with h1 | h1
                · exact hdue z h1
                · have : z = y := by simpa using h1
                  subst this; omega
              · rcases hf6 v hv with h1 | h1
                · exact hf2 v h1
                · have := ht.size
                  rw [World.size_alloc] at h1
                  have h2 : (wr.drewN nq).heap.size = wr.heap.size := rfl
                  omega
            case measure => simp; omega
        · have hjs' : ¬ (j : Int) < ms := hjs
          have HX := Lib.hid (And.intro (hexit (.inr (.inl (by omega)))) (And.intro hr (And.intro hc1 (And.intro hm1 (And.intro hfA (And.intro ho (And.intro ht hf2)))))))
          clear leave hexit hr hc1 hm1 hfA ho hdue hjm2 ht hf2 hbx2 hDl hd hr' e0 e1 e3
          go_wp2_with fail
          go_quiet (fail)
          obtain ⟨Z, hZ⟩ : ∃ Z, Z = wr.drewN nq := ⟨_, rfl⟩
          have tq := (Touch.refl [] wr).drewN nq
          rw [← hZ] at tq ⊢
          have z1 := tq.cell o1 (by simp)
          have z2 := tq.cell o2 (by simp)
          have Hq := Lib.hid tq
          have Hdue := Lib.hid (due_any g fp L p nw ms Z (((H.out.1.hq.touch0 H.out.2.1).touch0 HX.out.2.2.2.2.2.2.1).touch0 tq))
          clear hZ tq o1 o2
          go_wp2_with fail
          refine Hdue.out.mono ?_
          rintro e3 w3 ⟨k, A3, c3, fp3, rfl, hk, ho3, hq3, hdue3, hkm, hend, t3, hfp3, hf3⟩
          have hjk : j = k := HX.out.1.unique ⟨hk, hdue3, hkm, hend⟩
          subst hjk
          have hsz0 := H.out.2.1.size
          have hszr := HX.out.2.2.2.2.2.2.1.size
          have hszq := Hq.out.size
          have hAf : ∀ v ∈ fpo A2, v ∉ fp := fun v hv hm => by have := HX.out.2.2.2.2.2.2.2 v hv; have := H.out.2.2.2.2 v hm; omega
          have hr2 : RdK itE w3 A2 (L.take j) := (HX.out.2.2.2.2.2.1.rd.touch0 Hq.out).touch t3 hAf
          have Hs := Lib.hid (same_any A3 c3 A2 c2 (L.take j) j (by rw [List.length_take]; omega) (by omega) (fun e he => H.out.2.2.2.1 e (List.mem_of_mem_take he)) w3 ho3.rd hr2)
          have H3 := Lib.hid (And.intro hq3 (And.intro t3 hfp3))
          clear ho3 hq3 hdue3 hkm hend t3 hfp3 hf3 hr2 hAf hk
          go_wp2_with fail
          refine Hs.out.mono ?_
          rintro e4 w4 ⟨rfl, t4⟩
          have H4 := Lib.hid t4
          clear t4
          go_wp2_with fail
          go_ret2
          obtain ⟨h, ta, hbx, hLok, hlt⟩ := H.out
          obtain ⟨hn, hr, hc1, hm1, hfA, ho, ht, hf2⟩ := HX.out
          obtain ⟨hq3, t3, hfp3⟩ := H3.out
          have hfpA : ∀ v ∈ fpo (some ⟨b, off, none⟩), v ∉ fp ∧ v < w.heap.size := fun v hv => h.ha v (hfA v hv)
          have T : Touch fp w w4 := (((ta.trans0 ht).trans0 Hq.out).mono (by simp)).trans t3 (fun v hv => .inl hv) |>.trans0 H4.out
          have hDl : (L.drop j).length = m := by rw [List.length_drop, ← HN.out]; omega
          refine ⟨(some ⟨b, off, none⟩), c1, L.drop j, p, fp3, by rw [hDl]; rfl, hq3.touch0 H4.out, (((hr.touch0 Hq.out).touch t3 (fun v hv => (hfpA v hv).1)).touch0 H4.out), by rw [hDl]; exact hc1, hm1, fun v hv => ⟨fun hm => ?_, Nat.lt_of_lt_of_le (hfpA v hv).2 T.size⟩, T, fun v hv => ?_, by omega, by rw [hDl, ← HN.out]; omega⟩
          · rcases hfp3 v hm with h1 | h1
            · exact (hfpA v hv).1 h1
            · have := (hfpA v hv).2; omega
          · rcases hfp3 v hv with h1 | h1
            · exact .inl h1
            · right; omega
end Go.Proofs.Ythhjioeipjnjmaa
