/- bywashref24.Put, bywashlaw24.same: the walks. For every lists. -/
import Derived.Test.YthhjioeipjnjmaaPlayB
namespace Go.Proofs.Ythhjioeipjnjmaa
open Go.RowKit

/-- does x stand ahead of y, by due and rank alone? -/
def aheadQ (x y : QE) : Prop := x.due < y.due ∨ x.due = y.due ∧ x.rank < y.rank
instance (x y : QE) : Decidable (aheadQ x y) := by unfold aheadQ; exact inferInstance
/-- what is laid behind k: all so far, x among them or not -/
def putAt (x : QE) (L : List QE) (done : Bool) (out : List QE) (k : Nat) : Prop :=
  if done then out ++ L.drop k = insQ L x else out = L.take k ∧ insQ L x = L.take k ++ insQ (L.drop k) x
theorem insQ_cons (x y : QE) (L : List QE) : insQ (y :: L) x = if aheadQ x y then x :: y :: L else y :: insQ L x := rfl
theorem putAt_start (x : QE) (L : List QE) : putAt x L false [] 0 := ⟨rfl, rfl⟩
theorem putAt_done {x : QE} {L out : List QE} {k : Nat} (h : putAt x L true out k) (hk : k < L.length) : putAt x L true (out ++ [L[k]]) (k + 1) := by
  unfold putAt at *
  rw [if_pos rfl] at *
  rw [← h, List.drop_eq_getElem_cons hk]; simp
theorem putAt_here {x : QE} {L out : List QE} {k : Nat} (h : putAt x L false out k) (hk : k < L.length) (ha : aheadQ x L[k]) : putAt x L true (out ++ [x] ++ [L[k]]) (k + 1) := by
  unfold putAt at *
  rw [if_neg (by simp)] at h
  rw [if_pos rfl]
  obtain ⟨h1, h2⟩ := h
  rw [h2, List.drop_eq_getElem_cons hk, insQ_cons, if_pos ha, h1]; simp
theorem putAt_past {x : QE} {L out : List QE} {k : Nat} (h : putAt x L false out k) (hk : k < L.length) (ha : ¬ aheadQ x L[k]) : putAt x L false (out ++ [L[k]]) (k + 1) := by
  unfold putAt at *
  rw [if_neg (by simp)] at *
  obtain ⟨h1, h2⟩ := h
  have h3 := List.take_succ_eq_append_getElem hk
  refine ⟨by rw [h1, h3], ?_⟩
  rw [h2, List.drop_eq_getElem_cons hk, insQ_cons, if_neg ha, h3, List.append_assoc]; rfl
theorem putAt_end {x : QE} {L out : List QE} {done : Bool} (h : putAt x L done out L.length) : insQ L x = if done then out else out ++ [x] := by
  unfold putAt at h
  cases done
  · rw [if_neg (by simp)] at h ⊢
    obtain ⟨h1, h2⟩ := h
    rw [h2, h1]; simp [insQ]
  · rw [if_pos rfl] at h ⊢
    rw [← h]; simp
set_option maxRecDepth 20000 in
set_option maxHeartbeats 6400000 in
theorem refPut_any (A : Option Addr) (c n : Nat) (L : List QE) (hn : L.length = n) (hl : n ≤ 50000) (x : QE) (w : World) (hr : RdK itE w A L) :
    Calls Try.prog 24 #[.slice A n c, itV x] w fun e w' => ∃ A' c', e = .returned (.slice A' (insQ (dropQ L x.asset x.index) x).length c') ∧ OwnR w' A' c' (insQ (dropQ L x.asset x.index) x) ∧ Touch [] w w' ∧ ∀ b ∈ fpo A', w.heap.size ≤ b := by
  have t0 := (Touch.refl [] w).alloc (.cells #[.string x.asset, .int .i64 x.index, .int .i64 x.due, .int .i64 x.rank] 65)
  have hb0 := heap_alloc_new w (.cells #[.string x.asset, .int .i64 x.index, .int .i64 x.due, .int .i64 x.rank] 65)
  have Hd := Lib.hid (refDrop_any A c n L hn (by omega) x.asset x.index _ (hr.touch0 t0))
  have H0 := Lib.hid (And.intro t0 hb0)
  obtain ⟨D, hD⟩ : ∃ D, D = dropQ L x.asset x.index := ⟨_, rfl⟩
  have hDl : D.length ≤ n := by rw [hD, ← hn]; exact List.length_filter_le _ _
  rw [← hD] at Hd ⊢
  clear hr t0 hb0 hD hn
  unfold itV
  go_enter Try.func24, Try.ntmps24
  go_wp2_with fail
  refine Hd.out.mono ?_
  rintro e w1 ⟨A1, c1, rfl, ho1, t1, hf1⟩
  have hx1 := t1.blk H0.out.2 (by simp)
  have H1 := Lib.hid (And.intro ho1 (And.intro t1 (And.intro hf1 hx1)))
  clear ho1 t1 hf1 hx1
  obtain ⟨M, hM⟩ : ∃ M, M = D.length := ⟨_, rfl⟩
  rw [← hM] at hDl ⊢
  have HM := Lib.hid hM
  clear hM
  go_wp2_with fail
  go_loopw [5, 6, 7] (fun o dn i wr => ∃ (k : Nat) (A5 : Option Addr) (c5 m : Nat) (done : Bool) (out : List QE), k ≤ M ∧ i = .int .i64 k ∧ o = .slice A5 m c5 ∧ dn = .bool done ∧ Hid (out.length = m) ∧ OwnR wr A5 c5 out ∧ putAt x D done out k ∧ Touch [] w1 wr ∧ (∀ b ∈ fpo A5, w1.heap.size ≤ b) ∧ m ≤ k + done.toNat) (fun _ _ i _ => M - (intOf i).toNat)
  case atStart => exact ⟨0, none, 0, 0, false, [], by omega, rfl, rfl, rfl, Lib.hid rfl, OwnK.nil _ _ _ _, putAt_start x D, Touch.refl _ _, by simp [fpo], Nat.le_refl _⟩
  case round =>
    obtain ⟨k, A5, c5, m, done, out, hk, rfl, rfl, rfl, Hm, ho, hput, ht, hf, hmk⟩ := hrel
    have hx := ht.blk H1.out.2.2.2 (by simp)
    have x0 : wr.cell? ⟨w.heap.size, 0, none⟩ = some (.string x.asset) := cell_blk hx rfl
    have x1 : wr.cell? ⟨w.heap.size, 1, none⟩ = some (.int .i64 x.index) := cell_blk hx rfl
    have x2 : wr.cell? ⟨w.heap.size, 2, none⟩ = some (.int .i64 x.due) := cell_blk hx rfl
    have x3 : wr.cell? ⟨w.heap.size, 3, none⟩ = some (.int .i64 x.rank) := cell_blk hx rfl
    clear hx
    by_cases hlt : k < M
    · have hkD : k < D.length := by rw [← HM.out]; exact hlt
      obtain ⟨ad, b, off, rfl, hadd, -, hcell⟩ := H1.out.1.rd.at_ 4 itE_length (by omega) k hkD
      have d0 := hcell 0 (.string D[k].asset) rfl
      have d1 := hcell 1 (.int .i64 D[k].index) rfl
      have d2 := hcell 2 (.int .i64 D[k].due) rfl
      have d3 := hcell 3 (.int .i64 D[k].rank) rfl
      rw [show off + 0 = off by omega] at d0
      have hpd := fun (h : done = true) => putAt_done (h ▸ hput) hkD
      have hph := fun (h : done = false) => putAt_here (x := x) (h ▸ hput) hkD
      have hpp := fun (h : done = false) => putAt_past (x := x) (h ▸ hput) hkD
      obtain ⟨y, hy⟩ : ∃ y, y = D[k] := ⟨_, rfl⟩
      rw [← hy] at d0 d1 d2 d3 hpd hph hpp
      have e0 := ht.cell d0 (by simp)
      have e1 := ht.cell d1 (by simp)
      have e2 := ht.cell d2 (by simp)
      have e3 := ht.cell d3 (by simp)
      have hkI : (k : Int) < (M : Int) := by omega
      have hk0 : (0 : Int) ≤ (k : Int) := by omega
      cases done
      · have hmk' : m ≤ k := hmk
        clear hpd hmk
        by_cases h1 : x.due < y.due
        · have hpn := hph rfl (.inl h1)
          clear hph hpp
          have H := Lib.hid (And.intro ho (And.intro ht (And.intro hf hpn)))
          clear ho ht hf hput hpn hcell hy
          go_wp2_with fail
          go_quiet (fail)
          go_wp2_with (at_builtin; refine stop ?_)
          refine go ?_
          obtain ⟨ho, ht, hf, hpn⟩ := H.out
          have ta := ((Touch.refl [] wr).drewN nq).alloc (.cells #[.string x.asset, .int .i64 x.index, .int .i64 x.due, .int .i64 x.rank] 65)
          have hr1 : RdK itE ((wr.drewN nq).alloc (.cells #[.string x.asset, .int .i64 x.index, .int .i64 x.due, .int .i64 x.rank] 65)) (some ⟨(wr.drewN nq).heap.size, 0, none⟩) [x] := RdK.one _ _ x _ rfl
          refine wpList_appK rfl (.tmp 55) (.tmp 57) 41 rfl 65 noIt 4 40 info_ref Try.underlying41 rfl (by omega) itE_length itE_one A5 m c5 out Hm.out rfl (ho.touch0 ta) (some ⟨(wr.drewN nq).heap.size, 0, none⟩) 1 1 [x] rfl rfl hr1 (by omega) (by omega) ?_
          intro A6 c6 w6 ho6 t6 hf6
          have hol := ho.lt
          have T6 : Touch [] w1 w6 := (ht.trans0 ta).trans t6 (fun b hb => .inr (hf b hb))
          have hf6' : ∀ b ∈ fpo A6, w1.heap.size ≤ b := fun b hb => by
            rcases hf6 b hb with h1 | h1
            · exact hf b h1
            · have := ht.size
              rw [World.size_alloc] at h1
              have h2 : (wr.drewN nq).heap.size = wr.heap.size := rfl
              omega
          have hnA : ∀ v : Nat, v < w1.heap.size → v ∉ fpo A5 := fun v hv hm => by have := hf v hm; omega
          have k0 := T6.cell (a := ⟨b, off, none⟩) (v := .string y.asset) d0 (by simp)
          have k1 := T6.cell (a := ⟨b, off + 1, none⟩) (v := .int .i64 y.index) d1 (by simp)
          have k2 := T6.cell (a := ⟨b, off + 2, none⟩) (v := .int .i64 y.due) d2 (by simp)
          have k3 := T6.cell (a := ⟨b, off + 3, none⟩) (v := .int .i64 y.rank) d3 (by simp)
          have tb := (Touch.refl [] w6).alloc (.cells #[.string y.asset, .int .i64 y.index, .int .i64 y.due, .int .i64 y.rank] 65)
          have hr2 : RdK itE (w6.alloc (.cells #[.string y.asset, .int .i64 y.index, .int .i64 y.due, .int .i64 y.rank] 65)) (some ⟨w6.heap.size, 0, none⟩) [y] := RdK.one _ _ y _ rfl
          have H6 := Lib.hid (And.intro (ho6.touch0 tb) (And.intro T6 (And.intro hf6' (And.intro tb hr2))))
          clear ho6 t6 hf6 ho ht hf hpn ta hr1 hol T6 hf6' hnA tb hr2
          go_wp2_with (at_builtin; refine stop ?_)
          refine go ?_
          refine wpList_appK rfl (.tmp 59) (.tmp 64) 41 rfl 65 noIt 4 40 info_ref Try.underlying41 rfl (by omega) itE_length itE_one A6 (m + 1) c6 (out ++ [x]) (by rw [List.length_append, Hm.out]; rfl) rfl H6.out.1 (some ⟨w6.heap.size, 0, none⟩) 1 1 [y] rfl rfl H6.out.2.2.2.2 (by omega) (by omega) ?_
          intro A7 c7 w7 ho7 t7 hf7
          have H7 := Lib.hid (And.intro ho7 (And.intro t7 hf7))
          clear ho7 t7 hf7
          go_wp2_with fail
          go_roundw
          case rel =>
            obtain ⟨ho, ht, hf, hpn⟩ := H.out
            obtain ⟨ho6, T6, hf6, tb, hr2⟩ := H6.out
            obtain ⟨ho7, t7, hf7⟩ := H7.out
            refine ⟨k + 1, A7, c7, m + 1 + 1, true, out ++ [x] ++ [y], by omega, by go_num, rfl, rfl, Lib.hid (by rw [List.length_append, List.length_append, Hm.out]; rfl), ho7, hpn, (T6.trans0 tb).trans t7 (fun b hb => .inr (hf6 b hb)), fun b hb => ?_, by show m + 1 + 1 ≤ k + 1 + 1; omega⟩
            rcases hf7 b hb with h1 | h1
            · exact hf6 b h1
            · have := T6.size
              rw [World.size_alloc] at h1
              omega
          case measure => simp [intOf]; omega
        have h1f : (x.due < y.due) = False := eq_false h1
        by_cases h2 : x.due = y.due
        · have h2f : (x.due == y.due) = true := by rw [h2]; simp
          by_cases h3 : x.rank < y.rank
          · have hpn := hph rfl (.inr ⟨h2, h3⟩)
            clear hph hpp h2 h1
            have H := Lib.hid (And.intro ho (And.intro ht (And.intro hf hpn)))
            clear ho ht hf hput hpn hcell hy
            go_wp2_with fail
            go_quiet (fail)
            go_wp2_with (at_builtin; refine stop ?_)
            refine go ?_
            obtain ⟨ho, ht, hf, hpn⟩ := H.out
            have ta := ((Touch.refl [] wr).drewN nq).alloc (.cells #[.string x.asset, .int .i64 x.index, .int .i64 x.due, .int .i64 x.rank] 65)
            have hr1 : RdK itE ((wr.drewN nq).alloc (.cells #[.string x.asset, .int .i64 x.index, .int .i64 x.due, .int .i64 x.rank] 65)) (some ⟨(wr.drewN nq).heap.size, 0, none⟩) [x] := RdK.one _ _ x _ rfl
            refine wpList_appK rfl (.tmp 55) (.tmp 57) 41 rfl 65 noIt 4 40 info_ref Try.underlying41 rfl (by omega) itE_length itE_one A5 m c5 out Hm.out rfl (ho.touch0 ta) (some ⟨(wr.drewN nq).heap.size, 0, none⟩) 1 1 [x] rfl rfl hr1 (by omega) (by omega) ?_
            intro A6 c6 w6 ho6 t6 hf6
            have hol := ho.lt
            have T6 : Touch [] w1 w6 := (ht.trans0 ta).trans t6 (fun b hb => .inr (hf b hb))
            have hf6' : ∀ b ∈ fpo A6, w1.heap.size ≤ b := fun b hb => by
              rcases hf6 b hb with h1 | h1
              · exact hf b h1
              · have := ht.size
                rw [World.size_alloc] at h1
                have h2 : (wr.drewN nq).heap.size = wr.heap.size := rfl
                omega
            have hnA : ∀ v : Nat, v < w1.heap.size → v ∉ fpo A5 := fun v hv hm => by have := hf v hm; omega
            have k0 := T6.cell (a := ⟨b, off, none⟩) (v := .string y.asset) d0 (by simp)
            have k1 := T6.cell (a := ⟨b, off + 1, none⟩) (v := .int .i64 y.index) d1 (by simp)
            have k2 := T6.cell (a := ⟨b, off + 2, none⟩) (v := .int .i64 y.due) d2 (by simp)
            have k3 := T6.cell (a := ⟨b, off + 3, none⟩) (v := .int .i64 y.rank) d3 (by simp)
            have tb := (Touch.refl [] w6).alloc (.cells #[.string y.asset, .int .i64 y.index, .int .i64 y.due, .int .i64 y.rank] 65)
            have hr2 : RdK itE (w6.alloc (.cells #[.string y.asset, .int .i64 y.index, .int .i64 y.due, .int .i64 y.rank] 65)) (some ⟨w6.heap.size, 0, none⟩) [y] := RdK.one _ _ y _ rfl
            have H6 := Lib.hid (And.intro (ho6.touch0 tb) (And.intro T6 (And.intro hf6' (And.intro tb hr2))))
            clear ho6 t6 hf6 ho ht hf hpn ta hr1 hol T6 hf6' hnA tb hr2
            go_wp2_with (at_builtin; refine stop ?_)
            refine go ?_
            refine wpList_appK rfl (.tmp 59) (.tmp 64) 41 rfl 65 noIt 4 40 info_ref Try.underlying41 rfl (by omega) itE_length itE_one A6 (m + 1) c6 (out ++ [x]) (by rw [List.length_append, Hm.out]; rfl) rfl H6.out.1 (some ⟨w6.heap.size, 0, none⟩) 1 1 [y] rfl rfl H6.out.2.2.2.2 (by omega) (by omega) ?_
            intro A7 c7 w7 ho7 t7 hf7
            have H7 := Lib.hid (And.intro ho7 (And.intro t7 hf7))
            clear ho7 t7 hf7
            go_wp2_with fail
            go_roundw
            case rel =>
              obtain ⟨ho, ht, hf, hpn⟩ := H.out
              obtain ⟨ho6, T6, hf6, tb, hr2⟩ := H6.out
              obtain ⟨ho7, t7, hf7⟩ := H7.out
              refine ⟨k + 1, A7, c7, m + 1 + 1, true, out ++ [x] ++ [y], by omega, by go_num, rfl, rfl, Lib.hid (by rw [List.length_append, List.length_append, Hm.out]; rfl), ho7, hpn, (T6.trans0 tb).trans t7 (fun b hb => .inr (hf6 b hb)), fun b hb => ?_, by show m + 1 + 1 ≤ k + 1 + 1; omega⟩
              rcases hf7 b hb with h1 | h1
              · exact hf6 b h1
              · have := T6.size
                rw [World.size_alloc] at h1
                omega
            case measure => simp [intOf]; omega
          · have h3f : (x.rank < y.rank) = False := eq_false h3
            have hpn := hpp rfl (fun h => by rcases h with h | h; exact h1 h; exact h3 h.2)
            clear hph hpp h2 h1 h3
            have H := Lib.hid (And.intro ho (And.intro ht (And.intro hf hpn)))
            clear ho ht hf hput hpn hcell hy
            go_wp2_with fail
            go_quiet (fail)
            go_wp2_with (at_builtin; refine stop ?_)
            refine go ?_
            obtain ⟨ho, ht, hf, hpn⟩ := H.out
            have ta := ((Touch.refl [] wr).drewN nq).alloc (.cells #[.string y.asset, .int .i64 y.index, .int .i64 y.due, .int .i64 y.rank] 65)
            have hr1 : RdK itE ((wr.drewN nq).alloc (.cells #[.string y.asset, .int .i64 y.index, .int .i64 y.due, .int .i64 y.rank] 65)) (some ⟨(wr.drewN nq).heap.size, 0, none⟩) [y] := RdK.one _ _ y _ rfl
            refine wpList_appK rfl (.tmp 59) (.tmp 64) 41 rfl 65 noIt 4 40 info_ref Try.underlying41 rfl (by omega) itE_length itE_one A5 m c5 out Hm.out rfl (ho.touch0 ta) (some ⟨(wr.drewN nq).heap.size, 0, none⟩) 1 1 [y] rfl rfl hr1 (by omega) (by omega) ?_
            intro A6 c6 w6 ho6 t6 hf6
            have H6 := Lib.hid (And.intro ho6 (And.intro t6 (And.intro hf6 ta)))
            clear ho6 t6 hf6 ho ht hf hpn ta hr1
            go_wp2_with fail
            go_roundw
            case rel =>
              obtain ⟨ho, ht, hf, hpn⟩ := H.out
              obtain ⟨ho6, t6, hf6, ta⟩ := H6.out
              refine ⟨k + 1, A6, c6, m + 1, false, out ++ [y], by omega, by go_num, rfl, rfl, Lib.hid (by rw [List.length_append, Hm.out]; rfl), ho6, hpn, (ht.trans0 ta).trans t6 (fun b hb => .inr (hf b hb)), fun b hb => ?_, by show m + 1 ≤ k + 1 + 0; omega⟩
              rcases hf6 b hb with h1 | h1
              · exact hf b h1
              · have := ht.size
                rw [World.size_alloc] at h1
                have h2 : (wr.drewN nq).heap.size = wr.heap.size := rfl
                omega
            case measure => simp [intOf]; omega
        · have h2f : (x.due == y.due) = false := by rw [beq_eq_false_iff_ne]; exact h2
          have hpn := hpp rfl (fun h => by rcases h with h | h; exact h1 h; exact h2 h.1)
          clear hph hpp h2 h1
          have H := Lib.hid (And.intro ho (And.intro ht (And.intro hf hpn)))
          clear ho ht hf hput hpn hcell hy
          go_wp2_with fail
          go_quiet (fail)
          go_wp2_with (at_builtin; refine stop ?_)
          refine go ?_
          obtain ⟨ho, ht, hf, hpn⟩ := H.out
          have ta := ((Touch.refl [] wr).drewN nq).alloc (.cells #[.string y.asset, .int .i64 y.index, .int .i64 y.due, .int .i64 y.rank] 65)
          have hr1 : RdK itE ((wr.drewN nq).alloc (.cells #[.string y.asset, .int .i64 y.index, .int .i64 y.due, .int .i64 y.rank] 65)) (some ⟨(wr.drewN nq).heap.size, 0, none⟩) [y] := RdK.one _ _ y _ rfl
          refine wpList_appK rfl (.tmp 59) (.tmp 64) 41 rfl 65 noIt 4 40 info_ref Try.underlying41 rfl (by omega) itE_length itE_one A5 m c5 out Hm.out rfl (ho.touch0 ta) (some ⟨(wr.drewN nq).heap.size, 0, none⟩) 1 1 [y] rfl rfl hr1 (by omega) (by omega) ?_
          intro A6 c6 w6 ho6 t6 hf6
          have H6 := Lib.hid (And.intro ho6 (And.intro t6 (And.intro hf6 ta)))
          clear ho6 t6 hf6 ho ht hf hpn ta hr1
          go_wp2_with fail
          go_roundw
          case rel =>
            obtain ⟨ho, ht, hf, hpn⟩ := H.out
            obtain ⟨ho6, t6, hf6, ta⟩ := H6.out
            refine ⟨k + 1, A6, c6, m + 1, false, out ++ [y], by omega, by go_num, rfl, rfl, Lib.hid (by rw [List.length_append, Hm.out]; rfl), ho6, hpn, (ht.trans0 ta).trans t6 (fun b hb => .inr (hf b hb)), fun b hb => ?_, by show m + 1 ≤ k + 1 + 0; omega⟩
            rcases hf6 b hb with h1 | h1
            · exact hf b h1
            · have := ht.size
              rw [World.size_alloc] at h1
              have h2 : (wr.drewN nq).heap.size = wr.heap.size := rfl
              omega
          case measure => simp [intOf]; omega
      · have hmk' : m ≤ k + 1 := hmk
        have hpn := hpd rfl
        clear hpd hph hpp hmk
        have H := Lib.hid (And.intro ho (And.intro ht (And.intro hf hpn)))
        clear ho ht hf hput hpn hcell hy
        go_wp2_with fail
        go_quiet (fail)
        go_wp2_with (at_builtin; refine stop ?_)
        refine go ?_
        obtain ⟨ho, ht, hf, hpn⟩ := H.out
        have ta := ((Touch.refl [] wr).drewN nq).alloc (.cells #[.string y.asset, .int .i64 y.index, .int .i64 y.due, .int .i64 y.rank] 65)
        have hr1 : RdK itE ((wr.drewN nq).alloc (.cells #[.string y.asset, .int .i64 y.index, .int .i64 y.due, .int .i64 y.rank] 65)) (some ⟨(wr.drewN nq).heap.size, 0, none⟩) [y] := RdK.one _ _ y _ rfl
        refine wpList_appK rfl (.tmp 59) (.tmp 64) 41 rfl 65 noIt 4 40 info_ref Try.underlying41 rfl (by omega) itE_length itE_one A5 m c5 out Hm.out rfl (ho.touch0 ta) (some ⟨(wr.drewN nq).heap.size, 0, none⟩) 1 1 [y] rfl rfl hr1 (by omega) (by omega) ?_
        intro A6 c6 w6 ho6 t6 hf6
        have H6 := Lib.hid (And.intro ho6 (And.intro t6 (And.intro hf6 ta)))
        clear ho6 t6 hf6 ho ht hf hpn ta hr1
        go_wp2_with fail
        go_roundw
        case rel =>
          obtain ⟨ho, ht, hf, hpn⟩ := H.out
          obtain ⟨ho6, t6, hf6, ta⟩ := H6.out
          refine ⟨k + 1, A6, c6, m + 1, true, out ++ [y], by omega, by go_num, rfl, rfl, Lib.hid (by rw [List.length_append, Hm.out]; rfl), ho6, hpn, (ht.trans0 ta).trans t6 (fun b hb => .inr (hf b hb)), fun b hb => ?_, by show m + 1 ≤ k + 1 + 1; omega⟩
          rcases hf6 b hb with h1 | h1
          · exact hf b h1
          · have := ht.size
            rw [World.size_alloc] at h1
            have h2 : (wr.drewN nq).heap.size = wr.heap.size := rfl
            omega
        case measure => simp [intOf]; omega
    · obtain rfl : k = M := by omega
      have hend := putAt_end (x := x) (L := D) (done := done) (out := out) (by rw [← HM.out]; exact hput)
      have hsz := (H1.out.2.1).size
      rw [World.size_alloc] at hsz
      have H := Lib.hid (And.intro ho (And.intro ht (And.intro hf (And.intro hend hsz))))
      clear ho ht hf hend hsz hput
      cases done
      · have hmk' : m ≤ k := hmk
        obtain ⟨ho, ht, hf, hend, hsz⟩ := H.out
        have ta := (Touch.refl [] wr).alloc (.cells #[.string x.asset, .int .i64 x.index, .int .i64 x.due, .int .i64 x.rank] 65)
        have hr1 : RdK itE (wr.alloc (.cells #[.string x.asset, .int .i64 x.index, .int .i64 x.due, .int .i64 x.rank] 65)) (some ⟨wr.heap.size, 0, none⟩) [x] := RdK.one _ _ x _ rfl
        have H2 := Lib.hid (And.intro (ho.touch0 ta) (And.intro ta hr1))
        clear ho ht hf hend hsz ta hr1 hmk
        go_wp2_with (at_builtin; refine stop ?_)
        refine go ?_
        refine wpList_appK rfl (.tmp 68) (.tmp 70) 41 rfl 65 noIt 4 40 info_ref Try.underlying41 rfl (by omega) itE_length itE_one A5 m c5 out Hm.out rfl H2.out.1 (some ⟨wr.heap.size, 0, none⟩) 1 1 [x] rfl rfl H2.out.2.2 (by omega) (by omega) ?_
        intro A6 c6 w6 ho6 t6 hf6
        have H6 := Lib.hid (And.intro ho6 (And.intro t6 hf6))
        clear ho6 t6 hf6
        go_wp2_with fail
        go_ret
        obtain ⟨ho, ht, hf, hend, hsz⟩ := H.out
        obtain ⟨ho6, t6, hf6⟩ := H6.out
        simp at hend
        rw [hend]
        refine ⟨A6, c6, by rw [List.length_append, Hm.out]; rfl, ho6, (((H0.out.1.trans0 H1.out.2.1).trans0 ht).trans0 H2.out.2.1).trans t6 (fun b hb => .inr (by have := hf b hb; omega)), fun b hb => ?_⟩
        rcases hf6 b hb with h1 | h1
        · have := hf b h1; omega
        · have := ht.size
          rw [World.size_alloc] at h1; omega
      · go_wp2_with fail
        go_ret
        obtain ⟨ho, ht, hf, hend, hsz⟩ := H.out
        simp at hend
        rw [hend]
        exact ⟨A5, c5, by rw [Hm.out]; rfl, ho, (H0.out.1.trans0 H1.out.2.1).trans0 ht, fun b hb => by have := hf b hb; omega⟩
end Go.Proofs.Ythhjioeipjnjmaa
