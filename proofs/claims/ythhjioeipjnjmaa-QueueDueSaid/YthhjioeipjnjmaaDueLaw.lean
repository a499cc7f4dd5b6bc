/- bywashlaw24.QueueDue: the walk of the law. For every items and numbers. -/
import Derived.Test.YthhjioeipjnjmaaQueZ
namespace Go.Proofs.Ythhjioeipjnjmaa
open Go.RowKit

set_option maxRecDepth 20000 in
set_option maxHeartbeats 6400000 in
theorem due_law (A : Option Addr) (c : Nat) (xs : List QE) (now most : Int) (hll : xs.length ≤ maxLen) (hok : ∀ x ∈ xs, x.Ok) (w : World) (hr : RdK itE w A xs) :
    Calls Try.prog 5 #[.slice A xs.length c, .int .i64 now, .int .i64 most] w fun e w' => e = .returned (.bool true) ∧ Touch [] w w' := by
  have HA := Lib.hid (fun W => awake_any W)
  unfold maxLen at hll
  by_cases h100 : 100 < xs.length
  · go_enter Try.func5, Try.ntmps5
    go_wp2_with fail
    refine (HA.out _).mono ?_
    rintro e w1 ⟨rfl, t1⟩
    go_wp2_with fail
    go_ret
    exact ⟨rfl, t1⟩
  have Hr := Lib.hid hr
  have Hok := Lib.hid hok
  have h100' : xs.length ≤ 100 := by omega
  clear hr hok
  go_enter Try.func5, Try.ntmps5
  go_wp2_with fail
  go_loopw [21] (fun i wr => ∃ (k : Nat), k ≤ xs.length ∧ i = .int .i64 k ∧ Touch [] w wr) (fun i _ => xs.length - (intOf i).toNat)
  case atStart => exact ⟨0, by omega, rfl, Touch.refl [] w⟩
  case round =>
    obtain ⟨k, hk, rfl, ht⟩ := hrel
    by_cases hlt : k < xs.length
    · obtain ⟨ad, b, off, rfl, hadd, hbb, hcell⟩ := (Hr.out.touch0 ht).at_ 4 itE_length (by omega) k hlt
      have e0 := hcell 0 (.string xs[k].asset) rfl
      have e1 := hcell 1 (.int .i64 xs[k].index) rfl
      have e2 := hcell 2 (.int .i64 xs[k].due) rfl
      have e3 := hcell 3 (.int .i64 xs[k].rank) rfl
      have hoff : off + 0 = off := by omega
      rw [hoff] at e0
      obtain ⟨x, hx⟩ : ∃ x, x = xs[k] := ⟨_, rfl⟩
      rw [← hx] at e0 e1 e2 e3
      have hkI : (k : Int) < (xs.length : Int) := by omega
      have ta := ht.alloc (.cells #[.string x.asset, .int .i64 x.index, .int .i64 x.due, .int .i64 x.rank] 28)
      have H := Lib.hid ta
      clear hx ht ta hcell hbb hoff
      by_cases h50 : 50 < x.asset.size
      · go_wp2_with fail
        refine (HA.out _).mono ?_
        rintro e w1 ⟨rfl, t1⟩
        go_wp2_with fail
        go_ret
        exact ⟨rfl, H.out.trans0 t1⟩
      · have hsz : x.asset.size ≤ 50 := by omega
        go_wp2_with fail
        go_roundw
        case rel => exact ⟨k + 1, by omega, by go_num, H.out⟩
        case measure => simp [intOf]; omega
    · obtain rfl : k = xs.length := by omega
      have Hnew := Lib.hid (new_any A c xs.length xs rfl (by omega) Hok.out wr (Hr.out.touch0 ht))
      have H := Lib.hid ht
      clear ht hk hlt
      go_wp2_with fail
      refine Hnew.out.mono ?_
      rintro e w1 ⟨g, fp, rfl, hq, t1, hf⟩
      obtain ⟨L, hL⟩ : ∃ L, L = newQ xs xs.length := ⟨_, rfl⟩
      rw [← hL] at hq
      have hLn : L.length ≤ 100 := by rw [hL]; have := newQ_len xs xs.length; omega
      have Hall := Lib.hid (all_any g fp L xs.length w1 hq)
      have H1 := Lib.hid (And.intro hq (And.intro t1 hf))
      clear hq t1 hf hL
      go_wp2_with fail
      refine Hall.out.mono ?_
      rintro e w2 ⟨A2, c2, rfl, ho2, t2, hf2⟩
      have Hdue := Lib.hid (due_any g fp L xs.length now most w2 (H1.out.1.touch0 t2))
      have H2 := Lib.hid (And.intro ho2 (And.intro t2 hf2))
      clear ho2 t2 hf2
      go_wp2_with fail
      refine Hdue.out.mono ?_
      rintro e w3 ⟨k, A3, c3, fp3, rfl, hk, ho3, hq3, hdue, hkm, hend, t3, hfp3, hf3⟩
      have Hall3 := Lib.hid (all_any g fp3 (L.drop k) xs.length w3 hq3)
      have H3 := Lib.hid (And.intro ho3 (And.intro hq3 (And.intro hdue (And.intro hend (And.intro t3 (And.intro hfp3 hf3))))))
      clear ho3 hq3 hdue hend t3 hfp3 hf3
      go_wp2_with fail
      refine Hall3.out.mono ?_
      rintro e w4 ⟨A4, c4, rfl, ho4, t4, hf4⟩
      have H4 := Lib.hid (And.intro ho4 (And.intro t4 hf4))
      clear ho4 t4 hf4
      obtain ⟨M, hM⟩ : ∃ M, M = (L.drop k).length := ⟨_, rfl⟩
      obtain ⟨N, hN⟩ : ∃ N, N = L.length := ⟨_, rfl⟩
      rw [← hM, ← hN]
      rw [← hN] at hk hLn
      have hMN : (k : Int) + (M : Int) = (N : Int) := by rw [hM, List.length_drop, ← hN]; omega
      have HM := Lib.hid hM
      have HN := Lib.hid hN
      clear hM hN
      have hNN : ((N : Int) == (N : Int)) = true := by simp
      have hNN' : ((N : Int) != (N : Int)) = false := by simp
      have hmax : ∀ m : Int, m = max most 0 → ((m < (k : Int)) = False) := fun m hm => eq_false (by omega)
      have hjoin : ∀ W, OwnIt W A3 c3 (L.take k) → True := fun _ _ => trivial
      clear hjoin
      have hk0 : (max most 0 < (k : Int)) = False := eq_false (by omega)
      go_wp2_with (at_builtin; refine stop ?_)
      refine go ?_
      have hkN : k ≤ L.length := by rw [← HN.out]; exact hk
      have hoW : OwnIt w4 A3 c3 (L.take k) := H3.out.1.touch0 H4.out.2.1
      refine wpList_appK rfl (.tmp 59) (.tmp 60) 22 rfl 28 noIt 4 40 info_item Try.underlying22 rfl (by omega) itE_length itE_one A3 k c3 (L.take k) (by rw [List.length_take]; omega) rfl hoW A4 M c4 (L.drop k) HM.out.symm rfl H4.out.1.rd (by omega) (by omega) ?_
      intro A5 c5 w5 ho5 t5 hf5
      rw [List.take_append_drop] at ho5
      obtain ⟨hq1, t1, hf1⟩ := H1.out
      obtain ⟨ho2, t2, hf2⟩ := H2.out
      obtain ⟨ho3, hq3, hdue, hend, t3, hfp3, hf3⟩ := H3.out
      obtain ⟨ho4, t4, hf4⟩ := H4.out
      have hqlt := hq1.lt
      have h3lt := ho3.lt
      have h2lt := ho2.lt
      have hoA : OwnIt w5 A2 c2 L := ((ho2.touch t3 (fun b hb hm => by have := hf2 b hb; have := hqlt b hm; omega)).touch0 t4).touch t5 (fun b hb hm => by have := h2lt b hb; have := (hf3 b hm).1; omega)
      have hoL : OwnIt w5 A4 c4 (L.drop k) := ho4.touch t5 (fun b hb hm => by have := hf4 b hb; have := h3lt b hm; omega)
      have T5 : Touch [] w w5 := ((((H.out.trans0 t1).trans0 t2).trans t3 (fun b hb => .inr (by have := hf1 b hb; have := H.out.size; omega))).trans0 t4).trans t5 (fun b hb => .inr (by have := (hf3 b hb).1; have := H.out.size; have := t1.size; have := t2.size; omega))
      have hLok : ∀ e ∈ L, e.Ok := hq1.ord.2
      have H5 := Lib.hid (And.intro ho5 (And.intro hoA (And.intro hoL (And.intro T5 (And.intro hLok (And.intro hdue hend))))))
      clear hoW ho5 t5 hf5 hq1 t1 hf1 ho2 t2 hf2 ho3 hq3 hdue hend t3 hfp3 hf3 ho4 t4 hf4 hqlt h3lt h2lt hoA hoL T5 hLok
      have hMNn : k + M = N := by omega
      go_wp2_with fail
      go_loopw [63] (fun i wr => ∃ (j : Nat), j ≤ N ∧ i = .int .i64 j ∧ Touch [] w5 wr) (fun i _ => N - (intOf i).toNat)
      case atStart => exact ⟨0, by omega, rfl, Touch.refl [] _⟩
      case round =>
        obtain ⟨j, hj, rfl, ht⟩ := hrel
        obtain ⟨ho5, hoA, hoL, T5, hLok, hdue, hend⟩ := H5.out
        by_cases hlt : j < N
        · have hjL : j < L.length := by rw [← HN.out]; exact hlt
          obtain ⟨ad, b, off, rfl, hadd, -, hcell⟩ := (ho5.rd.touch0 ht).at_ 4 itE_length (by omega) j hjL
          obtain ⟨ad2, b2, off2, rfl, hadd2, -, hcell2⟩ := (hoA.rd.touch0 ht).at_ 4 itE_length (by omega) j hjL
          have e0 := hcell 0 (.string L[j].asset) rfl
          have e1 := hcell 1 (.int .i64 L[j].index) rfl
          have e2 := hcell 2 (.int .i64 L[j].due) rfl
          have e3 := hcell 3 (.int .i64 L[j].rank) rfl
          have d0 := hcell2 0 (.string L[j].asset) rfl
          have d1 := hcell2 1 (.int .i64 L[j].index) rfl
          have d2 := hcell2 2 (.int .i64 L[j].due) rfl
          have d3 := hcell2 3 (.int .i64 L[j].rank) rfl
          rw [show off + 0 = off by omega] at e0
          rw [show off2 + 0 = off2 by omega] at d0
          have hxok := hLok L[j] (List.getElem_mem hjL)
          have hdj : j < k → L[j].due ≤ now := fun h => hdue _ (by rw [List.mem_take_iff_getElem]; exact ⟨j, by omega, rfl⟩)
          obtain ⟨x, hx⟩ : ∃ x, x = L[j] := ⟨_, rfl⟩
          rw [← hx] at e0 e1 e2 e3 d0 d1 d2 d3 hxok hdj
          have hjI : (j : Int) < (N : Int) := by omega
          have hj0 : (0 : Int) ≤ (j : Int) := by omega
          have heq : ∀ W : World, (Op.equalIn 9999 28 (.agg #[.string x.asset, .int .i64 x.index, .int .i64 x.due, .int .i64 x.rank]) (.agg #[.string x.asset, .int .i64 x.index, .int .i64 x.due, .int .i64 x.rank])).run Try.prog W = .ok true W := fun W => by
            have := eq_item x x hxok hxok W
            rw [sameI_same] at this
            exact this
          have tz := (Touch.refl [] wr).alloc (.cells #[.string x.asset, .int .i64 x.index, .int .i64 x.due, .int .i64 x.rank] 28)
          have hz := heap_alloc_new wr (.cells #[.string x.asset, .int .i64 x.index, .int .i64 x.due, .int .i64 x.rank] 28)
          obtain ⟨W, hW⟩ : ∃ W, W = wr.alloc (.cells #[.string x.asset, .int .i64 x.index, .int .i64 x.due, .int .i64 x.rank] 28) := ⟨_, rfl⟩
          have HW := Lib.hid hW
          rw [← hW] at tz hz
          have Htz := Lib.hid (ht.trans0 tz)
          have f0 := tz.cell d0 (by simp)
          have f1 := tz.cell d1 (by simp)
          have f2 := tz.cell d2 (by simp)
          have f3 := tz.cell d3 (by simp)
          have x0 : W.cell? ⟨wr.heap.size, 0, none⟩ = some (.string x.asset) := cell_blk hz rfl
          have x1 : W.cell? ⟨wr.heap.size, 1, none⟩ = some (.int .i64 x.index) := cell_blk hz rfl
          have x2 : W.cell? ⟨wr.heap.size, 2, none⟩ = some (.int .i64 x.due) := cell_blk hz rfl
          have x3 : W.cell? ⟨wr.heap.size, 3, none⟩ = some (.int .i64 x.rank) := cell_blk hz rfl
          clear ho5 hoA hoL T5 hLok hdue hend hcell hcell2 hx ht hxok d0 d1 d2 d3 hz tz hW
          by_cases hjk : j < k
          · have hd := hdj hjk
            have hnd : (now < x.due) = False := eq_false (by omega)
            have hjkI : (j : Int) < (k : Int) := by omega
            go_wp2_with fail
            rw [← HW.out]
            go_quiet (fail)
            go_wp2_with fail
            go_roundw
            case rel => exact ⟨j + 1, by omega, by go_num, Htz.out.drewN _⟩
            case measure => simp [intOf]; omega
          · have hjkI : ¬ (j : Int) < (k : Int) := by omega
            go_wp2_with fail
            rw [← HW.out]
            go_quiet (fail)
            go_wp2_with fail
            go_roundw
            case rel => exact ⟨j + 1, by omega, by go_num, Htz.out.drewN _⟩
            case measure => simp [intOf]; omega
        · obtain rfl : j = N := by omega
          have T := T5.trans0 ht
          have HT := Lib.hid T
          rcases Nat.eq_zero_or_pos M with hM0 | hM0
          · subst hM0
            clear ho5 hoA hoL T5 hLok hdue hend ht T
            go_wp2_with fail
            refine (HA.out _).mono ?_
            rintro e w6 ⟨rfl, t6⟩
            go_wp2_with fail
            go_ret
            exact ⟨rfl, HT.out.trans0 t6⟩
          · have hMz : ((M : Int) == 0) = false := by rw [beq_eq_false_iff_ne]; omega
            rcases hdL : L.drop k with _ | ⟨x, L'⟩
            · have := HM.out; rw [hdL] at this; simp at this; omega
            · rw [hdL] at hoL hend
              obtain ⟨G, rfl⟩ : ∃ G, A4 = some ⟨G, 0, none⟩ := by
                rcases hoL.head with ⟨_, h2, _⟩ | h2
                · cases h2
                · exact h2
              have hc := World.ownsRow.cells hoL (g := G) rfl 2 (.int .i64 x.due) rfl
              rw [show (⟨G, 0, none⟩ : Addr).add 2 = ⟨G, 2, none⟩ by unfold Addr.add; split <;> simp_all] at hc
              have hc2 := ht.cell hc (by simp)
              have hMI : (0 : Int) < (M : Int) := by omega
              by_cases hnx : now < x.due
              · clear ho5 hoA hoL T5 hLok hdue hend ht T hdL hc
                go_wp2_with fail
                refine (HA.out _).mono ?_
                rintro e w6 ⟨rfl, t6⟩
                go_wp2_with fail
                go_ret
                exact ⟨rfl, HT.out.trans0 t6⟩
              · have hkm3 : (k : Int) = max most 0 := by
                  rcases hend with h | h
                  · exact h
                  · exact absurd (h x (by simp)) hnx
                have hfin : ((k : Int) == max most 0) = true := by rw [beq_iff_eq]; exact hkm3
                clear ho5 hoA hoL T5 hLok hdue hend ht T hdL hc hkm3
                go_wp2_with fail
                refine (HA.out _).mono ?_
                rintro e w6 ⟨rfl, t6⟩
                go_wp2_with fail
                go_ret
                exact ⟨rfl, HT.out.trans0 t6⟩
end Go.Proofs.Ythhjioeipjnjmaa
