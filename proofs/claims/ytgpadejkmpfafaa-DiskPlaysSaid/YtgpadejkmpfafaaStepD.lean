/- bywashlaw06.step at Read. -/
import Derived.Test.YtgpadejkmpfafaaStepC
namespace Go.Proofs.Ytgpadejkmpfafaa
open Go.RowKit

theorem S6_list (a : List UInt8) : (S a).toList = a := by rw [ByteArray.toList_eq]; simp [S]

set_option maxRecDepth 100000 in
set_option maxHeartbeats 3200000 in
theorem step_read (g : Nat) (fp : List Nat) (V : Fl) (r : DR) (h : Nat) (fq : List Nat) (rr : RR) (file n : Int) (vd vk : Value) (w : World) (P : PairAt w g fp V r h fq (toR V) rr) (hs : SameR r rr) :
    Calls Try.prog 23 #[.pointer (some ⟨g, 0, none⟩), .pointer (some ⟨h, 0, none⟩), .agg #[.int .i64 4, .int .i64 file, .int .i64 n, vd, vk]] w fun e w' => StepPost g fp h fq r w e w' := by
  have ta := (Touch.refl [] w).alloc (.cells #[.int .i64 4, .int .i64 file, .int .i64 n, vd, vk] 41)
  have hb := heap_alloc_new w (.cells #[.int .i64 4, .int .i64 file, .int .i64 n, vd, vk] 41)
  have c1 : (w.alloc (.cells #[.int .i64 4, .int .i64 file, .int .i64 n, vd, vk] 41)).cell? ⟨w.heap.size, 1, none⟩ = some (.int .i64 file) := cell_blk hb rfl
  have hltp := P.dk.lt
  have hltq := P.rd.lt
  have P0 := P.keep ta
  have hf := P.dk.fok
  have hl4 := hf.len
  have hread := read_dk g fp V r file _ P0.dk
  have hdn := hs.down
  have hstop : ∀ w', Touch [] w w' → PairStep g fp h fq V r w w' := fun w' T => ⟨fp, fq, rr, P.keep T, hs, T.mono (by simp), fun b hb => .inl (by simp [hb]), fun b hb => .inl (by simp [hb])⟩
  have Hstop := Lib.hid hstop
  clear hstop
  by_cases hdown : r.down = true
  · have hck : checkI r.down file = 40 := by rw [hdown]; rfl
    rw [hck] at hread
    rw [hdown] at hdn
    go_enter Try.func23, Try.ntmps23
    go_wp2_with fail
    refine hread.mono ?_
    rintro e w1 ⟨A1, d1, l, hl, rfl, hown1, ht1, hf1⟩
    replace hl : l = [] := by simpa using hl
    subst hl
    have P1 := P0.keep ht1
    obtain ⟨q8, q9, q10, q11, q12⟩ := P1.rd.cells
    rw [hdn] at q12
    have PS := Lib.hid (Hstop.out w1 (ta.trans0 ht1))
    clear hb c1 P1
    go_wp2
    go_ret
    exact ⟨rfl, _, _, PS.out, by omega⟩
  · have hd2 : r.down = false := by simpa using hdown
    rw [hd2] at hdn
    by_cases hrg : 0 ≤ file ∧ file < 4
    · have hck : checkI r.down file = 0 := by simp only [checkI, hd2]; simp; omega
      rw [hck] at hread
      obtain ⟨k, rfl⟩ : ∃ k : Nat, file = k := ⟨file.toNat, by omega⟩
      have hk : k < V.length := by omega
      have hk2 : k < (toR V).length := by rw [toR_len]; exact hk
      have hg1 : ((toR V)[k]).1 = (V[k]).1 := by rw [toR_get V k hk hk2]
      have hkI0 : (0 : Int) ≤ (k : Int) := by omega
      have hkI : (k : Int) < 4 := by omega
      have hgD : V.getD k ([], 0) = V[k] := by simp [List.getD, hk]
      have hd0 : decide ((k : Int) < 0) = false := by simp
      have hd3 : decide (3 < (k : Int)) = false := by simp; omega
      have hul := usedV_le k hk
      have hus := hf.used
      obtain ⟨b, hbe⟩ : ∃ b, b = (V[k]).1 := ⟨_, rfl⟩
      rw [← hbe] at hg1 hul
      have hbl : b.length ≤ 1073741824 := by omega
      clear hrg
      go_enter Try.func23, Try.ntmps23
      go_wp2_with fail
      refine hread.mono ?_
      rintro e w1 ⟨A1, d1, l, hl, rfl, hown1, ht1, hf1⟩
      rw [if_pos trivial, Int.toNat_natCast, hgD, ← hbe] at hl
      subst hl
      have P1 := P0.keep ht1
      obtain ⟨q8, q9, q10, q11, q12⟩ := P1.rd.cells
      rw [hdn] at q12
      have c1' := ht1.cell c1 (by simp)
      obtain ⟨A2, d2, B2, e2, ⟨cb, ob, cs, os, fa, fb, putB, putS⟩⟩ := P1.rd.file k hk2
      rw [hg1] at cb ob
      have hcv1 := fun n => run_str_of (w := w1.drewN n) d1 rfl (hown1.touch0 ((Touch.refl [] w1).drewN n)).rd
      have hcv2 := fun n => run_str_of (w := w1.drewN n) d2 rfl (ob.touch0 ((Touch.refl [] w1).drewN n)).rd
      have T1 := ta.trans0 ht1
      have z1 := ta.size
      simp at z1
      have hq : ((S l).toList == (S l).toList) = true := by simp
      clear hb c1 P1 putB putS os cs hbe hgD hread
      go_wp2_with fail
      go_quiet (fail)
      obtain ⟨W, hW⟩ : ∃ W, W = w1.drewN nq := ⟨_, rfl⟩
      rw [← hW]
      have hownW := hown1.touch0 ((Touch.refl [] w1).drewN nq)
      rw [← hW] at hownW
      have TW : Touch [] w W := by rw [hW]; exact T1.drewN nq
      have hfA : ∀ x ∈ fpo A1, w.heap.size + 1 ≤ x := fun x hx => by have := hf1 x hx; simp at this; exact this
      have HF : Hid (∀ wr, Touch (fpo A1) W wr → PairStep g fp h fq V r w wr) := Lib.hid (fun wr T => by
        have PW := P.keep TW
        refine ⟨fp, fq, rr, PW.touch T (fun b hb hm => by have := hfA b hm; have := hltp b hb; omega) (fun b hb hm => by have := hfA b hm; have := hltq b hb; omega), hs, (TW.mono (by simp)).trans T (fun b hb => .inr (by have := hfA b hb; omega)), fun b hb => .inl (by simp [hb]), fun b hb => .inl (by simp [hb])⟩)
      clear hW hcv1 hcv2 ob cb c1' q8 q9 q10 q11 q12
      go_wp2_with fail
      go_loopw [123] (fun i wr => ∃ (j : Nat) (zs : List UInt8), j ≤ l.length ∧ i = .int .i64 j ∧ zs.length = l.length ∧ OwnB wr A1 d1 zs ∧ Touch (fpo A1) W wr) (fun i _ => l.length - (intOf i).toNat)
      case atStart => exact ⟨0, l, by omega, rfl, rfl, hownW, Touch.refl _ _⟩
      case round =>
        clear hownW
        obtain ⟨j, zs, hj, rfl, hzl, hown, ht5⟩ := hrel
        by_cases hlt : j < l.length
        · have hkz : j < zs.length := by omega
          obtain ⟨G, rfl⟩ : ∃ G, A1 = some ⟨G, 0, none⟩ := by
            rcases hown.head with ⟨_, e, _⟩ | ⟨G, e⟩
            · rw [e] at hkz; simp at hkz
            · exact ⟨G, e⟩
          obtain ⟨y, hy⟩ : ∃ y, y = zs[j] := ⟨_, rfl⟩
          have hcell : wr.cell? ⟨G, j, none⟩ = some (.int .u8 y.toNat) := by
            have := World.ownsRow.cells hown (g := G) rfl j (B y) (by rw [hy]; simp [hkz])
            rwa [add_gk] at this
          have hfree : wr.frozen? ⟨G, j, none⟩ = false := World.ownsRow.frozenAt hown j
          have hset := hown.set j (y + 1)
          have hyl := y.toNat_lt
          have hinc := Lib.hid (u8_inc y)
          have hzl2 : (zs.set j (y + 1)).length = l.length := by rw [List.length_set]; exact hzl
          have Hzl := Lib.hid hzl2
          clear hy hzl hzl2 hown
          have T5 := ht5.setCell (p := ⟨G, j, none⟩) (.inl (by simp [fpo])) (B (y + 1))
          go_wp2_with fail
          go_roundw
          case rel => exact ⟨j + 1, zs.set j (y + 1), by omega, by go_num, Hzl.out, by rw [hinc.out]; exact hset, by rw [hinc.out]; exact T5⟩
          case measure => simp [intOf]; omega
        · have hfin := Lib.hid (HF.out wr ht5)
          clear hown hzl ht5
          go_wp2
          go_ret
          exact ⟨rfl, V, r, hfin.out, by omega⟩
    · have hck : checkI r.down file = 30 := by simp only [checkI, hd2]; simp; omega
      rw [hck] at hread
      rcases (show file < 0 ∨ (0 ≤ file ∧ 3 < file) by omega) with h0 | ⟨h0, h3⟩
      all_goals
        clear hrg
        go_enter Try.func23, Try.ntmps23
        go_wp2_with fail
        refine hread.mono ?_
        rintro e w1 ⟨A1, d1, l, hl, rfl, hown1, ht1, hf1⟩
        replace hl : l = [] := by simpa using hl
        subst hl
        have P1 := P0.keep ht1
        obtain ⟨q8, q9, q10, q11, q12⟩ := P1.rd.cells
        rw [hdn] at q12
        have c1' := ht1.cell c1 (by simp)
        have PS := Lib.hid (Hstop.out w1 (ta.trans0 ht1))
        clear hb c1 P1
        go_wp2
        go_ret
        exact ⟨rfl, _, _, PS.out, by omega⟩
end Go.Proofs.Ytgpadejkmpfafaa
