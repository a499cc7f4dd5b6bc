/- bywashlaw06.DiskPower: the walk of the law. For every script and every arm. -/
import Derived.Test.YtgpadejkmpfafaaOps
import Derived.Test.YtgpadejkmpfafaaDiskFullLaw
namespace Go.Proofs.Ytgpadejkmpfafaa
open Go.RowKit

/-- what stands between two calls: as many commands are left as were armed, less those that were done -/
def Inv (arm : Int) (r : DR) : Prop := (arm < 0 ∧ r.left = -1 ∧ r.down = false) ∨ (0 ≤ arm ∧ 0 ≤ r.left ∧ r.left + r.done = arm ∧ (r.down = true → r.left = 0))
def Good (arm : Int) (r : DR) (E : Int) (r2 : DR) : Prop := (r.down = true → E = 40) ∧ r2.down = decide (E = 40) ∧ Inv arm r2 ∧ r2.done ≤ r.done + 1

theorem good_same {arm : Int} {r : DR} {n : Int} (hi : Inv arm r) (hc : checkI r.down n ≠ 0) : Good arm r (checkI r.down n) r := by
  refine ⟨fun h => by simp [checkI, h], ?_, hi, by omega⟩
  unfold checkI
  cases hd : r.down
  · by_cases hn : 0 ≤ n ∧ n < 4
    · exact absurd (by simp [checkI, hd, hn]) hc
    · simp [hn]
  · simp
theorem good_other {arm : Int} {r : DR} {E : Int} (hi : Inv arm r) (hd : r.down = false) (hE : E ≠ 40) : Good arm r E r :=
  ⟨(fun h => by rw [hd] at h; cases h), by rw [hd]; simp [hE], hi, by omega⟩
theorem good_cmd {arm : Int} {r : DR} (hi : Inv arm r) (hd : r.down = false) : Good arm r (cmdE r) (cmdR r) := by
  refine ⟨(fun h => by rw [hd] at h; cases h), ?_, ?_, ?_⟩
  · unfold cmdE cmdR
    by_cases h : r.left = 0
    · simp [h]
    · simp [h, hd]
  · unfold cmdR
    rcases hi with ⟨h1, h2, h3⟩ | ⟨h1, h2, h3, h4⟩
    · rw [if_neg (by omega)]
      exact .inl ⟨h1, by show max (r.left - 1) (-1) = -1; omega, hd⟩
    · by_cases h : r.left = 0
      · rw [if_pos h]
        exact .inr ⟨h1, h2, h3, fun _ => h⟩
      · rw [if_neg h]
        exact .inr ⟨h1, by show 0 ≤ max (r.left - 1) (-1); omega, by show max (r.left - 1) (-1) + (r.done + 1) = arm; omega, fun hx => by simp [hd] at hx⟩
  · unfold cmdR
    split <;> simp
    omega
theorem good_app {arm : Int} {V : Fl} {r : DR} {n : Int} {b : List UInt8} {x : Int × Fl × DR} (hi : Inv arm r) (hx : pApp V r n b = x) : Good arm r x.1 x.2.2 := by
  subst hx
  unfold pApp
  by_cases hc : checkI r.down n = 0
  · obtain ⟨hd, _⟩ := check_zero hc
    rw [if_neg (by simpa using hc)]
    split
    · exact good_other hi hd (by simp)
    · exact good_cmd hi hd
  · rw [if_pos (by simpa using hc)]
    exact good_same hi hc
theorem good_sync {arm : Int} {V : Fl} {r : DR} {n : Int} {x : Int × Fl × DR} (hi : Inv arm r) (hx : pSync V r n = x) : Good arm r x.1 x.2.2 := by
  subst hx
  unfold pSync
  by_cases hc : checkI r.down n = 0
  · obtain ⟨hd, _⟩ := check_zero hc
    rw [if_neg (by simpa using hc)]
    exact good_cmd hi hd
  · rw [if_pos (by simpa using hc)]
    exact good_same hi hc
theorem good_cut {arm : Int} {V : Fl} {r : DR} {n m : Int} {x : Int × Fl × DR} (hi : Inv arm r) (hx : pCut V r n m = x) : Good arm r x.1 x.2.2 := by
  subst hx
  unfold pCut
  by_cases hc : checkI r.down n = 0
  · obtain ⟨hd, _⟩ := check_zero hc
    rw [if_neg (by simpa using hc)]
    split
    · exact good_other hi hd (by simp)
    · exact good_cmd hi hd
  · rw [if_pos (by simpa using hc)]
    exact good_same hi hc
theorem good_read {arm : Int} {r : DR} {n : Int} (hi : Inv arm r) : Good arm r (checkI r.down n) r := by
  by_cases hc : checkI r.down n = 0
  · obtain ⟨hd, _⟩ := check_zero hc
    rw [hc]
    exact good_other hi hd (by simp)
  · exact good_same hi hc
theorem sync_dkx (g : Nat) (fp : List Nat) (V : Fl) (r : DR) (n : Int) (w : World) (hd : DkAt w g fp V r) (hdone : r.done < 1073741824) (x : Int × Fl × DR) (hx : pSync V r n = x) :
    Calls Try.prog 11 #[.pointer (some ⟨g, 0, none⟩), .int .i64 n] w fun e w' => e = .returned (.int .i64 x.1) ∧ DkStep g fp x.2.1 x.2.2 w w' := by
  subst hx
  exact sync_dk g fp V r n w hd hdone

set_option maxRecDepth 100000 in
set_option maxHeartbeats 6400000 in
theorem power_law (A : Option Addr) (c : Nat) (l : List OpD) (arm : Int) (w : World) (ho : OpsAt w A l) (hl : l.length ≤ 9223372036854775807) (ha1 : -9223372036854775808 ≤ arm) (ha2 : arm ≤ 9223372036854775807) :
    Calls Try.prog 4 #[.slice A l.length c, .int .i64 arm] w fun e w' => e = .returned (.bool true) ∧ Touch [] w w' := by
  go_enter Try.func4, Try.ntmps4
  go_wp2_with fail
  refine (new_dk 1048576 w (by omega)).mono ?_
  rintro e w1 ⟨rfl, hd1, ht1⟩
  go_wp2_with fail
  refine (small_any A c l w1 (ho.touch0 ht1) hl).mono ?_
  rintro e w2 ⟨rfl, ht2⟩
  have hd2 := hd1.step ht2 (by simp)
  have T2 := ht1.trans0 ht2
  cases hsm : (l.all smallO && decide (l.length ≤ 60))
  · go_wp2_with (go_at_call 10; refine (awake6_any _).mono ?_; rintro e w3 ⟨rfl, ht3⟩)
    go_ret
    exact ⟨rfl, T2.trans0 ht3⟩
  have hl60 : l.length ≤ 60 := by simp at hsm; exact hsm.2
  clear hsm
  go_wp2_with fail
  refine (arm_dk w.heap.size _ _ _ arm w2 hd2 ha2).mono ?_
  rintro e w3 ⟨rfl, fp3, hd3, ht3, hf3⟩
  have T3 : Touch [] w w3 := T2.trans ht3 (fun b hb => .inr (by simp at hb; omega))
  have F3 : ∀ b ∈ fp3, w.heap.size ≤ b := fun b hb => by
    rcases hf3 b hb with h | h
    · simp at h; omega
    · exact Nat.le_trans T2.size h
  have hinv0 : Inv arm { (⟨1048576, -1, 0, false⟩ : DR) with left := max arm (-1) } := by
    by_cases h : arm < 0
    · exact .inl ⟨h, by show max arm (-1) = -1; omega, rfl⟩
    · exact .inr ⟨by omega, by show 0 ≤ max arm (-1); omega, by show max arm (-1) + 0 = arm; omega, fun h => by cases h⟩
  clear hd1 hd2 ht1 ht2 ht3 hf3 T2
  go_wp2_with fail
  go_loopw [28] (fun i wr => ∃ (k : Nat) (V : Fl) (fp : List Nat) (r : DR), k ≤ l.length ∧ i = .int .i64 k ∧ DkAt wr w.heap.size fp V r ∧ Inv arm r ∧ r.done ≤ k ∧ Touch [] w wr ∧ ∀ b ∈ fp, w.heap.size ≤ b) (fun i _ => l.length - (intOf i).toNat)
  case atStart => exact ⟨0, _, _, _, by omega, rfl, hd3, hinv0, by simp, T3, F3⟩
  case round =>
    clear hd3 hinv0 T3 F3
    obtain ⟨k, V, fp, r, hk, rfl, hd, hinv, hdk, ht, hf⟩ := hrel
    by_cases hlt : k < l.length
    · obtain ⟨ad, b, off, rfl, hadd, hok⟩ := ho.touch0 ht k hlt
      obtain ⟨o, hoe⟩ : ∃ o, o = l[k] := ⟨_, rfl⟩
      rw [← hoe] at hok
      clear hoe ho
      have c0 := hok.c0
      have c1 := hok.c1
      have c2 := hok.c2
      have c3 := hok.c3
      have c4 := hok.c4
      have hrd := hok.rd
      have dl := hok.dl
      clear hok
      obtain ⟨kd, hkd⟩ : ∃ kd, kd = o.kind := ⟨_, rfl⟩
      rw [← hkd] at c0
      clear hkd
      have ta := (Touch.refl [] wr).alloc (.cells #[.int .i64 kd, .int .i64 o.file, .int .i64 o.n, .slice o.dA o.data.length o.dc, .slice o.kA o.keep.length o.kc] 41)
      have hda := hd.step ta (by simp)
      have hrda := hrd.touch0 ta
      have Ta := ht.trans0 ta
      have c11 := hda.cells.2.2.2
      have hdone : r.done < 1073741824 := by omega
      have Hinv := Lib.hid hinv; clear hinv
      by_cases hk1 : kd = 1
      · subst hk1
        obtain ⟨x, hx⟩ : ∃ x, pApp V r o.file o.data = x := ⟨_, rfl⟩
        have Hx := Lib.hid hx; clear hx

        go_wp2_with fail
        refine (down_any w.heap.size r.down _ c11).mono ?_
        rintro e w' ⟨rfl, rfl⟩
        cases hb0 : r.down
        · rw [hb0] at c11
          go_wp2_with fail
          refine (append_dkn w.heap.size fp V r o.file o.dA o.data.length o.dc o.data rfl _ hda hrda dl hdone x Hx.out).mono ?_
          obtain ⟨E, Vn, rn⟩ := x
          rintro e wn ⟨rfl, fpn, hdn, htn, hfn⟩
          have hgood : Good arm r E rn := good_app Hinv.out Hx.out
          clear c0 c1 c2 c3 c4 hda
          obtain ⟨g1, g2, g3, g4⟩ := hgood
          have c11' := hdn.cells.2.2.2
          have c10' := hdn.cells.2.2.1
          have Tn := Ta.trans htn (fun b hb => .inr (hf b hb))
          have Fn : ∀ b ∈ fpn, w.heap.size ≤ b := fun b hb => by
            rcases hfn b hb with h | h
            · exact hf b h
            · exact Nat.le_trans Ta.size h
          have hrel : ∀ W : World, Touch [] wn W → DkAt W w.heap.size fpn Vn rn := fun W hW => hdn.step hW (by simp)
          by_cases hE : E = 40
          · subst hE
            have hb : rn.down = true := by rw [g2]; rfl
            rw [hb] at c11'
            have harm : 0 ≤ arm ∧ rn.done ≤ arm := by
              rcases g3 with ⟨_, _, h⟩ | ⟨h1, h2, h3, _⟩
              · rw [hb] at h; cases h
              · exact ⟨h1, by omega⟩
            obtain ⟨harm1, harm2⟩ := harm
            have G := Lib.hid (And.intro g3 hdn); clear g1 g2 g3 hb hdn hrel
            go_wp2_with (first | (go_at_call 19; refine (down_any w.heap.size true wn c11').mono ?_; rintro e w' ⟨rfl, rfl⟩) | (go_at_call 21; refine (done_any w.heap.size rn.done wn c10').mono ?_; rintro e w' ⟨rfl, rfl⟩))
            go_roundw
            case rel => exact ⟨k + 1, Vn, fpn, rn, by omega, by go_num, G.out.2, G.out.1, by omega, Tn, Fn⟩
            case measure => simp [intOf]; omega
          · have hb : rn.down = false := by rw [g2]; simp [hE]
            rw [hb] at c11'
            have hne : (E == 40) = false := by rw [beq_eq_false_iff_ne]; exact hE
            have harm : arm < 0 ∨ (0 ≤ arm ∧ rn.done ≤ arm) := by
              rcases g3 with ⟨h, _⟩ | ⟨h1, h2, h3, _⟩
              · exact .inl h
              · exact .inr ⟨h1, by omega⟩
            have G := Lib.hid (And.intro g3 hdn); clear g1 g2 g3 hb hE hdn hrel
            rcases harm with harm1 | ⟨harm1, harm2⟩
            all_goals
              go_wp2_with (first | (go_at_call 19; refine (down_any w.heap.size false wn c11').mono ?_; rintro e w' ⟨rfl, rfl⟩) | (go_at_call 21; refine (done_any w.heap.size rn.done wn c10').mono ?_; rintro e w' ⟨rfl, rfl⟩))
              go_roundw
              case rel => exact ⟨k + 1, Vn, fpn, rn, by omega, by go_num, G.out.2, G.out.1, by omega, Tn, Fn⟩
              case measure => simp [intOf]; omega
        · rw [hb0] at c11
          go_wp2_with fail
          refine (append_dkn w.heap.size fp V r o.file o.dA o.data.length o.dc o.data rfl _ hda hrda dl hdone x Hx.out).mono ?_
          obtain ⟨E, Vn, rn⟩ := x
          rintro e wn ⟨rfl, fpn, hdn, htn, hfn⟩
          have hgood : Good arm r E rn := good_app Hinv.out Hx.out
          clear c0 c1 c2 c3 c4 hda
          obtain ⟨g1, g2, g3, g4⟩ := hgood
          have c11' := hdn.cells.2.2.2
          have c10' := hdn.cells.2.2.1
          have Tn := Ta.trans htn (fun b hb => .inr (hf b hb))
          have Fn : ∀ b ∈ fpn, w.heap.size ≤ b := fun b hb => by
            rcases hfn b hb with h | h
            · exact hf b h
            · exact Nat.le_trans Ta.size h
          have hrel : ∀ W : World, Touch [] wn W → DkAt W w.heap.size fpn Vn rn := fun W hW => hdn.step hW (by simp)
          have hE : E = 40 := g1 hb0
          subst hE
          have hb : rn.down = true := by rw [g2]; rfl
          rw [hb] at c11'
          have harm : 0 ≤ arm ∧ rn.done ≤ arm := by
            rcases g3 with ⟨_, _, h⟩ | ⟨h1, h2, h3, _⟩
            · rw [hb] at h; cases h
            · exact ⟨h1, by omega⟩
          obtain ⟨harm1, harm2⟩ := harm
          have G := Lib.hid (And.intro g3 hdn); clear g1 g2 g3 hb hdn hrel
          go_wp2_with (first | (go_at_call 19; refine (down_any w.heap.size true wn c11').mono ?_; rintro e w' ⟨rfl, rfl⟩) | (go_at_call 21; refine (done_any w.heap.size rn.done wn c10').mono ?_; rintro e w' ⟨rfl, rfl⟩))
          go_roundw
          case rel => exact ⟨k + 1, Vn, fpn, rn, by omega, by go_num, G.out.2, G.out.1, by omega, Tn, Fn⟩
          case measure => simp [intOf]; omega
      have hn1 : (kd == 1) = false := by rw [beq_eq_false_iff_ne]; exact hk1
      by_cases hk2 : kd = 2
      · subst hk2
        clear hk1
        obtain ⟨x, hx⟩ : ∃ x, pSync V r o.file = x := ⟨_, rfl⟩
        have Hx := Lib.hid hx; clear hx

        go_wp2_with fail
        refine (down_any w.heap.size r.down _ c11).mono ?_
        rintro e w' ⟨rfl, rfl⟩
        cases hb0 : r.down
        · rw [hb0] at c11
          go_wp2_with fail
          refine (sync_dkx w.heap.size fp V r o.file _ hda hdone x Hx.out).mono ?_
          obtain ⟨E, Vn, rn⟩ := x
          rintro e wn ⟨rfl, fpn, hdn, htn, hfn⟩
          have hgood : Good arm r E rn := good_sync Hinv.out Hx.out
          clear c0 c1 c2 c3 c4 hda
          obtain ⟨g1, g2, g3, g4⟩ := hgood
          have c11' := hdn.cells.2.2.2
          have c10' := hdn.cells.2.2.1
          have Tn := Ta.trans htn (fun b hb => .inr (hf b hb))
          have Fn : ∀ b ∈ fpn, w.heap.size ≤ b := fun b hb => by
            rcases hfn b hb with h | h
            · exact hf b h
            · exact Nat.le_trans Ta.size h
          have hrel : ∀ W : World, Touch [] wn W → DkAt W w.heap.size fpn Vn rn := fun W hW => hdn.step hW (by simp)
          by_cases hE : E = 40
          · subst hE
            have hb : rn.down = true := by rw [g2]; rfl
            rw [hb] at c11'
            have harm : 0 ≤ arm ∧ rn.done ≤ arm := by
              rcases g3 with ⟨_, _, h⟩ | ⟨h1, h2, h3, _⟩
              · rw [hb] at h; cases h
              · exact ⟨h1, by omega⟩
            obtain ⟨harm1, harm2⟩ := harm
            have G := Lib.hid (And.intro g3 hdn); clear g1 g2 g3 hb hdn hrel
            go_wp2_with (first | (go_at_call 19; refine (down_any w.heap.size true wn c11').mono ?_; rintro e w' ⟨rfl, rfl⟩) | (go_at_call 21; refine (done_any w.heap.size rn.done wn c10').mono ?_; rintro e w' ⟨rfl, rfl⟩))
            go_roundw
            case rel => exact ⟨k + 1, Vn, fpn, rn, by omega, by go_num, G.out.2, G.out.1, by omega, Tn, Fn⟩
            case measure => simp [intOf]; omega
          · have hb : rn.down = false := by rw [g2]; simp [hE]
            rw [hb] at c11'
            have hne : (E == 40) = false := by rw [beq_eq_false_iff_ne]; exact hE
            have harm : arm < 0 ∨ (0 ≤ arm ∧ rn.done ≤ arm) := by
              rcases g3 with ⟨h, _⟩ | ⟨h1, h2, h3, _⟩
              · exact .inl h
              · exact .inr ⟨h1, by omega⟩
            have G := Lib.hid (And.intro g3 hdn); clear g1 g2 g3 hb hE hdn hrel
            rcases harm with harm1 | ⟨harm1, harm2⟩
            all_goals
              go_wp2_with (first | (go_at_call 19; refine (down_any w.heap.size false wn c11').mono ?_; rintro e w' ⟨rfl, rfl⟩) | (go_at_call 21; refine (done_any w.heap.size rn.done wn c10').mono ?_; rintro e w' ⟨rfl, rfl⟩))
              go_roundw
              case rel => exact ⟨k + 1, Vn, fpn, rn, by omega, by go_num, G.out.2, G.out.1, by omega, Tn, Fn⟩
              case measure => simp [intOf]; omega
        · rw [hb0] at c11
          go_wp2_with fail
          refine (sync_dkx w.heap.size fp V r o.file _ hda hdone x Hx.out).mono ?_
          obtain ⟨E, Vn, rn⟩ := x
          rintro e wn ⟨rfl, fpn, hdn, htn, hfn⟩
          have hgood : Good arm r E rn := good_sync Hinv.out Hx.out
          clear c0 c1 c2 c3 c4 hda
          obtain ⟨g1, g2, g3, g4⟩ := hgood
          have c11' := hdn.cells.2.2.2
          have c10' := hdn.cells.2.2.1
          have Tn := Ta.trans htn (fun b hb => .inr (hf b hb))
          have Fn : ∀ b ∈ fpn, w.heap.size ≤ b := fun b hb => by
            rcases hfn b hb with h | h
            · exact hf b h
            · exact Nat.le_trans Ta.size h
          have hrel : ∀ W : World, Touch [] wn W → DkAt W w.heap.size fpn Vn rn := fun W hW => hdn.step hW (by simp)
          have hE : E = 40 := g1 hb0
          subst hE
          have hb : rn.down = true := by rw [g2]; rfl
          rw [hb] at c11'
          have harm : 0 ≤ arm ∧ rn.done ≤ arm := by
            rcases g3 with ⟨_, _, h⟩ | ⟨h1, h2, h3, _⟩
            · rw [hb] at h; cases h
            · exact ⟨h1, by omega⟩
          obtain ⟨harm1, harm2⟩ := harm
          have G := Lib.hid (And.intro g3 hdn); clear g1 g2 g3 hb hdn hrel
          go_wp2_with (first | (go_at_call 19; refine (down_any w.heap.size true wn c11').mono ?_; rintro e w' ⟨rfl, rfl⟩) | (go_at_call 21; refine (done_any w.heap.size rn.done wn c10').mono ?_; rintro e w' ⟨rfl, rfl⟩))
          go_roundw
          case rel => exact ⟨k + 1, Vn, fpn, rn, by omega, by go_num, G.out.2, G.out.1, by omega, Tn, Fn⟩
          case measure => simp [intOf]; omega
      have hn2 : (kd == 2) = false := by rw [beq_eq_false_iff_ne]; exact hk2
      by_cases hk3 : kd = 3
      · subst hk3
        clear hk1 hk2
        obtain ⟨x, hx⟩ : ∃ x, pCut V r o.file o.n = x := ⟨_, rfl⟩
        have Hx := Lib.hid hx; clear hx

        go_wp2_with fail
        refine (down_any w.heap.size r.down _ c11).mono ?_
        rintro e w' ⟨rfl, rfl⟩
        cases hb0 : r.down
        · rw [hb0] at c11
          go_wp2_with fail
          refine (cut_dkx w.heap.size fp V r o.file o.n _ hda hdone x Hx.out).mono ?_
          obtain ⟨E, Vn, rn⟩ := x
          rintro e wn ⟨rfl, fpn, hdn, htn, hfn⟩
          have hgood : Good arm r E rn := good_cut Hinv.out Hx.out
          clear c0 c1 c2 c3 c4 hda
          obtain ⟨g1, g2, g3, g4⟩ := hgood
          have c11' := hdn.cells.2.2.2
          have c10' := hdn.cells.2.2.1
          have Tn := Ta.trans htn (fun b hb => .inr (hf b hb))
          have Fn : ∀ b ∈ fpn, w.heap.size ≤ b := fun b hb => by
            rcases hfn b hb with h | h
            · exact hf b h
            · exact Nat.le_trans Ta.size h
          have hrel : ∀ W : World, Touch [] wn W → DkAt W w.heap.size fpn Vn rn := fun W hW => hdn.step hW (by simp)
          by_cases hE : E = 40
          · subst hE
            have hb : rn.down = true := by rw [g2]; rfl
            rw [hb] at c11'
            have harm : 0 ≤ arm ∧ rn.done ≤ arm := by
              rcases g3 with ⟨_, _, h⟩ | ⟨h1, h2, h3, _⟩
              · rw [hb] at h; cases h
              · exact ⟨h1, by omega⟩
            obtain ⟨harm1, harm2⟩ := harm
            have G := Lib.hid (And.intro g3 hdn); clear g1 g2 g3 hb hdn hrel
            go_wp2_with (first | (go_at_call 19; refine (down_any w.heap.size true wn c11').mono ?_; rintro e w' ⟨rfl, rfl⟩) | (go_at_call 21; refine (done_any w.heap.size rn.done wn c10').mono ?_; rintro e w' ⟨rfl, rfl⟩))
            go_roundw
            case rel => exact ⟨k + 1, Vn, fpn, rn, by omega, by go_num, G.out.2, G.out.1, by omega, Tn, Fn⟩
            case measure => simp [intOf]; omega
          · have hb : rn.down = false := by rw [g2]; simp [hE]
            rw [hb] at c11'
            have hne : (E == 40) = false := by rw [beq_eq_false_iff_ne]; exact hE
            have harm : arm < 0 ∨ (0 ≤ arm ∧ rn.done ≤ arm) := by
              rcases g3 with ⟨h, _⟩ | ⟨h1, h2, h3, _⟩
              · exact .inl h
              · exact .inr ⟨h1, by omega⟩
            have G := Lib.hid (And.intro g3 hdn); clear g1 g2 g3 hb hE hdn hrel
            rcases harm with harm1 | ⟨harm1, harm2⟩
            all_goals
              go_wp2_with (first | (go_at_call 19; refine (down_any w.heap.size false wn c11').mono ?_; rintro e w' ⟨rfl, rfl⟩) | (go_at_call 21; refine (done_any w.heap.size rn.done wn c10').mono ?_; rintro e w' ⟨rfl, rfl⟩))
              go_roundw
              case rel => exact ⟨k + 1, Vn, fpn, rn, by omega, by go_num, G.out.2, G.out.1, by omega, Tn, Fn⟩
              case measure => simp [intOf]; omega
        · rw [hb0] at c11
          go_wp2_with fail
          refine (cut_dkx w.heap.size fp V r o.file o.n _ hda hdone x Hx.out).mono ?_
          obtain ⟨E, Vn, rn⟩ := x
          rintro e wn ⟨rfl, fpn, hdn, htn, hfn⟩
          have hgood : Good arm r E rn := good_cut Hinv.out Hx.out
          clear c0 c1 c2 c3 c4 hda
          obtain ⟨g1, g2, g3, g4⟩ := hgood
          have c11' := hdn.cells.2.2.2
          have c10' := hdn.cells.2.2.1
          have Tn := Ta.trans htn (fun b hb => .inr (hf b hb))
          have Fn : ∀ b ∈ fpn, w.heap.size ≤ b := fun b hb => by
            rcases hfn b hb with h | h
            · exact hf b h
            · exact Nat.le_trans Ta.size h
          have hrel : ∀ W : World, Touch [] wn W → DkAt W w.heap.size fpn Vn rn := fun W hW => hdn.step hW (by simp)
          have hE : E = 40 := g1 hb0
          subst hE
          have hb : rn.down = true := by rw [g2]; rfl
          rw [hb] at c11'
          have harm : 0 ≤ arm ∧ rn.done ≤ arm := by
            rcases g3 with ⟨_, _, h⟩ | ⟨h1, h2, h3, _⟩
            · rw [hb] at h; cases h
            · exact ⟨h1, by omega⟩
          obtain ⟨harm1, harm2⟩ := harm
          have G := Lib.hid (And.intro g3 hdn); clear g1 g2 g3 hb hdn hrel
          go_wp2_with (first | (go_at_call 19; refine (down_any w.heap.size true wn c11').mono ?_; rintro e w' ⟨rfl, rfl⟩) | (go_at_call 21; refine (done_any w.heap.size rn.done wn c10').mono ?_; rintro e w' ⟨rfl, rfl⟩))
          go_roundw
          case rel => exact ⟨k + 1, Vn, fpn, rn, by omega, by go_num, G.out.2, G.out.1, by omega, Tn, Fn⟩
          case measure => simp [intOf]; omega
      have hn3 : (kd == 3) = false := by rw [beq_eq_false_iff_ne]; exact hk3
      by_cases hk4 : kd = 4
      · subst hk4
        clear hk1 hk2 hk3

        go_wp2_with fail
        refine (down_any w.heap.size r.down _ c11).mono ?_
        rintro e w' ⟨rfl, rfl⟩
        cases hb0 : r.down
        · rw [hb0] at c11
          go_wp2_with fail
          refine (read_dk w.heap.size fp V r o.file _ hda).mono ?_
          rintro e wn ⟨A6, c6, l6, hl6, rfl, hown6, htn0, hf6⟩
          clear hl6 hown6 hf6
          have htn : Touch fp _ wn := htn0.mono (by simp)
          obtain ⟨Vn, hVn⟩ : ∃ Vn, Vn = V := ⟨_, rfl⟩
          obtain ⟨rn, hrn⟩ : ∃ rn, rn = r := ⟨_, rfl⟩
          obtain ⟨fpn, hfpn⟩ : ∃ fpn, fpn = fp := ⟨_, rfl⟩
          have hfn : ∀ b ∈ fpn, b ∈ fp ∨ (wr.alloc (.cells #[.int .i64 4, .int .i64 o.file, .int .i64 o.n, .slice o.dA o.data.length o.dc, .slice o.kA o.keep.length o.kc] 41)).heap.size ≤ b := by rw [hfpn]; exact fun b hb => .inl hb
          have hdn : DkAt wn w.heap.size fpn Vn rn := by rw [hVn, hrn, hfpn]; exact hda.step htn0 (by simp)
          have hgood0 := good_read (n := o.file) Hinv.out
          obtain ⟨E, hEe⟩ : ∃ E, E = checkI r.down o.file := ⟨_, rfl⟩
          rw [← hEe] at hgood0 ⊢
          clear hEe
          have hgood : Good arm r E rn := by rw [hrn]; exact hgood0
          clear hgood0 hVn hrn hfpn
          clear c0 c1 c2 c3 c4 hda
          obtain ⟨g1, g2, g3, g4⟩ := hgood
          have c11' := hdn.cells.2.2.2
          have c10' := hdn.cells.2.2.1
          have Tn := Ta.trans htn (fun b hb => .inr (hf b hb))
          have Fn : ∀ b ∈ fpn, w.heap.size ≤ b := fun b hb => by
            rcases hfn b hb with h | h
            · exact hf b h
            · exact Nat.le_trans Ta.size h
          have hrel : ∀ W : World, Touch [] wn W → DkAt W w.heap.size fpn Vn rn := fun W hW => hdn.step hW (by simp)
          by_cases hE : E = 40
          · subst hE
            have hb : rn.down = true := by rw [g2]; rfl
            rw [hb] at c11'
            have harm : 0 ≤ arm ∧ rn.done ≤ arm := by
              rcases g3 with ⟨_, _, h⟩ | ⟨h1, h2, h3, _⟩
              · rw [hb] at h; cases h
              · exact ⟨h1, by omega⟩
            obtain ⟨harm1, harm2⟩ := harm
            have G := Lib.hid (And.intro g3 hdn); clear g1 g2 g3 hb hdn hrel
            go_wp2_with (first | (go_at_call 19; refine (down_any w.heap.size true wn c11').mono ?_; rintro e w' ⟨rfl, rfl⟩) | (go_at_call 21; refine (done_any w.heap.size rn.done wn c10').mono ?_; rintro e w' ⟨rfl, rfl⟩))
            go_roundw
            case rel => exact ⟨k + 1, Vn, fpn, rn, by omega, by go_num, G.out.2, G.out.1, by omega, Tn, Fn⟩
            case measure => simp [intOf]; omega
          · have hb : rn.down = false := by rw [g2]; simp [hE]
            rw [hb] at c11'
            have hne : (E == 40) = false := by rw [beq_eq_false_iff_ne]; exact hE
            have harm : arm < 0 ∨ (0 ≤ arm ∧ rn.done ≤ arm) := by
              rcases g3 with ⟨h, _⟩ | ⟨h1, h2, h3, _⟩
              · exact .inl h
              · exact .inr ⟨h1, by omega⟩
            have G := Lib.hid (And.intro g3 hdn); clear g1 g2 g3 hb hE hdn hrel
            rcases harm with harm1 | ⟨harm1, harm2⟩
            all_goals
              go_wp2_with (first | (go_at_call 19; refine (down_any w.heap.size false wn c11').mono ?_; rintro e w' ⟨rfl, rfl⟩) | (go_at_call 21; refine (done_any w.heap.size rn.done wn c10').mono ?_; rintro e w' ⟨rfl, rfl⟩))
              go_roundw
              case rel => exact ⟨k + 1, Vn, fpn, rn, by omega, by go_num, G.out.2, G.out.1, by omega, Tn, Fn⟩
              case measure => simp [intOf]; omega
        · rw [hb0] at c11
          go_wp2_with fail
          refine (read_dk w.heap.size fp V r o.file _ hda).mono ?_
          rintro e wn ⟨A6, c6, l6, hl6, rfl, hown6, htn0, hf6⟩
          clear hl6 hown6 hf6
          have htn : Touch fp _ wn := htn0.mono (by simp)
          obtain ⟨Vn, hVn⟩ : ∃ Vn, Vn = V := ⟨_, rfl⟩
          obtain ⟨rn, hrn⟩ : ∃ rn, rn = r := ⟨_, rfl⟩
          obtain ⟨fpn, hfpn⟩ : ∃ fpn, fpn = fp := ⟨_, rfl⟩
          have hfn : ∀ b ∈ fpn, b ∈ fp ∨ (wr.alloc (.cells #[.int .i64 4, .int .i64 o.file, .int .i64 o.n, .slice o.dA o.data.length o.dc, .slice o.kA o.keep.length o.kc] 41)).heap.size ≤ b := by rw [hfpn]; exact fun b hb => .inl hb
          have hdn : DkAt wn w.heap.size fpn Vn rn := by rw [hVn, hrn, hfpn]; exact hda.step htn0 (by simp)
          have hgood0 := good_read (n := o.file) Hinv.out
          obtain ⟨E, hEe⟩ : ∃ E, E = checkI r.down o.file := ⟨_, rfl⟩
          rw [← hEe] at hgood0 ⊢
          clear hEe
          have hgood : Good arm r E rn := by rw [hrn]; exact hgood0
          clear hgood0 hVn hrn hfpn
          clear c0 c1 c2 c3 c4 hda
          obtain ⟨g1, g2, g3, g4⟩ := hgood
          have c11' := hdn.cells.2.2.2
          have c10' := hdn.cells.2.2.1
          have Tn := Ta.trans htn (fun b hb => .inr (hf b hb))
          have Fn : ∀ b ∈ fpn, w.heap.size ≤ b := fun b hb => by
            rcases hfn b hb with h | h
            · exact hf b h
            · exact Nat.le_trans Ta.size h
          have hrel : ∀ W : World, Touch [] wn W → DkAt W w.heap.size fpn Vn rn := fun W hW => hdn.step hW (by simp)
          have hE : E = 40 := g1 hb0
          subst hE
          have hb : rn.down = true := by rw [g2]; rfl
          rw [hb] at c11'
          have harm : 0 ≤ arm ∧ rn.done ≤ arm := by
            rcases g3 with ⟨_, _, h⟩ | ⟨h1, h2, h3, _⟩
            · rw [hb] at h; cases h
            · exact ⟨h1, by omega⟩
          obtain ⟨harm1, harm2⟩ := harm
          have G := Lib.hid (And.intro g3 hdn); clear g1 g2 g3 hb hdn hrel
          go_wp2_with (first | (go_at_call 19; refine (down_any w.heap.size true wn c11').mono ?_; rintro e w' ⟨rfl, rfl⟩) | (go_at_call 21; refine (done_any w.heap.size rn.done wn c10').mono ?_; rintro e w' ⟨rfl, rfl⟩))
          go_roundw
          case rel => exact ⟨k + 1, Vn, fpn, rn, by omega, by go_num, G.out.2, G.out.1, by omega, Tn, Fn⟩
          case measure => simp [intOf]; omega
      have hn4 : (kd == 4) = false := by rw [beq_eq_false_iff_ne]; exact hk4
      clear hk1 hk2 hk3 hk4
      go_wp2_with fail
      refine (down_any w.heap.size r.down _ c11).mono ?_
      rintro e w' ⟨rfl, rfl⟩
      go_wp2_with fail
      go_roundw
      case rel => exact ⟨k + 1, V, fp, r, by omega, by go_num, hda, Hinv.out, by omega, Ta, hf⟩
      case measure => simp [intOf]; omega
    · obtain rfl : k = l.length := by omega
      have c11 := hd.cells.2.2.2
      have c10 := hd.cells.2.2.1
      have hdone : r.done < 1073741824 := by omega
      have hcr : crashK [] V 4 = crashK [] V 4 := rfl
      have hrl : r.down = true → r.done = arm := fun h => by
        rcases hinv with ⟨_, _, h'⟩ | ⟨_, h2, h3, h4⟩
        · rw [h] at h'; cases h'
        · have := h4 h; omega
      have hV4 := hd.facts.1
      obtain ⟨V5, hV5⟩ : ∃ V5, V5 = crashK [] V 4 := ⟨_, rfl⟩
      have Hps := Lib.hid (show pSync V5 { r with left := -1, down := false } 0 = (0, V5.set 0 ((V5.getD 0 ([], 0)).1, (V5.getD 0 ([], 0)).1.length), { (⟨r.cap, -1, r.done, false⟩ : DR) with left := -1, done := r.done + 1 }) by
        unfold pSync
        rw [if_neg (by simp [checkI])]
        rfl)
      have Hrl := Lib.hid hrl; clear hrl hinv
      cases hb0 : r.down
      all_goals
        rw [hb0] at c11
        first | (have hda := Hrl.out hb0; rw [hda] at c10) | skip
        go_wp2_with (first | (go_at_call 19; refine (down_any w.heap.size _ wr c11).mono ?_; rintro e w' ⟨rfl, rfl⟩) | (go_at_call 21; refine (done_any w.heap.size _ wr c10).mono ?_; rintro e w' ⟨rfl, rfl⟩) | (go_at_call 13; refine stop ?_))
        refine go ?_
        refine (crash_dk w.heap.size fp V r none 0 [] wr hd (fun _ _ => Rd.nil _ _) (by simp)).mono ?_
        rintro e w5 ⟨rfl, fp5, hd5, ht5, hf5⟩
        rw [← hV5] at hd5
        have T5 := ht.trans ht5 (fun b hb => .inr (hf b hb))
        have F5 : ∀ b ∈ fp5, w.heap.size ≤ b := fun b hb => by
          rcases hf5 b hb with h | h
          · exact hf b h
          · exact Nat.le_trans ht.size h
        have c115 := hd5.cells.2.2.2
        go_wp2_with fail
        refine (down_any w.heap.size false w5 c115).mono ?_
        rintro e w' ⟨rfl, rfl⟩
        go_wp2_with fail
        refine (sync_dkx w.heap.size fp5 V5 _ 0 w5 hd5 (by exact hdone) _ Hps.out).mono ?_
        rintro e w6 ⟨rfl, fp6, hd6, ht6, hf6⟩
        have T6 := T5.trans ht6 (fun b hb => .inr (F5 b hb))
        go_wp2_with fail
        refine (awake6_any w6).mono ?_
        rintro e w7 ⟨rfl, ht7⟩
        go_wp2_with fail
        go_ret
        exact ⟨rfl, T6.trans0 ht7⟩
end Go.Proofs.Ytgpadejkmpfafaa
