/- bywashref02.Check: is a schema right, as the document says? For every schema. -/
import Derived.Test.YtngoiphknffplaaDoorSchCheck
namespace Go.Proofs.YtngoiphknffplaaDoor
open Go.RowKit

theorem refName_anyB (s : ByteArray) (hs : s.size ≤ 140737000000000) (w : World) :
    Calls Tryd.prog 21 #[.string s] w fun e w' => e = .returned (.bool (nameV s.data.toList)) ∧ w = w' := by
  have := refName_any s.data.toList (by rw [size_toList]; exact hs) w
  rwa [S_of] at this

set_option maxRecDepth 20000 in
set_option maxHeartbeats 1600000 in
theorem refCheck_any (A : Option Addr) (cap n : Nat) (cs : List CD) (hn : cs.length = n) (hok : ∀ c ∈ cs, c.Ok) (w : World) (h : ColsAt w A cs) (hl : n ≤ 140737000000000) :
    Calls Tryd.prog 12 #[.slice A n cap] w fun e w' => e = .returned (.int .i64 (checkV cs)) ∧ Touch [] w w' := by
  subst hn
  by_cases h0 : cs.length < 1 ∨ 16 < cs.length
  · have hc : checkV cs = 31 := by unfold checkV; rw [if_pos h0]
    have Hc := Lib.hid hc; clear hc
    rcases h0 with h0 | h0
    · go_enter Tryd.func12, Tryd.ntmps12
      go_wp2
      go_ret
      exact ⟨ret_int Hc.out.symm, Touch.refl _ _⟩
    · go_enter Tryd.func12, Tryd.ntmps12
      go_wp2
      go_ret
      exact ⟨ret_int Hc.out.symm, Touch.refl _ _⟩
  · have h1 : 1 ≤ cs.length := by omega
    have h16 : cs.length ≤ 16 := by omega
    have hc : checkV cs = chkL (cs.take 0) (cs.drop 0) := by unfold checkV; rw [if_neg h0]; rfl
    have Hc := Lib.hid hc; clear hc h0
    go_enter Tryd.func12, Tryd.ntmps12
    go_wp2
    go_loopw [3] (fun i wr => ∃ k : Nat, k ≤ cs.length ∧ i = .int .i64 k ∧ Hid (checkV cs = chkL (cs.take k) (cs.drop k)) ∧ Touch [] w wr) (fun i _ => cs.length - (intOf i).toNat)
    case atStart => exact ⟨0, by omega, rfl, Hc, Touch.refl _ _⟩
    case round =>
      clear Hc
      obtain ⟨k, hk, rfl, Hc, ht⟩ := hrel
      by_cases hlt : k < cs.length
      · obtain ⟨ad, b, off, rfl, hadd, c0, c1⟩ := (h.touch0 ht).at_ k hlt
        have hcok := hok _ (List.getElem_mem hlt)
        have hst := chk_step hlt
        obtain ⟨c, hce⟩ : ∃ c, c = cs[k] := ⟨_, rfl⟩
        rw [← hce] at c0 c1 hst hcok
        have Hst := Lib.hid (Hc.out.trans hst)
        have Hce := Lib.hid hce
        clear hst Hc hce
        obtain ⟨hcn, hct1, hct2⟩ := hcok
        have hname := refName_anyB c.name hcn wr
        rcases hnv : nameV c.name.data.toList with _ | _
        · rw [hnv] at hname
          have Hname := Lib.hid hname; clear hname
          have he : errC (cs.take k) c = 13 := by unfold errC; rw [if_pos hnv]
          have He := Lib.hid (show checkV cs = 13 by rw [Hst.out, he]; rfl); clear he hnv
          go_wp2_with (go_at_call 21; refine Hname.out.mono ?_; rintro e w1 ⟨rfl, rfl⟩)
          go_ret
          exact ⟨ret_int He.out.symm, ht⟩
        · rw [hnv] at hname
          have Hname := Lib.hid hname; clear hname
          by_cases hty : c.typ ≠ 1 ∧ c.typ ≠ 2
          · have he : errC (cs.take k) c = 12 := by unfold errC; rw [if_neg (by rw [hnv]; simp), if_pos hty]
            have He := Lib.hid (show checkV cs = 12 by rw [Hst.out, he]; rfl); clear he hnv
            obtain ⟨q1, q2⟩ := hty
            have q1b : (c.typ == 1) = false := by rw [beq_eq_false_iff_ne]; exact q1
            have q2b : (c.typ == 2) = false := by rw [beq_eq_false_iff_ne]; exact q2
            have q1n : (c.typ != 1) = true := by rw [bne, q1b]; rfl
            have q2n : (c.typ != 2) = true := by rw [bne, q2b]; rfl
            go_wp2_with (go_at_call 21; refine Hname.out.mono ?_; rintro e w1 ⟨rfl, rfl⟩)
            go_ret
            exact ⟨ret_int He.out.symm, ht⟩
          · have hty2 : c.typ = 1 ∨ c.typ = 2 := by omega
            have Htyn := Lib.hid hty
            have Hnv := Lib.hid hnv
            clear hty hnv
            have c1' := c1
            rcases hty2 with q | q
            all_goals
              rw [q] at c1
              clear q c1'
              go_wp2_with (go_at_call 21; refine Hname.out.mono ?_; rintro e w1 ⟨rfl, rfl⟩)
              obtain ⟨wo, hwo⟩ : ∃ wo : World, wo = wr := ⟨_, rfl⟩
              clear Hname
              go_loopw [4] (fun i wr2 => ∃ j : Nat, j ≤ k ∧ i = .int .i64 j ∧ (∀ m (hm : m < j), cs[m]?.map (·.name) ≠ some c.name) ∧ Touch [] w wr2) (fun i _ => k - (intOf i).toNat)
              case atStart => exact ⟨0, by omega, rfl, fun m hm => absurd hm (by omega), ht⟩
              case round =>
                obtain ⟨j, hj, rfl, hno, ht2⟩ := hrel
                by_cases hjk : j < k
                · obtain ⟨ad2, b2, off2, e2, hadd2, e0, _⟩ := (h.touch0 ht2).at_ j (by omega)
                  obtain rfl : ad = ad2 := by injection e2
                  obtain ⟨ad3, b3, off3, e3, hadd3, f0, _⟩ := (h.touch0 ht2).at_ k hlt
                  obtain rfl : ad = ad3 := by injection e3
                  rw [hadd] at hadd3
                  cases hadd3
                  rw [← Hce.out] at f0
                  obtain ⟨d, hde⟩ : ∃ d, d = cs[j] := ⟨_, rfl⟩
                  rw [← hde] at e0
                  have Hde := Lib.hid hde
                  have hjkI : (j : Int) < (k : Int) := by omega
                  have hj0I : (0 : Int) ≤ (j : Int) := by omega
                  have hk0I : (0 : Int) ≤ (k : Int) := by omega
                  have hjlI : (j : Int) < (cs.length : Int) := by omega
                  have hklI : (k : Int) < (cs.length : Int) := by omega
                  have hno' := Lib.hid hno
                  clear hde e2 e3 hno c0 c1
                  have hbq := bs_beq d.name c.name
                  by_cases hdc : d.name = c.name
                  · have hany : ((cs.take k).any fun d => decide (d.name = c.name)) = true := List.any_eq_true.2 ⟨d, by
                      rw [List.mem_iff_getElem?]; exact ⟨j, by rw [List.getElem?_take, if_pos hjk, Hde.out]; exact List.getElem?_eq_getElem _⟩, by simpa using hdc⟩
                    have he : errC (cs.take k) c = 14 := by unfold errC; rw [if_neg (by rw [Hnv.out]; simp), if_neg Htyn.out, if_pos hany]
                    have He := Lib.hid (show checkV cs = 14 by rw [Hst.out, he]; rfl)
                    rw [decide_eq_true hdc] at hbq
                    clear he hany hdc
                    go_wp2
                    go_quiet (fail)
                    go_wp2
                    go_ret
                    exact ⟨ret_int He.out.symm, ht2.drewN _⟩
                  · rw [decide_eq_false hdc] at hbq
                    have Hdc := Lib.hid hdc
                    clear hdc
                    go_wp2
                    go_quiet (fail)
                    go_wp2
                    go_roundw
                    case rel => exact ⟨j + 1, by omega, by go_num, fun m hm => by
                      by_cases hmj : m < j
                      · exact hno'.out m hmj
                      · obtain rfl : m = j := by omega
                        rw [List.getElem?_eq_getElem (by omega), ← Hde.out]
                        simpa using Hdc.out, ht2.drewN _⟩
                    case measure => simp [intOf]; omega
                · obtain rfl : j = k := by omega
                  have hany : ¬ ((cs.take j).any fun d => decide (d.name = c.name)) = true := fun ha => by
                    obtain ⟨d, hd, hde⟩ := List.any_eq_true.1 ha
                    obtain ⟨m, hm⟩ := List.mem_iff_getElem?.1 hd
                    rw [List.getElem?_take] at hm
                    split at hm
                    · rename_i hmj
                      exact hno m hmj (by rw [hm]; simpa using hde)
                    · cases hm
                  have he : errC (cs.take j) c = 0 := by unfold errC; rw [if_neg (by rw [Hnv.out]; simp), if_neg Htyn.out, if_neg hany]
                  have He := Lib.hid (show checkV cs = chkL (cs.take (j + 1)) (cs.drop (j + 1)) by rw [Hst.out, he]; rfl)
                  clear he hany hno hwo
                  go_wp2
                  go_roundw
                  case rel => exact ⟨j + 1, by omega, by go_num, He, ht2⟩
                  case measure => simp [intOf]; omega
      · obtain rfl : k = cs.length := by omega
        have He := Lib.hid (show checkV cs = 0 by rw [Hc.out, List.drop_length]; rfl)
        go_wp2
        go_ret
        exact ⟨ret_int He.out.symm, ht⟩
end Go.Proofs.YtngoiphknffplaaDoor
