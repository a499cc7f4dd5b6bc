/- bywashlaw02.SchemaParses: the walk of the law. For every text. -/
import Derived.Test.YtngoiphknffplaaDoorSchAwake
namespace Go.Proofs.YtngoiphknffplaaDoor
open Go.RowKit

set_option maxRecDepth 20000 in
set_option maxHeartbeats 3200000 in
theorem parses_law (t : List UInt8) (ht : t.length ≤ 9223372036854775807) (w : World) (hG : Gs w) :
    Calls Tryd.prog 3 #[.string (S t)] w fun e w' => e = .returned (.bool true) ∧ Touch [] w w' := by
  have hsz := S_size t
  have haw := fun w' (h : Touch [] w w') => awake2_any w' (hG.touch0 h)
  have Haw := Lib.hid haw
  clear haw
  by_cases h500 : 500 < t.length
  · go_enter Tryd.func3, Tryd.ntmps3
    go_wp2_with fail
    refine (Haw.out _ (Touch.refl _ _)).mono ?_
    rintro e w1 ⟨rfl, t1⟩
    go_wp2
    go_ret
    exact ⟨rfl, t1⟩
  have hp := parse_any t (by omega) w hG
  by_cases hc : t = [] ∨ showV (colsV t) ≠ t
  · have hp2 : Calls Tryd.prog 11 #[.string (S t)] w fun e w' => e = .returned (.tuple #[.slice none 0 0, .int .i64 20]) ∧ Touch [] w w' := hp.mono fun e w' h => by unfold ParsePost at h; rwa [if_pos hc] at h
    have Hp := Lib.hid hp2
    clear hp hp2 hc
    go_enter Tryd.func3, Tryd.ntmps3
    go_wp2_with fail
    refine Hp.out.mono ?_
    rintro e w1 ⟨rfl, t1⟩
    go_wp2_with fail
    refine (Haw.out _ t1).mono ?_
    rintro e w2 ⟨rfl, t2⟩
    go_wp2
    go_ret
    exact ⟨rfl, t1.trans0 t2⟩
  · have h0 : t ≠ [] := fun e => hc (.inl e)
    have hsh : showV (colsV t) = t := Decidable.byContradiction fun e => hc (.inr e)
    have hchk : checkV (colsV t) = 0 := Decidable.byContradiction fun e => by
      unfold showV at hsh
      rw [if_neg e] at hsh
      exact h0 hsh.symm
    have htx : textV (colsV t) = t := by unfold showV at hsh; rwa [if_pos hchk] at hsh
    obtain ⟨z1, z16, z2⟩ := check_zero hchk
    obtain ⟨cs, hcs⟩ : ∃ cs, cs = colsV t := ⟨_, rfl⟩
    have hp2 : Calls Tryd.prog 11 #[.string (S t)] w fun e w' => ∃ A c, e = .returned (.tuple #[.slice A cs.length c, .int .i64 0]) ∧ Made 38 2 cdE cs A c w w' := hp.mono fun e w' h => by
      unfold ParsePost at h; rw [if_neg hc] at h; rw [hcs]; exact h
    rw [← hcs] at hchk htx z1 z16 z2
    have hok : ∀ c ∈ cs, c.Ok := fun c hcm => by
      obtain ⟨j, hj, rfl⟩ := List.mem_iff_getElem.1 hcm
      obtain ⟨q1, q2⟩ := z2 j hj
      have q3 := nameV_length q1
      rw [size_toList] at q3
      exact ⟨by omega, by omega⟩
    have Hp := Lib.hid hp2; have Hchk := Lib.hid hchk; have Htx := Lib.hid htx
    have hb : ((S t).toList == (S t).toList) = true := by rw [S_beq]; simp
    clear hp hp2 hc hsh hcs h0 htx hchk z2
    go_enter Tryd.func3, Tryd.ntmps3
    go_wp2_with fail
    refine Hp.out.mono ?_
    rintro e w1 ⟨A1, c1, rfl, hm1⟩
    go_wp2_with fail
    refine (ref_any A1 c1 cs.length cs rfl w1 hm1.own.rd (by omega)).mono ?_
    rintro e w2 ⟨A2, c2, rfl, hm2⟩
    go_wp2_with fail
    refine (refCheck_any A2 c2 cs.length cs rfl hok w2 hm2.own.rd (by omega)).mono ?_
    rw [Hchk.out]
    rintro e w3 ⟨rfl, t3⟩
    have T3 := (hm1.t.trans0 hm2.t).trans0 t3
    go_wp2_with fail
    refine (ref_any A1 c1 cs.length cs rfl w3 (RdK.touch0 hm1.own.rd (hm2.t.trans0 t3)) (by omega)).mono ?_
    rintro e w4 ⟨A4, c4, rfl, hm4⟩
    go_wp2_with fail
    refine (refShow_any A4 c4 cs.length cs rfl Hchk.out w4 hm4.own.rd).mono ?_
    rw [Htx.out]
    rintro e w5 ⟨rfl, rfl⟩
    go_wp2_with fail
    refine (Haw.out _ (T3.trans0 hm4.t)).mono ?_
    rintro e w6 ⟨rfl, t6⟩
    go_wp2
    go_ret
    exact ⟨rfl, (T3.trans0 hm4.t).trans0 t6⟩
end Go.Proofs.YtngoiphknffplaaDoor
