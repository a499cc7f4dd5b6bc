/- bywashlaw10.CronParts: the walk of the law. For every spec and every stretch. -/
import Derived.Test.YtoabloeechphkaaDoorCronAwake
import Derived.Test.YtoabloeechphkaaDoorCronBet
namespace Go.Proofs.YtoabloeechphkaaDoor
open Go.RowKit

def strV (x y z : Int) : Value := .agg #[.int .i64 x, .int .i64 y, .int .i64 z]

set_option maxRecDepth 100000 in
set_option maxHeartbeats 12800000 in
theorem parts_law (c : SD) (hc : c.Ok) (x y z : Int) (hx : -9223372036854775808 ≤ x ∧ x ≤ 9223372036854775807) (hy : -9223372036854775808 ≤ y ∧ y ≤ 9223372036854775807) (w : World) (hG : Gc w) :
    Calls Tryd.prog 7 #[c.val, .agg #[.int .i64 x, .int .i64 y, .int .i64 z]] w fun e w' => e = .returned (.bool true) ∧ Touch [] w w' := by
  have t0 := ((Touch.refl [] w).alloc (.cells c.row 27)).alloc (.cells #[.int .i64 x, .int .i64 y, .int .i64 z] 51)
  have hS := (specAt_new w c).touch0 ((Touch.refl [] _).alloc (.cells #[.int .i64 x, .int .i64 y, .int .i64 z] 51))
  have hZ := heap_alloc_new (w.alloc (.cells c.row 27)) (.cells #[.int .i64 x, .int .i64 y, .int .i64 z] 51)
  rw [World.size_alloc] at hZ
  have hAw := fun w' h => awake10_any w' h
  have HG := Lib.hid hG
  obtain ⟨W0, hW0⟩ : ∃ W0, W0 = (w.alloc (.cells c.row 27)).alloc (.cells #[.int .i64 x, .int .i64 y, .int .i64 z] 51) := ⟨_, rfl⟩
  rw [← hW0] at t0 hS hZ
  have HW := hW0
  unfold SD.row at HW
  have HW0 := Lib.hid HW
  have hB1 := fun w' (h : Gc w') => between_any c hc x z hx w' h
  have hB2 := fun w' (h : Gc w') => between_any c hc x y hx w' h
  have hB3 := fun w' (h : Gc w') => between_any c hc y z hy w' h
  unfold SD.val SD.row at hB1 hB2 hB3 ⊢
  have HS := Lib.hid hS; have HZ := Lib.hid hZ; have HAw := Lib.hid hAw
  have HB1 := Lib.hid hB1; have HB2 := Lib.hid hB2; have HB3 := Lib.hid hB3
  have hcells := fun (w' : World) (t : Touch [] W0 w') => And.intro (hS.touch0 t) (And.intro (cell_blk (i := 0) (t.blk hZ (by simp)) rfl) (And.intro (cell_blk (i := 1) (t.blk hZ (by simp)) rfl) (cell_blk (i := 2) (t.blk hZ (by simp)) rfl)))
  have HC := Lib.hid hcells
  clear hS hZ hAw hG hW0 HW hB1 hB2 hB3 hcells
  go_enter Tryd.func7, Tryd.ntmps7
  obtain ⟨⟨s0, s1, s2, s3, s4, a0, a1, a2, a3, a4⟩, z0, z1, z2⟩ := HC.out W0 (Touch.refl _ _)
  go_wp2_with (with_reducible rw [← HW0.out])
  refine (HB1.out W0 (HG.out.touch0 t0)).mono ?_
  rintro e w1 ⟨hp1, t1⟩
  clear s0 s1 s2 s3 s4 a0 a1 a2 a3 a4 z0 z1 z2
  obtain ⟨⟨s0, s1, s2, s3, s4, a0, a1, a2, a3, a4⟩, z0, z1, z2⟩ := HC.out w1 t1
  have T1 := t0.trans0 t1
  rcases hp1 with ⟨lo, hi, A, cap, hr, rfl, rfl, hlh, hhi, hlen, rfl, hown, hA⟩ | ⟨rfl, -⟩
  · obtain ⟨L, hL⟩ : ∃ L, L = bet c lo (hi + 1) := ⟨_, rfl⟩
    rw [← hL] at hown hlen ⊢
    have Hown := Lib.hid hown; have HL := Lib.hid hL; have HA := Lib.hid hA
    obtain ⟨n, hn⟩ : ∃ n, n = L.length := ⟨_, rfl⟩
    rw [← hn] at hlen ⊢
    have Hn := Lib.hid hn
    clear hown hL hn hr hlh hA
    go_wp2_with fail
    refine (HB2.out w1 (HG.out.touch0 T1)).mono ?_
    rintro e w2 ⟨hp2, t2⟩
    clear s0 s1 s2 s3 s4 a0 a1 a2 a3 a4 z0 z1 z2
    obtain ⟨⟨s0, s1, s2, s3, s4, a0, a1, a2, a3, a4⟩, z0, z1, z2⟩ := HC.out w2 (t1.trans0 t2)
    have T2 := T1.trans0 t2
    rcases hp2 with ⟨lo2, mid, A2, cap2, hr2, hxe, rfl, hlh2, hhi2, hlen2, rfl, hown2, hA2⟩ | ⟨rfl, -⟩
    · obtain rfl : lo2 = lo := by omega
      obtain ⟨L2, hL2⟩ : ∃ L, L = bet c lo2 (mid + 1) := ⟨_, rfl⟩
      rw [← hL2] at hown2 hlen2 ⊢
      have Hown2 := Lib.hid hown2; have HL2 := Lib.hid hL2; have HA2 := Lib.hid hA2
      obtain ⟨n2, hn2⟩ : ∃ n, n = L2.length := ⟨_, rfl⟩
      rw [← hn2] at hlen2 ⊢
      have Hn2 := Lib.hid hn2
      clear hown2 hL2 hn2 hr2 hxe hA2
      go_wp2_with fail
      refine (HB3.out w2 (HG.out.touch0 T2)).mono ?_
      rintro e w3 ⟨hp3, t3⟩
      have T3 := T2.trans0 t3
      clear s0 s1 s2 s3 s4 a0 a1 a2 a3 a4 z0 z1 z2
      rcases hp3 with ⟨lo3, hi3, A3, cap3, hr3, hxe3, hhe, hlh3, hhi3, hlen3, rfl, hown3, hA3⟩ | ⟨rfl, -⟩
      · obtain rfl : lo3 = mid + 1 := by omega
        obtain rfl : hi3 = hi := by omega
        obtain ⟨L3, hL3⟩ : ∃ L, L = bet c (mid + 1) (hi3 + 1) := ⟨_, rfl⟩
        rw [← hL3] at hown3 hlen3 ⊢
        have hcut : L = L2 ++ L3 := by rw [HL.out, HL2.out, hL3]; exact bet_parts c lo2 (mid + 1) (hi3 + 1) (by omega) (by omega)
        have Hown3 := Lib.hid hown3; have Hcut := Lib.hid hcut
        obtain ⟨n3, hn3⟩ : ∃ n, n = L3.length := ⟨_, rfl⟩
        rw [← hn3] at hlen3 ⊢
        have Hn3 := Lib.hid hn3
        have hnn : n = n2 + n3 := by rw [Hn.out, hcut, List.length_append, Hn2.out, hn3]
        clear hown3 hL3 hn3 hr3 hxe3 hhe hA3 hcut
        have Hrd := Lib.hid ((Hown.out.touch0 t2).touch0 t3).rd
        have Hnd : Hid (∀ b ∈ fpo A, b ∉ fpo A2) := Lib.hid (fun b hb hb2 => by
          have h1 := HA2.out b hb2
          have h2 := Hown.out.lt b hb
          omega)
        subst hnn
        have Ho2 := Lib.hid (Hown2.out.touch0 t3)
        go_wp2_with (at_builtin; refine wpList_appK rfl (.tmp 59) (.tmp 60) 46 rfl 3 (.int .i64 0) 1 8 info_intN Tryd.underlying46 rfl (by omega) encN_len encN_one A2 n2 cap2 L2 Hn2.out.symm rfl Ho2.out A3 n3 cap3 L3 Hn3.out.symm rfl Hown3.out.rd (by omega) (by omega) ?_; refine stop ?_)
        refine go ?_
        intro A4 c4 w4 hown4 ht4 hf4
        rw [← Hcut.out] at hown4
        have T4 := T3.trans ht4 (fun b hb => .inr (by
          have h1 := HA2.out b hb
          have h2 := T1.size; omega))
        have Hr1 := Lib.hid (Hrd.out.touch ht4 Hnd.out)
        have Hr2 := Lib.hid hown4.rd
        clear hown4
        go_wp2_with fail
        have Hll : Hid (L.length = n2 + n3) := Lib.hid Hn.out.symm
        go_loop [63] (fun i => ∃ k : Nat, k ≤ n2 + n3 ∧ i = .int .i64 k) (fun i => n2 + n3 - (intOf i).toNat)
        case atStart => exact ⟨0, by omega, rfl⟩
        case round =>
          obtain ⟨k, hk, rfl⟩ := hrel
          by_cases hlt : k < n2 + n3
          · obtain ⟨ad, bb, off, hAe, had, -, hcell⟩ := Hr1.out.at_ 1 encN_len (by omega) k (by rw [Hll.out]; exact hlt)
            obtain ⟨ad4, bb4, off4, hAe4, had4, -, hcell4⟩ := Hr2.out.at_ 1 encN_len (by omega) k (by rw [Hll.out]; exact hlt)
            have hcell := hcell 0 (.int .i64 (L[k]'(by rw [Hll.out]; exact hlt) : Nat)) rfl
            have hcell4 := hcell4 0 (.int .i64 (L[k]'(by rw [Hll.out]; exact hlt) : Nat)) rfl
            obtain ⟨q, hq⟩ : ∃ q, q = L[k]'(by rw [Hll.out]; exact hlt) := ⟨_, rfl⟩
            rw [← hq] at hcell hcell4
            rw [Nat.mul_one] at had had4
            rw [Nat.add_zero] at hcell hcell4
            clear hq
            subst hAe hAe4
            have k0 : (0 : Int) ≤ (k : Int) := by omega
            have k1 : (k : Int) < (n2 : Int) + n3 := by omega
            go_wp2_with fail
            go_round
            case rel => exact ⟨k + 1, by omega, by go_num⟩
            case measure => simp [intOf]; omega
          · obtain rfl : k = n2 + n3 := by omega
            go_wp2_with fail
            refine (HAw.out _ (HG.out.touch0 T4)).mono ?_
            rintro e w9 ⟨rfl, t9⟩
            go_wp2_with fail
            go_ret
            exact ⟨rfl, T4.trans0 t9⟩
      · go_wp2_with fail
        refine (HAw.out _ (HG.out.touch0 T3)).mono ?_
        rintro e w9 ⟨rfl, t9⟩
        go_wp2_with fail
        go_ret
        exact ⟨rfl, T3.trans0 t9⟩
    · go_wp2_with fail
      refine (HB3.out w2 (HG.out.touch0 T2)).mono ?_
      rintro e w3 ⟨hp3, t3⟩
      have T3 := T2.trans0 t3
      clear s0 s1 s2 s3 s4 a0 a1 a2 a3 a4 z0 z1 z2
      rcases hp3 with ⟨lo3, hi3, A3, cap3, hr3, hxe3, hhe, hlh3, hhi3, hlen3, rfl, hown3, hA3⟩ | ⟨rfl, -⟩
      all_goals
        try clear hr3 hxe3 hhe
        go_wp2_with fail
        refine (HAw.out _ (HG.out.touch0 T3)).mono ?_
        rintro e w9 ⟨rfl, t9⟩
        go_wp2_with fail
        go_ret
        exact ⟨rfl, T3.trans0 t9⟩
  · go_wp2_with fail
    refine (HB2.out w1 (HG.out.touch0 T1)).mono ?_
    rintro e w2 ⟨hp2, t2⟩
    clear s0 s1 s2 s3 s4 a0 a1 a2 a3 a4 z0 z1 z2
    obtain ⟨⟨s0, s1, s2, s3, s4, a0, a1, a2, a3, a4⟩, z0, z1, z2⟩ := HC.out w2 (t1.trans0 t2)
    have T2 := T1.trans0 t2
    rcases hp2 with ⟨lo2, mid, A2, cap2, hr2, hxe, hze, hlh2, hhi2, hlen2, rfl, hown2, hA2⟩ | ⟨rfl, -⟩
    all_goals
      try clear hr2 hxe hze hlen2
      go_wp2_with fail
      refine (HB3.out w2 (HG.out.touch0 T2)).mono ?_
      rintro e w3 ⟨hp3, t3⟩
      have T3 := T2.trans0 t3
      clear s0 s1 s2 s3 s4 a0 a1 a2 a3 a4 z0 z1 z2
      rcases hp3 with ⟨lo3, hi3, A3, cap3, hr3, hxe3, hhe, hlh3, hhi3, hlen3, rfl, hown3, hA3⟩ | ⟨rfl, -⟩
      all_goals
        try clear hr3 hxe3 hhe
        go_wp2_with fail
        refine (HAw.out _ (HG.out.touch0 T3)).mono ?_
        rintro e w9 ⟨rfl, t9⟩
        go_wp2_with fail
        go_ret
        exact ⟨rfl, T3.trans0 t9⟩
end Go.Proofs.YtoabloeechphkaaDoor
