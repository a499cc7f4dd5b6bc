/- bywashlaw16.GraphReach: the law, for every input. -/
import Derived.Test.YtmehdlflhllhdaaGrReach
namespace Go.Proofs.Ytmehdlflhllhdaa
open Go.RowKit

set_option maxRecDepth 20000 in
set_option maxHeartbeats 1600000 in
theorem reach_law (n : Int) (A : Option Addr) (c : Nat) (ls : List (List Int)) (AL : Option Addr) (cL : Nat) (L : List Int) (w : World) (hl : ls.length ≤ maxLen) (h : InR w A ls) (hb : ∀ l ∈ ls, l.length ≤ maxLen) (hrL : RdI w AL L) (hL : L.length ≤ maxLen) :
    Calls Try.prog 5 #[.agg (caC n A ls.length c AL L.length cL)] w fun e w' => e = .returned (.bool true) ∧ Touch [] w w' := by
  have hs := fun W (t : Touch [] w W) => small_any n A c ls.length ls rfl hl W (h.touch0 t) hb
  have T0 := (Touch.refl [] w).alloc (.cells (caC n A ls.length c AL L.length cL) 40)
  have hZ := heap_alloc_new w (.cells (caC n A ls.length c AL L.length cL) 40)
  have z0 := cell_blk hZ (i := 0) rfl
  have z1 := cell_blk hZ (i := 1) rfl
  have z2 := cell_blk hZ (i := 2) rfl
  unfold maxLen at hL
  rcases hsm : smallB n ls with _ | _
  · rw [hsm] at hs
    have HS := Lib.hid (hs _ T0)
    have HT0 := Lib.hid T0
    clear hs hsm hZ T0
    go_enter Try.func5, Try.ntmps5
    go_wp2_with fail
    refine HS.out.mono ?_
    rintro e w1 ⟨rfl, hw1⟩
    rw [hw1]
    clear hw1 HS
    go_wp2_with fail
    refine (awake_any _).mono ?_
    rintro e w2 ⟨rfl, t2⟩
    go_wp2
    go_ret
    exact ⟨rfl, HT0.out.trans0 t2⟩
  · rw [hsm] at hs
    obtain ⟨h40, hn24, hl40⟩ := smallB_iff.1 hsm
    have hwr := wrong_any n A c ls.length ls rfl (by omega) _ (h.touch0 T0) (fun l hl => by have := h40 l hl; omega)
    by_cases hw0 : wrongV n ls = 0
    · by_cases h4 : L.length ≤ 40
      · obtain ⟨N, rfl, hN, hlN, ha, hr⟩ := wrongV_zero hw0
        exact reach_ok N (by omega) A c ls.length ls rfl hlN AL cL L.length L rfl h4 w h hrL h40 ha hr hs
      · rw [hw0] at hwr
        have h4' : 40 < L.length := by omega
        have HS := Lib.hid (hs _ T0)
        have HW := Lib.hid hwr
        have HT0 := Lib.hid T0
        have HZ := Lib.hid hZ
        clear hs hwr hsm hw0 hZ T0
        go_enter Try.func5, Try.ntmps5
        go_wp2_with fail
        refine HS.out.mono ?_
        rintro e w1 ⟨rfl, hw1⟩
        rw [hw1]
        clear hw1 HS
        go_wp2_with fail
        refine HW.out.mono ?_
        rintro e w2 ⟨rfl, t2⟩
        have y2 := t2.cell z2 (by simp)
        have Ht2 := Lib.hid t2
        clear t2 HW z0 z1 z2
        go_wp2_with fail
        refine (awake_any _).mono ?_
        rintro e w3 ⟨rfl, t3⟩
        go_wp2
        go_ret
        exact ⟨rfl, (HT0.out.trans0 Ht2.out).trans0 t3⟩
    · obtain ⟨v, hv⟩ : ∃ v, v = wrongV n ls := ⟨_, rfl⟩
      rw [← hv] at hwr hw0
      have hv0 : (v != 0) = true := by simpa using hw0
      have HS := Lib.hid (hs _ T0)
      have HW := Lib.hid hwr
      have HT0 := Lib.hid T0
      clear hs hwr hsm hv hw0 hZ T0
      go_enter Try.func5, Try.ntmps5
      go_wp2_with fail
      refine HS.out.mono ?_
      rintro e w1 ⟨rfl, hw1⟩
      rw [hw1]
      clear hw1 HS
      go_wp2_with fail
      refine HW.out.mono ?_
      rintro e w2 ⟨rfl, t2⟩
      have Ht2 := Lib.hid t2
      clear t2 HW z0 z1 z2
      go_wp2_with fail
      refine (awake_any _).mono ?_
      rintro e w3 ⟨rfl, t3⟩
      go_wp2
      go_ret
      exact ⟨rfl, (HT0.out.trans0 Ht2.out).trans0 t3⟩
end Go.Proofs.Ytmehdlflhllhdaa
