/- bywashlaw16.GraphOwn: the law, for every input. -/
import Derived.Test.YtmehdlflhllhdaaGrOwn
namespace Go.Proofs.Ytmehdlflhllhdaa
open Go.RowKit

set_option maxRecDepth 20000 in
set_option maxHeartbeats 1600000 in
theorem own_law (n : Int) (A : Option Addr) (c : Nat) (ls : List (List Int)) (w : World) (hl : ls.length ≤ maxLen) (h : InR w A ls) (hb : ∀ l ∈ ls, l.length ≤ maxLen) :
    Calls Try.prog 6 #[.int .i64 n, .slice A ls.length c] w fun e w' => e = .returned (.bool true) ∧ Touch [] w w' := by
  have hs := small_any n A c ls.length ls rfl hl w h hb
  rcases hsm : smallB n ls with _ | _
  · rw [hsm] at hs
    have HS := Lib.hid hs
    clear hs hsm
    go_enter Try.func6, Try.ntmps6
    go_wp2_with fail
    refine HS.out.mono ?_
    rintro e w1 ⟨rfl, hw1⟩
    rw [hw1]
    clear hw1 HS
    go_wp2_with fail
    refine (awake_any _).mono ?_
    rintro e w2 ⟨rfl, t2⟩
    go_wp2
    go_ret
    exact ⟨rfl, t2⟩
  · rw [hsm] at hs
    obtain ⟨h40, hn24, hl40⟩ := smallB_iff.1 hsm
    have hwr := wrong_any n A c ls.length ls rfl (by omega) w h (fun l hl => by have := h40 l hl; omega)
    by_cases hw0 : wrongV n ls = 0
    · obtain ⟨N, rfl, hN, hlN, ha, hr⟩ := wrongV_zero hw0
      exact own_ok N (by omega) A c ls.length ls rfl hlN w h h40 ha hr hs
    · obtain ⟨v, hv⟩ : ∃ v, v = wrongV n ls := ⟨_, rfl⟩
      rw [← hv] at hwr hw0
      have hv0 : (v != 0) = true := by simpa using hw0
      have HS := Lib.hid hs
      have HW := Lib.hid hwr
      clear hs hwr hsm hv hw0
      go_enter Try.func6, Try.ntmps6
      go_wp2_with fail
      refine HS.out.mono ?_
      rintro e w1 ⟨rfl, hw1⟩
      rw [hw1]
      clear hw1 HS
      go_wp2_with fail
      refine HW.out.mono ?_
      rintro e w2 ⟨rfl, t2⟩
      have Ht2 := Lib.hid t2
      clear t2 HW
      go_wp2_with fail
      refine (awake_any _).mono ?_
      rintro e w3 ⟨rfl, t3⟩
      go_wp2
      go_ret
      exact ⟨rfl, Ht2.out.trans0 t3⟩
end Go.Proofs.Ytmehdlflhllhdaa
