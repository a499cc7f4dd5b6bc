/- bywashlaw02.SchemaFits: the walk of the law. For every schema and every row. -/
import Derived.Test.YtngoiphknffplaaDoorSchAwake
import Derived.Test.YtngoiphknffplaaDoorSchSmall
namespace Go.Proofs.YtngoiphknffplaaDoor
open Go.RowKit

set_option maxRecDepth 20000 in
set_option maxHeartbeats 3200000 in
theorem fits_law (A : Option Addr) (cap n : Nat) (cs : List CD) (hn : cs.length = n) (hok : ∀ c ∈ cs, c.Okw) (B : Option Addr) (bcap m : Nat) (vs : List VD) (hm : vs.length = m) (hvk : ∀ v ∈ vs, v.Ok 9223372036854775807)
    (w : World) (h : ColsAt w A cs) (hv : ValsAt w B vs) (hl : n ≤ 9223372036854775807) (hl2 : m ≤ 9223372036854775807) (hG : Gs w) :
    Calls Tryd.prog 7 #[.slice A n cap, .slice B m bcap] w fun e w' => e = .returned (.bool true) ∧ Touch [] w w' := by
  have haw := fun w' (h : Touch [] w w') => awake2_any w' (hG.touch0 h)
  have Haw := Lib.hid haw
  clear haw
  have hS := smallW_any A cap n cs hn hok w h hl
  have HR := Lib.hid fun w' (t : Touch [] w w') => smallRowW_any B bcap m vs hm hvk w' (hv.touch0 t) hl2
  rcases hs : smallS cs with _ | _
  · rw [hs] at hS
    have HS := Lib.hid hS
    clear hS
    go_enter Tryd.func7, Tryd.ntmps7
    go_wp2_with fail
    refine HS.out.mono ?_
    rintro e w1 ⟨rfl, t1⟩
    go_wp2_with fail
    refine (Haw.out _ t1).mono ?_
    rintro e w2 ⟨rfl, t2⟩
    go_wp2
    go_ret
    exact ⟨rfl, t1.trans0 t2⟩
  rw [hs] at hS
  have HS := Lib.hid hS
  clear hS
  rcases hr : smallR vs with _ | _
  · rw [hr] at HR
    go_enter Tryd.func7, Tryd.ntmps7
    go_wp2_with fail
    refine HS.out.mono ?_
    rintro e w1 ⟨rfl, t1⟩
    go_wp2_with fail
    refine (HR.out _ t1).mono ?_
    rintro e w2 ⟨rfl, t2⟩
    have T2 := t1.trans0 t2
    go_wp2_with fail
    refine (Haw.out _ T2).mono ?_
    rintro e w3 ⟨rfl, t3⟩
    go_wp2
    go_ret
    exact ⟨rfl, T2.trans0 t3⟩
  rw [hr] at HR
  have hok' := smallS_ok hs hok
  have hvk' := smallR_ok hr hvk
  have hn40 := (smallS_true hs).2
  have hm40 := (smallR_true hr).2
  rw [hn] at hn40
  rw [hm] at hm40
  have Href := Lib.hid fun w' (t : Touch [] w w') => ref_any A cap n cs hn w' (h.touch0 t) (by omega)
  have Hfit := Lib.hid fun w' (t : Touch [] w w') => fits_any A cap n cs hn hok' B bcap m vs hm hvk' w' (h.touch0 t) (hv.touch0 t) (by omega) (by omega)
  have Hrow := Lib.hid fun w' (t : Touch [] w w') => refRow_any B bcap m vs hm w' (hv.touch0 t) (by omega)
  have Hchk := Lib.hid fun A1 c1 w' (r : ColsAt w' A1 cs) => refCheck_any A1 c1 n cs hn hok' w' r (by omega)
  have Hrf := Lib.hid fun A1 c1 A2 c2 w' (r : ColsAt w' A1 cs) (r2 : ValsAt w' A2 vs) => refFits_any A1 c1 n cs hn A2 c2 m vs hm hvk' w' r r2 (by omega) (by omega)
  by_cases hc : checkV cs = 0
  · rw [hc] at Hchk Hfit
    obtain ⟨f, hf⟩ : ∃ f, f = fitR cs vs := ⟨_, rfl⟩
    rw [← hf] at Hrf Hfit
    have hf0 : (decide ((0 : Int) = 0) && f) = f := by simp
    rw [hf0] at Hfit
    clear hok' hvk' hok hvk hs hr hc hf hf0 hn hm hl hl2
    go_enter Tryd.func7, Tryd.ntmps7
    go_wp2_with fail
    refine HS.out.mono ?_
    rintro e w1 ⟨rfl, t1⟩
    go_wp2_with fail
    refine (HR.out _ t1).mono ?_
    rintro e w2 ⟨rfl, t2⟩
    have T2 := t1.trans0 t2
    go_wp2_with fail
    refine (Href.out _ T2).mono ?_
    rintro e w3 ⟨A3, c3, rfl, m3⟩
    have T3 := T2.trans0 m3.t
    go_wp2_with fail
    refine (Hfit.out _ T3).mono ?_
    rintro e w4 ⟨rfl, t4⟩
    have T4 := T3.trans0 t4
    have m4 := m3.touch0 t4
    go_wp2_with fail
    refine (Hchk.out A3 c3 _ m4.own.rd).mono ?_
    rintro e w5 ⟨rfl, t5⟩
    have T5 := T4.trans0 t5
    have m5 := m4.touch0 t5
    go_wp2_with fail
    refine (Hrow.out _ T5).mono ?_
    rintro e w6 ⟨A6, c6, rfl, m6⟩
    have T6 := T5.trans0 m6.t
    go_wp2_with fail
    refine (Hrf.out A3 c3 A6 c6 _ (m5.touch0 m6.t).own.rd m6.own.rd).mono ?_
    rintro e w7 ⟨rfl, t7⟩
    have T7 := T6.trans0 t7
    go_wp2_with fail
    refine (Haw.out _ T7).mono ?_
    rintro e w8 ⟨rfl, t8⟩
    go_wp2
    go_ret
    exact ⟨rfl, T7.trans0 t8⟩
  · have hcs := checkV_cases cs
    rw [decide_eq_false hc, Bool.false_and] at Hfit
    obtain ⟨k, hk⟩ : ∃ k, k = checkV cs := ⟨_, rfl⟩
    rw [← hk] at Hchk hc hcs
    clear hok' hvk' hok hvk hs hr hk hn hm hl hl2
    go_enter Tryd.func7, Tryd.ntmps7
    go_wp2_with fail
    refine HS.out.mono ?_
    rintro e w1 ⟨rfl, t1⟩
    go_wp2_with fail
    refine (HR.out _ t1).mono ?_
    rintro e w2 ⟨rfl, t2⟩
    have T2 := t1.trans0 t2
    go_wp2_with fail
    refine (Href.out _ T2).mono ?_
    rintro e w3 ⟨A3, c3, rfl, m3⟩
    have T3 := T2.trans0 m3.t
    go_wp2_with fail
    refine (Hfit.out _ T3).mono ?_
    rintro e w4 ⟨rfl, t4⟩
    have T4 := T3.trans0 t4
    have m4 := m3.touch0 t4
    go_wp2_with fail
    refine (Hchk.out A3 c3 _ m4.own.rd).mono ?_
    rintro e w5 ⟨rfl, t5⟩
    have T5 := T4.trans0 t5
    go_wp2_with fail
    refine (Haw.out _ T5).mono ?_
    rintro e w6 ⟨rfl, t6⟩
    go_wp2
    go_ret
    exact ⟨rfl, T5.trans0 t6⟩
end Go.Proofs.YtngoiphknffplaaDoor
