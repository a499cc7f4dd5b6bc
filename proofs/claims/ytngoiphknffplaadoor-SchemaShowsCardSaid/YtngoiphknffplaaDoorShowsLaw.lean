/- bywashlaw02.SchemaShows: the walk of the law. For every schema. -/
import Derived.Test.YtngoiphknffplaaDoorSchAwake
import Derived.Test.YtngoiphknffplaaDoorSchSmall
import Derived.Test.YtngoiphknffplaaDoorSchRound
namespace Go.Proofs.YtngoiphknffplaaDoor
open Go.RowKit

set_option maxRecDepth 20000 in
set_option maxHeartbeats 6400000 in
theorem shows_law (A : Option Addr) (cap n : Nat) (cs : List CD) (hn : cs.length = n) (hok : ∀ c ∈ cs, c.Okw) (w : World) (h : ColsAt w A cs) (hl : n ≤ 9223372036854775807) (hG : Gs w) :
    Calls Tryd.prog 4 #[.slice A n cap] w fun e w' => e = .returned (.bool true) ∧ Touch [] w w' := by
  have haw := fun w' (h : Touch [] w w') => awake2_any w' (hG.touch0 h)
  have Haw := Lib.hid haw
  clear haw
  have hS := smallW_any A cap n cs hn hok w h hl
  rcases hs : smallS cs with _ | _
  · rw [hs] at hS
    have HS := Lib.hid hS
    clear hS
    go_enter Tryd.func4, Tryd.ntmps4
    go_wp2_with fail
    refine HS.out.mono ?_
    rintro e w1 ⟨rfl, t1⟩
    go_wp2_with fail
    refine (Haw.out _ t1).mono ?_
    rintro e w2 ⟨rfl, t2⟩
    go_wp2
    go_ret
    exact ⟨rfl, t1.trans0 t2⟩
  rw [hs] at hS
  have HS := Lib.hid hS
  clear hS
  have hok' := smallS_ok hs hok
  have hn40 := (smallS_true hs).2
  rw [hn] at hn40
  have Hshow := Lib.hid fun w' (t : Touch [] w w') => show_any A cap n cs hn hok' w' (h.touch0 t) (hG.touch0 t) (by omega)
  have Href := Lib.hid fun w' (t : Touch [] w w') => ref_any A cap n cs hn w' (h.touch0 t) (by omega)
  have Hrc := Lib.hid fun A1 c1 w' (r : ColsAt w' A1 cs) => refCheck_any A1 c1 n cs hn hok' w' r (by omega)
  by_cases hc : checkV cs = 0
  · have hsv : showV cs = textV cs := by unfold showV; rw [if_pos hc]
    have Hparse := Lib.hid fun w' (t : Touch [] w w') => (parse_any (textV cs) (by have := text_len hc; omega) w' (hG.touch0 t)).mono (R' := fun e w'' => ∃ A5 c5, e = .returned (.tuple #[.slice A5 n c5, .int .i64 0]) ∧ Made 38 2 cdE cs A5 c5 w' w'') fun e w'' hp => by
      unfold ParsePost at hp
      rw [cols_text hc, hsv, if_neg (by simp [text_ne]), hn] at hp
      exact hp
    have Hrs := Lib.hid fun A1 c1 w' (r : ColsAt w' A1 cs) => refShow_any A1 c1 n cs hn hc w' r
    have Heq := Lib.hid fun A1 A2 c1 c2 w' (r1 : ColsAt w' A1 cs) (r2 : ColsAt w' A2 cs) => schEqual_any A1 A2 c1 c2 n n cs cs hn hn w' r1 r2 (by omega) (by omega)
    rw [(eqCs_iff _ _).2 rfl] at Heq
    rw [hsv] at Hshow
    rw [hc] at Hrc
    obtain ⟨tx, htx⟩ : ∃ tx, tx = textV cs := ⟨_, rfl⟩
    rw [← htx] at Hshow Hparse Hrs
    have hbq : ((S tx).toList == (S tx).toList) = true := by rw [S_beq]; simp
    clear hok' hok hs hsv hc htx hl
    go_enter Tryd.func4, Tryd.ntmps4
    go_wp2_with fail
    refine HS.out.mono ?_
    rintro e w1 ⟨rfl, t1⟩
    go_wp2_with fail
    refine (Hshow.out _ t1).mono ?_
    rintro e w2 ⟨rfl, t2⟩
    have T2 := t1.trans0 t2
    go_wp2_with fail
    refine (Href.out _ T2).mono ?_
    rintro e w3 ⟨A3, c3, rfl, m3⟩
    have T3 := T2.trans0 m3.t
    go_wp2_with fail
    refine (Hrc.out A3 c3 _ m3.own.rd).mono ?_
    rintro e w4 ⟨rfl, t4⟩
    have T4 := T3.trans0 t4
    go_wp2_with fail
    refine (Hparse.out _ T4).mono ?_
    rintro e w5 ⟨A5, c5, rfl, m5⟩
    have T5 := T4.trans0 m5.t
    go_wp2_with fail
    refine (Href.out _ T5).mono ?_
    rintro e w6 ⟨A6, c6, rfl, m6⟩
    have T6 := T5.trans0 m6.t
    have o6 := m5.touch0 m6.t
    go_wp2_with fail
    refine (Hrs.out A6 c6 _ m6.own.rd).mono ?_
    rintro e w7 ⟨rfl, rfl⟩
    go_wp2_with fail
    refine (Heq.out A5 A c5 cap _ o6.own.rd (h.touch0 T6)).mono ?_
    rintro e w8 ⟨rfl, t8⟩
    have T8 := T6.trans0 t8
    go_wp2_with fail
    refine (Haw.out _ T8).mono ?_
    rintro e w9 ⟨rfl, t9⟩
    go_wp2
    go_ret
    exact ⟨rfl, T8.trans0 t9⟩
  · have hsv : showV cs = [] := by unfold showV; rw [if_neg hc]
    have hcs := checkV_cases cs
    rw [hsv] at Hshow
    obtain ⟨k, hk⟩ : ∃ k, k = checkV cs := ⟨_, rfl⟩
    rw [← hk] at Hrc hc hcs
    have hq : (k == 0) = false := by rw [beq_eq_false_iff_ne]; exact hc
    have hq' : (k != 0) = true := by rw [bne, hq]; rfl
    have hS0 : S [] = ⟨#[]⟩ := rfl
    rw [hS0] at Hshow
    clear hok' hok hs hsv hk hl hS0
    go_enter Tryd.func4, Tryd.ntmps4
    go_wp2_with fail
    refine HS.out.mono ?_
    rintro e w1 ⟨rfl, t1⟩
    go_wp2_with fail
    refine (Hshow.out _ t1).mono ?_
    rintro e w2 ⟨rfl, t2⟩
    have T2 := t1.trans0 t2
    go_wp2_with fail
    refine (Href.out _ T2).mono ?_
    rintro e w3 ⟨A3, c3, rfl, m3⟩
    have T3 := T2.trans0 m3.t
    go_wp2_with fail
    refine (Hrc.out A3 c3 _ m3.own.rd).mono ?_
    rintro e w4 ⟨rfl, t4⟩
    have T4 := T3.trans0 t4
    go_wp2_with fail
    refine (Haw.out _ T4).mono ?_
    rintro e w5 ⟨rfl, t5⟩
    go_wp2
    go_ret
    exact ⟨rfl, T4.trans0 t5⟩
end Go.Proofs.YtngoiphknffplaaDoor
