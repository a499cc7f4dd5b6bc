/- bywashlaw02.SchemaJoins: the walk of the law. For every two schemas. -/
import Derived.Test.YtngoiphknffplaaDoorSchAwake
import Derived.Test.YtngoiphknffplaaDoorSchSmall
import Derived.Test.YtngoiphknffplaaDoorSchJoin
namespace Go.Proofs.YtngoiphknffplaaDoor
open Go.RowKit

set_option maxRecDepth 20000 in
set_option maxHeartbeats 6400000 in
theorem joins_law (A : Option Addr) (cap n : Nat) (cs : List CD) (hn : cs.length = n) (hok : ∀ c ∈ cs, c.Okw) (B : Option Addr) (bcap m : Nat) (ds : List CD) (hm : ds.length = m) (hvk : ∀ v ∈ ds, v.Okw)
    (w : World) (h : ColsAt w A cs) (hv : ColsAt w B ds) (hl : n ≤ 9223372036854775807) (hl2 : m ≤ 9223372036854775807) (hk1 : n ≤ cap) (hk2 : m ≤ bcap) (hG : Gs w) :
    Calls Tryd.prog 8 #[.slice A n cap, .slice B m bcap] w fun e w' => e = .returned (.bool true) ∧ Touch [] w w' := by
  have haw := fun w' (h : Touch [] w w') => awake2_any w' (hG.touch0 h)
  have Haw := Lib.hid haw
  clear haw
  have hS := smallW_any A cap n cs hn hok w h hl
  have HR := Lib.hid fun w' (t : Touch [] w w') => smallW_any B bcap m ds hm hvk w' (hv.touch0 t) hl2
  rcases hs : smallS cs with _ | _
  · rw [hs] at hS
    have HS := Lib.hid hS
    clear hS
    go_enter Tryd.func8, Tryd.ntmps8
    go_wp2_with fail
    refine HS.out.mono ?_
    rintro e w1 ⟨rfl, t1⟩
    go_wp2_with fail
    refine (Haw.out _ t1).mono ?_
    rintro e w2 ⟨rfl, t2⟩
    go_wp2
    go_ret
    exact ⟨rfl, t1.trans0 t2⟩
  rw [hs] at hS
  have HS := Lib.hid hS
  clear hS
  rcases hr : smallS ds with _ | _
  · rw [hr] at HR
    go_enter Tryd.func8, Tryd.ntmps8
    go_wp2_with fail
    refine HS.out.mono ?_
    rintro e w1 ⟨rfl, t1⟩
    go_wp2_with fail
    refine (HR.out _ t1).mono ?_
    rintro e w2 ⟨rfl, t2⟩
    have T2 := t1.trans0 t2
    go_wp2_with fail
    refine (Haw.out _ T2).mono ?_
    rintro e w3 ⟨rfl, t3⟩
    go_wp2
    go_ret
    exact ⟨rfl, T2.trans0 t3⟩
  rw [hr] at HR
  have hok' := smallS_ok hs hok
  have hvk' := smallS_ok hr hvk
  have hn40 := (smallS_true hs).2
  have hm40 := (smallS_true hr).2
  rw [hn] at hn40
  rw [hm] at hm40
  have hlen : (cs ++ ds).length = n + m := by rw [List.length_append, hn, hm]
  have hokb : ∀ c ∈ cs ++ ds, c.Ok := fun c hc => by
    rcases List.mem_append.1 hc with e | e
    · exact hok' c e
    · exact hvk' c e
  have Hn := Lib.hid hn; have Hm := Lib.hid hm
  have Hlen := Lib.hid hlen
  have Hj := Lib.hid fun w' (t : Touch [] w w') => joinC_any A B n m cap bcap cs ds hn hm (by omega) (by omega) hk1 hk2 hok' hvk' w' (h.touch0 t) (hv.touch0 t)
  have Href := Lib.hid fun A1 c1 w' (r : ColsAt w' A1 (cs ++ ds)) => ref_any A1 c1 (n + m) (cs ++ ds) hlen w' r (by omega)
  have Hchk := Lib.hid fun A1 c1 w' (r : ColsAt w' A1 (cs ++ ds)) => refCheck_any A1 c1 (n + m) (cs ++ ds) hlen hokb w' r (by omega)
  by_cases hc : checkV (cs ++ ds) = 0
  · have HJ := Lib.hid fun w' (t : Touch [] w w') => (Hj.out w' t).mono (R' := fun e w'' => ∃ A5 c5, e = .returned (.tuple #[.slice A5 (n + m) c5, .int .i64 0]) ∧ Made 38 2 cdE (cs ++ ds) A5 c5 w' w'') fun e w'' hp => by
      unfold JoinPost at hp
      rw [if_pos hc, hlen] at hp
      exact hp
    have Heq := Lib.hid fun A1 A2 c1 c2 w' (r1 : ColsAt w' A1 (cs ++ ds)) (r2 : ColsAt w' A2 (cs ++ ds)) => schEqual_any A1 A2 c1 c2 (n + m) (n + m) (cs ++ ds) (cs ++ ds) hlen hlen w' r1 r2 (by omega) (by omega)
    rw [(eqCs_iff _ _).2 rfl] at Heq
    rw [hc] at Hchk
    clear hokb hok' hvk' hok hvk hs hr hc hlen hn hm hl hl2 Hj hk1 hk2
    go_enter Tryd.func8, Tryd.ntmps8
    go_wp2_with fail
    refine HS.out.mono ?_
    rintro e w1 ⟨rfl, t1⟩
    go_wp2_with fail
    refine (HR.out _ t1).mono ?_
    rintro e w2 ⟨rfl, t2⟩
    have T2 := t1.trans0 t2
    go_wp2_with (at_builtin; refine stop ?_)
    refine go ?_
    have ta := (Touch.refl [] w2).alloc (.cells #[] 38)
    have m0 : Made 38 2 cdE [] (some ⟨w2.heap.size, 0, none⟩) 0 w2 (w2.alloc (.cells #[] 38)) := ⟨OwnK.empty_new _ _ _ _, ta, by simp [fpo]⟩
    refine wpList_appK rfl (.tmp 18) (.tmp 19) 24 rfl 38 _ 2 24 info_col Tryd.underlying24 rfl (by omega) cdE_length cdE_one (some ⟨w2.heap.size, 0, none⟩) 0 0 [] rfl rfl m0.own
      A n cap cs Hn.out rfl (h.touch0 (T2.trans0 ta)) (by omega) (by omega) ?_
    intro A3 c3 w3 hown3 ht3 hf3
    have m3 := m0.step hown3 ht3 hf3
    rw [List.nil_append] at m3
    rw [Nat.zero_add]
    go_wp2_with (at_builtin; refine stop ?_)
    refine go ?_
    refine wpList_appK rfl (.tmp 20) (.tmp 21) 24 rfl 38 _ 2 24 info_col Tryd.underlying24 rfl (by omega) cdE_length cdE_one A3 n c3 cs Hn.out rfl m3.own
      B m bcap ds Hm.out rfl (hv.touch0 (T2.trans0 m3.t)) (by omega) (by omega) ?_
    intro A4 c4 w4 hown4 ht4 hf4
    have m4 := m3.step hown4 ht4 hf4
    have T4 := T2.trans0 m4.t
    clear hown3 hown4 ht3 ht4 hf3 hf4 m3 m0
    go_wp2_with fail
    refine (HJ.out _ T4).mono ?_
    rintro e w5 ⟨A5, c5, rfl, m5⟩
    have T5 := T4.trans0 m5.t
    have n5 := m4.touch0 m5.t
    go_wp2_with fail
    refine (Href.out A4 c4 _ n5.own.rd).mono ?_
    rintro e w6 ⟨A6, c6, rfl, m6⟩
    have T6 := T5.trans0 m6.t
    have n6 := n5.touch0 m6.t
    have o6 := m5.touch0 m6.t
    go_wp2_with fail
    refine (Hchk.out A6 c6 _ m6.own.rd).mono ?_
    rintro e w7 ⟨rfl, t7⟩
    have T7 := T6.trans0 t7
    have n7 := n6.touch0 t7
    have o7 := o6.touch0 t7
    go_wp2_with fail
    refine (Heq.out A5 A4 c5 c4 _ o7.own.rd n7.own.rd).mono ?_
    rintro e w8 ⟨rfl, t8⟩
    have T8 := T7.trans0 t8
    go_wp2_with fail
    refine (Haw.out _ T8).mono ?_
    rintro e w9 ⟨rfl, t9⟩
    go_wp2
    go_ret
    exact ⟨rfl, T8.trans0 t9⟩
  · have hcs := checkV_cases (cs ++ ds)
    obtain ⟨k, hk⟩ : ∃ k, k = checkV (cs ++ ds) := ⟨_, rfl⟩
    have HJ := Lib.hid fun w' (t : Touch [] w w') => (Hj.out w' t).mono (R' := fun e w'' => e = .returned (.tuple #[.slice none 0 0, .int .i64 k]) ∧ Touch [] w' w'') fun e w'' hp => by
      unfold JoinPost at hp
      rw [if_neg hc, ← hk] at hp
      exact hp
    rw [← hk] at Hchk hc hcs
    clear hokb hok' hvk' hok hvk hs hr hk hlen hn hm hl hl2 Hj hk1 hk2
    go_enter Tryd.func8, Tryd.ntmps8
    go_wp2_with fail
    refine HS.out.mono ?_
    rintro e w1 ⟨rfl, t1⟩
    go_wp2_with fail
    refine (HR.out _ t1).mono ?_
    rintro e w2 ⟨rfl, t2⟩
    have T2 := t1.trans0 t2
    go_wp2_with (at_builtin; refine stop ?_)
    refine go ?_
    have ta := (Touch.refl [] w2).alloc (.cells #[] 38)
    have m0 : Made 38 2 cdE [] (some ⟨w2.heap.size, 0, none⟩) 0 w2 (w2.alloc (.cells #[] 38)) := ⟨OwnK.empty_new _ _ _ _, ta, by simp [fpo]⟩
    refine wpList_appK rfl (.tmp 18) (.tmp 19) 24 rfl 38 _ 2 24 info_col Tryd.underlying24 rfl (by omega) cdE_length cdE_one (some ⟨w2.heap.size, 0, none⟩) 0 0 [] rfl rfl m0.own
      A n cap cs Hn.out rfl (h.touch0 (T2.trans0 ta)) (by omega) (by omega) ?_
    intro A3 c3 w3 hown3 ht3 hf3
    have m3 := m0.step hown3 ht3 hf3
    rw [List.nil_append] at m3
    rw [Nat.zero_add]
    go_wp2_with (at_builtin; refine stop ?_)
    refine go ?_
    refine wpList_appK rfl (.tmp 20) (.tmp 21) 24 rfl 38 _ 2 24 info_col Tryd.underlying24 rfl (by omega) cdE_length cdE_one A3 n c3 cs Hn.out rfl m3.own
      B m bcap ds Hm.out rfl (hv.touch0 (T2.trans0 m3.t)) (by omega) (by omega) ?_
    intro A4 c4 w4 hown4 ht4 hf4
    have m4 := m3.step hown4 ht4 hf4
    have T4 := T2.trans0 m4.t
    clear hown3 hown4 ht3 ht4 hf3 hf4 m3 m0
    go_wp2_with fail
    refine (HJ.out _ T4).mono ?_
    rintro e w5 ⟨rfl, t5⟩
    have T5 := T4.trans0 t5
    have n5 := m4.touch0 t5
    go_wp2_with fail
    refine (Href.out A4 c4 _ n5.own.rd).mono ?_
    rintro e w6 ⟨A6, c6, rfl, m6⟩
    have T6 := T5.trans0 m6.t
    go_wp2_with fail
    refine (Hchk.out A6 c6 _ m6.own.rd).mono ?_
    rintro e w7 ⟨rfl, t7⟩
    have T7 := T6.trans0 t7
    go_wp2_with fail
    refine (Haw.out _ T7).mono ?_
    rintro e w8 ⟨rfl, t8⟩
    go_wp2
    go_ret
    exact ⟨rfl, T7.trans0 t8⟩
end Go.Proofs.YtngoiphknffplaaDoor
