/- bywashlaw02.SchemaChecks: the walk of the law. For every schema and every name. -/
import Derived.Test.YtngoiphknffplaaDoorSchAwake
import Derived.Test.YtngoiphknffplaaDoorSchSmall
namespace Go.Proofs.YtngoiphknffplaaDoor
open Go.RowKit

theorem placeV_snoc {cs : List CD} {s : ByteArray} {k : Nat} (h : k < cs.length) : placeV (cs.take (k + 1)) s = match placeV (cs.take k) s with | some j => some j | none => if cs[k].name = s then some k else none := by
  unfold placeV
  rw [List.take_succ_eq_append_getElem h, List.findIdx?_append]
  rcases hq : (cs.take k).findIdx? (fun c => decide (c.name = s)) with _ | j
  · by_cases hk : cs[k].name = s
    · simp [List.findIdx?_cons, hk, hq, Nat.min_eq_left (Nat.le_of_lt h)]
    · simp [List.findIdx?_cons, hk, hq]
  · first | rfl | (rw [hq]; rfl) | (simp only [hq, Option.some_or])
theorem placeV_stay {cs : List CD} {s : ByteArray} {k j : Nat} (h : k < cs.length) (hp : placeV (cs.take k) s = some j) : placeV (cs.take (k + 1)) s = some j := by rw [placeV_snoc h, hp]
theorem placeV_hit {cs : List CD} {s : ByteArray} {k : Nat} (h : k < cs.length) (hp : placeV (cs.take k) s = none) (he : cs[k].name = s) : placeV (cs.take (k + 1)) s = some k := by rw [placeV_snoc h, hp]; simp [he]
theorem placeV_miss {cs : List CD} {s : ByteArray} {k : Nat} (h : k < cs.length) (hp : placeV (cs.take k) s = none) (he : cs[k].name ≠ s) : placeV (cs.take (k + 1)) s = none := by rw [placeV_snoc h, hp]; simp [he]
/-- the place and whether there is one -/
def plI (cs : List CD) (s : ByteArray) : Value := .int .i64 (((placeV cs s).getD 0 : Nat) : Int)
def plB (cs : List CD) (s : ByteArray) : Value := .bool (placeV cs s).isSome

set_option maxRecDepth 20000 in
set_option maxHeartbeats 6400000 in
theorem checks_law (A : Option Addr) (cap n : Nat) (cs : List CD) (hn : cs.length = n) (hok : ∀ c ∈ cs, c.Okw) (t : List UInt8) (ht : t.length ≤ 9223372036854775807)
    (w : World) (h : ColsAt w A cs) (hl : n ≤ 9223372036854775807) (hG : Gs w) :
    Calls Tryd.prog 6 #[.slice A n cap, .string (S t)] w fun e w' => e = .returned (.bool true) ∧ Touch [] w w' := by
  have hsz := S_size t
  have haw := fun w' (h : Touch [] w w') => awake2_any w' (hG.touch0 h)
  have Haw := Lib.hid haw
  clear haw
  have hS := smallW_any A cap n cs hn hok w h hl
  rcases hs : smallS cs with _ | _
  · rw [hs] at hS
    have HS := Lib.hid hS
    clear hS
    go_enter Tryd.func6, Tryd.ntmps6
    go_wp2_with fail
    refine HS.out.mono ?_
    rintro e w1 ⟨rfl, t1⟩
    go_wp2_with fail
    refine (Haw.out _ t1).mono ?_
    rintro e w2 ⟨rfl, t2⟩
    go_wp2
    go_ret
    exact ⟨rfl, t1.trans0 t2⟩
  rw [hs] at hS
  have HS := Lib.hid hS
  clear hS
  by_cases h100 : 100 < t.length
  · go_enter Tryd.func6, Tryd.ntmps6
    go_wp2_with fail
    refine HS.out.mono ?_
    rintro e w1 ⟨rfl, t1⟩
    go_wp2_with fail
    refine (Haw.out _ t1).mono ?_
    rintro e w2 ⟨rfl, t2⟩
    go_wp2
    go_ret
    exact ⟨rfl, t1.trans0 t2⟩
  have hok' := smallS_ok hs hok
  have hn40 := (smallS_true hs).2
  rw [hn] at hn40
  have Hn := Lib.hid hn
  have Hcheck := Lib.hid fun w' (t : Touch [] w w') => check_any A cap n cs hn hok' w' (h.touch0 t) (by omega)
  have Href := Lib.hid fun w' (t : Touch [] w w') => ref_any A cap n cs hn w' (h.touch0 t) (by omega)
  have Hrc := Lib.hid fun A1 c1 w' (r : ColsAt w' A1 cs) => refCheck_any A1 c1 n cs hn hok' w' r (by omega)
  have Hname := Lib.hid fun w' => name_any t (by omega) w'
  have Hrname := Lib.hid fun w' => refName_any t (by omega) w'
  have Heq := Lib.hid fun w' (t : Touch [] w w') => schEqual_any A A cap cap n n cs cs hn hn w' (h.touch0 t) (h.touch0 t) (by omega) (by omega)
  rw [(eqCs_iff _ _).2 rfl] at Heq
  have Hfind := Lib.hid fun w' (t' : Touch [] w w') => findC_any A cap n cs hn (S t) w' (h.touch0 t') (by omega)
  have Htypes := Lib.hid fun w' (t : Touch [] w w') => types_any A cap n cs hn w' (h.touch0 t) (by omega)
  obtain ⟨k0, hk0⟩ : ∃ k, k = checkV cs := ⟨_, rfl⟩
  have hcs := checkV_cases cs
  rw [← hk0] at hcs Hcheck Hrc
  obtain ⟨b0, hb0⟩ : ∃ b, b = nameV t := ⟨_, rfl⟩
  rw [← hb0] at Hname Hrname
  have hbb : (b0 == b0) = true := by simp
  have hbn : (b0 != b0) = false := by simp
  have hkk : (k0 == k0) = true := by simp
  have hkn : (k0 != k0) = false := by simp
  clear hok' hok hs hk0 hb0 hl
  go_enter Tryd.func6, Tryd.ntmps6
  go_wp2_with fail
  refine HS.out.mono ?_
  rintro e w1 ⟨rfl, t1⟩
  go_wp2_with fail
  refine (Hcheck.out _ t1).mono ?_
  rintro e w2 ⟨rfl, t2⟩
  have T2 := t1.trans0 t2
  go_wp2_with fail
  refine (Href.out _ T2).mono ?_
  rintro e w3 ⟨A3, c3, rfl, m3⟩
  have T3 := T2.trans0 m3.t
  go_wp2_with fail
  refine (Hrc.out A3 c3 _ m3.own.rd).mono ?_
  rintro e w4 ⟨rfl, t4⟩
  have T4 := T3.trans0 t4
  go_wp2_with fail
  refine (Hname.out _).mono ?_
  rintro e w5 ⟨rfl, t5⟩
  have T5 := T4.trans0 t5
  go_wp2_with fail
  refine (Hrname.out _).mono ?_
  rintro e w6 ⟨rfl, rfl⟩
  go_wp2_with fail
  refine (Heq.out _ T5).mono ?_
  rintro e w7 ⟨rfl, t7⟩
  have T7 := T5.trans0 t7
  go_wp2
  clear hbb hbn hkk hkn hcs
  go_loopw [5, 6, 43] (fun a b i wr => ∃ k : Nat, k ≤ n ∧ i = .int .i64 k ∧ a = plI (cs.take k) (S t) ∧ b = plB (cs.take k) (S t) ∧ Touch [] w wr) (fun _ _ i _ => n - (intOf i).toNat)
  case atStart => exact ⟨0, by omega, rfl, rfl, rfl, T7⟩
  case round =>
    obtain ⟨k, hk, rfl, rfl, rfl, hT⟩ := hrel
    clear T7 T5 T4 T3 T2 t1 t2 t4 t5 t7 m3
    by_cases hlt : k < n
    · have hlt' : k < cs.length := by have := Hn.out; omega
      obtain ⟨ad, b, off, rfl, hadd, f0, f1⟩ := (h.touch0 hT).at_ k hlt'
      have hst := fun j => placeV_stay (j := j) (s := S t) hlt'
      have hhit := placeV_hit (s := S t) hlt'
      have hmiss := placeV_miss (s := S t) hlt'
      obtain ⟨c, hc⟩ : ∃ c, c = cs[k] := ⟨_, rfl⟩
      rw [← hc] at f0 f1 hhit hmiss
      have hbq := bs_beq c.name (S t)
      rcases hp : placeV (cs.take k) (S t) with _ | j
      · have e1 : plI (cs.take k) (S t) = .int .i64 0 := by unfold plI; rw [hp]; rfl
        have e2 : plB (cs.take k) (S t) = .bool false := by unfold plB; rw [hp]; rfl
        rw [e1, e2]
        by_cases he : c.name = S t
        · have Hq := Lib.hid (hhit hp he)
          rw [decide_eq_true he] at hbq
          clear hst hhit hmiss hc hp e1 e2 he
          go_wp2
          go_roundw
          case rel => exact ⟨k + 1, by omega, by go_num, by unfold plI; rw [Hq.out]; rfl, by unfold plB; rw [Hq.out]; rfl, hT.alloc _⟩
          case measure => simp [intOf]; omega
        · have Hq := Lib.hid (hmiss hp he)
          rw [decide_eq_false he] at hbq
          clear hst hhit hmiss hc hp e1 e2 he
          go_wp2
          go_roundw
          case rel => exact ⟨k + 1, by omega, by go_num, by unfold plI; rw [Hq.out]; rfl, by unfold plB; rw [Hq.out]; rfl, hT.alloc _⟩
          case measure => simp [intOf]; omega
      · have e1 : plI (cs.take k) (S t) = .int .i64 (j : Int) := by unfold plI; rw [hp]; rfl
        have e2 : plB (cs.take k) (S t) = .bool true := by unfold plB; rw [hp]; rfl
        rw [e1, e2]
        have Hq := Lib.hid (hst j hp)
        clear hst hhit hmiss hc hp e1 e2
        rcases hd : decide (c.name = S t) with _ | _
        · rw [hd] at hbq
          clear hd
          go_wp2
          go_roundw
          case rel => exact ⟨k + 1, by omega, by go_num, by unfold plI; rw [Hq.out]; rfl, by unfold plB; rw [Hq.out]; rfl, hT.alloc _⟩
          case measure => simp [intOf]; omega
        · rw [hd] at hbq
          clear hd
          go_wp2
          go_roundw
          case rel => exact ⟨k + 1, by omega, by go_num, by unfold plI; rw [Hq.out]; rfl, by unfold plB; rw [Hq.out]; rfl, hT.alloc _⟩
          case measure => simp [intOf]; omega
    · obtain rfl : k = n := by omega
      have hfull : cs.take k = cs := List.take_of_length_le (by rw [Hn.out]; exact Nat.le_refl _)
      rw [hfull]
      unfold plI plB
      obtain ⟨p0, hp0⟩ : ∃ p0 : Nat, p0 = (placeV cs (S t)).getD 0 := ⟨_, rfl⟩
      obtain ⟨q0, hq0⟩ : ∃ q0, q0 = (placeV cs (S t)).isSome := ⟨_, rfl⟩
      rw [← hp0, ← hq0]
      rw [← hp0, ← hq0] at Hfind
      clear hp0 hq0 hfull
      go_wp2_with fail
      refine (Hfind.out _ hT).mono ?_
      rintro e w8 ⟨rfl, t8⟩
      have T8 := hT.trans0 t8
      go_wp2_with fail
      refine (Htypes.out _ T8).mono ?_
      rintro e w9 ⟨A9, c9, rfl, m9⟩
      have T9 := T8.trans0 m9.t
      have hnb : ((k : Int) != (k : Int)) = false := by simp
      go_wp2
      clear hnb
      go_loopw [73] (fun i wr => ∃ j : Nat, j ≤ k ∧ i = .int .i64 j ∧ Made 3 1 inE (cs.map (·.typ)) A9 c9 w8 wr) (fun i _ => k - (intOf i).toNat)
      case atStart => exact ⟨0, by omega, rfl, m9⟩
      case round =>
        obtain ⟨j, hj, rfl, mj⟩ := hrel
        clear m9 T9
        have Tj := T8.trans0 mj.t
        by_cases hltj : j < k
        · have hlt' : j < cs.length := by have := Hn.out; omega
          obtain ⟨ad, b, off, rfl, hadd, f0, f1⟩ := (h.touch0 Tj).at_ j hlt'
          obtain ⟨bd, rfl, d0⟩ := RdKI.at_ mj.own.rd j (by rw [List.length_map]; exact hlt')
          have hget : (cs.map (·.typ))[j]'(by rw [List.length_map]; exact hlt') = cs[j].typ := List.getElem_map _
          rw [hget] at d0
          obtain ⟨c, hc⟩ : ∃ c, c = cs[j] := ⟨_, rfl⟩
          rw [← hc] at f0 f1 d0
          have g1 := TW.cell f1
          have g2 := TW.cell d0
          have hkI0 : (0 : Int) ≤ (j : Int) := by omega
          have hkI : (j : Int) < (k : Int) := by omega
          have hnn : (c.typ != c.typ) = false := by simp
          clear hc f0 f1 d0 hget
          go_wp2
          refine wp_region_tw wr (Touch.refl _ _) (by kernel_rfl) (by kernel_rfl) ?_
          repeat (go_big_quiet_step (fail))
          refine wpQuiet_nil ?_
          rintro _ ⟨x2, rfl⟩
          go_wp2
          go_roundw
          case rel => exact ⟨j + 1, by omega, by go_num, mj.touch0 x2.t⟩
          case measure => simp [intOf]; omega
        · obtain rfl : j = k := by omega
          have hpp : ((p0 : Int) == (p0 : Int)) = true := by simp
          have hqq : (q0 == q0) = true := by simp
          go_wp2_with fail
          refine (Haw.out _ Tj).mono ?_
          rintro e w10 ⟨rfl, t10⟩
          go_wp2
          go_ret
          exact ⟨rfl, Tj.trans0 t10⟩
end Go.Proofs.YtngoiphknffplaaDoor
