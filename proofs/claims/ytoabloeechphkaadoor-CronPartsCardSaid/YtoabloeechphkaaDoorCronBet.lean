/- cron.Spec.Between: all minutes of a stretch that match. For every spec and all numbers. -/
import Derived.Test.YtoabloeechphkaaDoorCronNext
import Derived.Test.YtoabloeechphkaaDoorRdK
namespace Go.Proofs.YtoabloeechphkaaDoor
open Go.RowKit

/-- the minutes below p that match, from lo on -/
def bet (c : SD) (lo p : Nat) : List Nat := (List.range p).filter fun m => decide (lo ≤ m) && matchV c m
theorem bet_succ (c : SD) (lo p : Nat) : bet c lo (p + 1) = bet c lo p ++ if (decide (lo ≤ p) && matchV c p) = true then [p] else [] := by
  unfold bet
  rw [List.range_succ, List.filter_append]
  by_cases h : (decide (lo ≤ p) && matchV c p) = true <;> simp only [List.filter_cons, List.filter_nil, h] <;> simp
theorem bet_start (c : SD) (lo : Nat) : bet c lo lo = [] := by
  unfold bet
  rw [List.filter_eq_nil_iff]
  intro m hm
  have := List.mem_range.1 hm
  have h : decide (lo ≤ m) = false := decide_eq_false (by omega)
  rw [h]; simp
theorem bet_same (c : SD) (lo p : Nat) : ∀ d : Nat, (∀ m, p ≤ m → m < p + d → matchV c m = false) → bet c lo (p + d) = bet c lo p
  | 0, _ => rfl
  | d + 1, h => by
    rw [← Nat.add_assoc, bet_succ, bet_same c lo p d (fun m h1 h2 => h m h1 (by omega)), h (p + d) (by omega) (by omega)]
    simp
theorem bet_hit (c : SD) (lo p n : Nat) (hl : lo ≤ p) (hp : p ≤ n) (hm : matchV c n = true) (h : ∀ m, p ≤ m → m < n → matchV c m = false) : bet c lo (n + 1) = bet c lo p ++ [n] := by
  have e : n = p + (n - p) := by omega
  rw [bet_succ, e, bet_same c lo p (n - p) (fun m h1 h2 => h m h1 (by omega)), ← e, hm, decide_eq_true (show lo ≤ n by omega)]
  simp
theorem bet_end (c : SD) (lo p q : Nat) (hp : p ≤ q) (h : ∀ m, p ≤ m → m < q → matchV c m = false) : bet c lo q = bet c lo p := by
  have e : q = p + (q - p) := by omega
  rw [e]
  exact bet_same c lo p (q - p) (fun m h1 h2 => h m h1 (by omega))
theorem bet_pre (c : SD) (lo p : Nat) : ∀ d : Nat, ∃ rest, bet c lo (p + d) = bet c lo p ++ rest
  | 0 => ⟨[], by simp⟩
  | d + 1 => by
    obtain ⟨r, hr⟩ := bet_pre c lo p d
    exact ⟨_, by rw [← Nat.add_assoc, bet_succ, hr, List.append_assoc]⟩
theorem bet_len (c : SD) (lo p : Nat) (hl : lo ≤ p) : (bet c lo p).length ≤ p - lo := by
  induction p with
  | zero => simp [bet]
  | succ p ih =>
    rcases Nat.lt_or_ge p lo with h | h
    · obtain rfl : lo = p + 1 := by omega
      rw [bet_start]; simp
    · have := ih h
      rw [bet_succ, List.length_append]
      split <;> simp <;> omega
theorem bet_parts (c : SD) (lo mid hi : Nat) (h1 : lo ≤ mid) (h2 : mid ≤ hi) : bet c lo hi = bet c lo mid ++ bet c mid hi := by
  induction hi with
  | zero =>
    obtain rfl : mid = 0 := by omega
    rw [bet_start c 0]; simp
  | succ k ih =>
    rcases Nat.lt_or_ge k mid with h | h
    · obtain rfl : mid = k + 1 := by omega
      rw [bet_start]; simp
    · rw [bet_succ, ih h, bet_succ c mid, decide_eq_true (show lo ≤ k by omega), decide_eq_true h, List.append_assoc]

def encN (m : Nat) : List Value := [.int .i64 m]
theorem encN_len (m : Nat) : (encN m).length = 1 := rfl
theorem encN_one : ∀ x, ∀ u ∈ encN x, u.oneCell' = true := fun x u hu => by simp [encN] at hu; subst hu; rfl
theorem info_intN : (Tryd.prog.info? 3).map (fun i => (i.zero, i.size, i.bytes)) = some (some (.int .i64 0), 1, 8) := by kernel_rfl

/-- what Between tells -/
def BetPost (c : SD) (f t : Int) (w : World) (e : Ending) (w' : World) : Prop :=
  ((∃ (lo hi : Nat) (A : Option Addr) (cap : Nat), c.right = true ∧ f = (lo : Int) - 1 ∧ t = (hi : Int) ∧ lo ≤ hi + 1 ∧ hi < 2147483648 ∧ (bet c lo (hi + 1)).length ≤ 10000 ∧ e = .returned (.tuple #[.slice A (bet c lo (hi + 1)).length cap, .int .i64 0]) ∧ OwnK 3 1 encN w' A cap (bet c lo (hi + 1)) ∧ (∀ b ∈ fpo A, w.heap.size ≤ b)) ∨
    (e = .returned (.tuple #[.slice none 0 0, .int .i64 30]) ∧ (c.right = false ∨ t < f ∨ f < -1 ∨ t < 0 ∨ 2147483648 ≤ t ∨ ∃ lo hi : Nat, f = (lo : Int) - 1 ∧ t = (hi : Int) ∧ 10000 < (bet c lo (hi + 1)).length))) ∧ Touch [] w w'

set_option maxRecDepth 100000 in
set_option maxHeartbeats 6400000 in
theorem between_any (c : SD) (hc : c.Ok) (f t : Int) (hf : -9223372036854775808 ≤ f ∧ f ≤ 9223372036854775807) (w : World) (hG : Gc w) :
    Calls Tryd.prog 18 #[c.val, .int .i64 f, .int .i64 t] w (BetPost c f t w) := by
  have t0 := (Touch.refl [] w).alloc (.cells c.row 27)
  have hS := specAt_new w c
  have hch := check_any c hc (w.alloc (.cells c.row 27)) (hG.touch0 t0)
  have HG := Lib.hid (hG.touch0 t0)
  have Hbad := Lib.hid (fun w' (tt : Touch [] w w') h => (show BetPost c f t w (.returned (.tuple #[.slice none 0 0, .int .i64 30])) w' from ⟨.inr ⟨rfl, h⟩, tt⟩))
  unfold SD.val SD.row at *
  have Hch := Lib.hid hch; have HS := Lib.hid hS
  rcases hr : c.right with _ | _
  · obtain ⟨e1, e2⟩ := SD.err_ne hr
    have Hr := Lib.hid hr
    clear hch hG hS hr
    go_enter Tryd.func18, Tryd.ntmps18
    go_wp2_with fail
    refine Hch.out.mono ?_
    rintro e w1 ⟨rfl, t1⟩
    go_wp2_with fail
    go_ret2
    exact Hbad.out _ (t0.trans0 t1) (.inl Hr.out)
  obtain ⟨e1, e2⟩ := SD.err_eq hr
  have Hr := Lib.hid hr
  clear hch hG hS hr
  by_cases h1 : t < f
  · go_enter Tryd.func18, Tryd.ntmps18
    go_wp2_with fail
    refine Hch.out.mono ?_
    rintro e w1 ⟨rfl, t1⟩
    go_wp2_with fail
    go_ret2
    exact Hbad.out _ (t0.trans0 t1) (.inr (.inl h1))
  by_cases h2 : f < -1
  · go_enter Tryd.func18, Tryd.ntmps18
    go_wp2_with fail
    refine Hch.out.mono ?_
    rintro e w1 ⟨rfl, t1⟩
    go_wp2_with fail
    go_ret2
    exact Hbad.out _ (t0.trans0 t1) (.inr (.inr (.inl h2)))
  by_cases h3 : t < 0
  · go_enter Tryd.func18, Tryd.ntmps18
    go_wp2_with fail
    refine Hch.out.mono ?_
    rintro e w1 ⟨rfl, t1⟩
    go_wp2_with fail
    go_ret2
    exact Hbad.out _ (t0.trans0 t1) (.inr (.inr (.inr (.inl h3))))
  by_cases h4 : 2147483648 ≤ t
  · go_enter Tryd.func18, Tryd.ntmps18
    go_wp2_with fail
    refine Hch.out.mono ?_
    rintro e w1 ⟨rfl, t1⟩
    go_wp2_with fail
    go_ret2
    exact Hbad.out _ (t0.trans0 t1) (.inr (.inr (.inr (.inr (.inl h4)))))
  obtain ⟨hi, rfl⟩ := Int.eq_ofNat_of_zero_le (show 0 ≤ t by omega)
  obtain ⟨lo, hlo⟩ := Int.eq_ofNat_of_zero_le (show 0 ≤ f + 1 by omega)
  obtain rfl : f = (lo : Int) - 1 := by omega
  have hlh : lo ≤ hi + 1 := by omega
  have hhi : hi < 2147483648 := by omega
  clear hf h1 h2 h3 h4 hlo
  have hN : ∀ p : Nat, p ≤ hi + 1 → ∀ w', Gc w' → Calls Tryd.prog 17 #[c.val, .int .i64 ((p : Int) - 1)] w' fun e w'' => ((∃ n : Nat, e = .returned (.tuple #[.int .i64 n, .bool true]) ∧ p ≤ n ∧ n < 2147483648 ∧ matchV c n = true ∧ ∀ m, p ≤ m → m < n → matchV c m = false) ∨
      (e = .returned (.tuple #[.int .i64 0, .bool false]) ∧ ∀ m, p ≤ m → m < 2147483648 → matchV c m = false)) ∧ Touch [] w' w'' := fun p hp w' hG' => by
    by_cases hpe : p = 2147483648
    · refine (next_end c hc ((p : Int) - 1) (by omega) w' hG' Hr.out).mono ?_
      rintro e w'' ⟨rfl, t⟩
      exact ⟨.inr ⟨rfl, fun m h1 h2 => by omega⟩, t⟩
    · exact next_any c hc ((p : Int) - 1) (by omega) (by omega) p (by omega) w' hG' Hr.out
  unfold SD.val SD.row at hN
  have HN := Lib.hid hN
  have Hlen := Lib.hid (bet_len c lo)
  have Hst := Lib.hid (bet_start c lo)
  clear hN
  go_enter Tryd.func18, Tryd.ntmps18
  go_wp2_with fail
  refine Hch.out.mono ?_
  rintro e w1 ⟨rfl, t1⟩
  go_wp2_with fail
  have T1 := t0.trans0 t1
  go_loopw [8, 9] (fun out at' wr => ∃ (p : Nat) (l : List Nat) (A : Option Addr) (cap n : Nat), n = l.length ∧ Hid (l = bet c lo p) ∧ out = .slice A n cap ∧ at' = .int .i64 ((p : Int) - 1) ∧ lo ≤ p ∧ p ≤ hi + 1 ∧ n ≤ 10000 ∧ Hid (OwnK 3 1 encN wr A cap l) ∧ Hid (∀ b ∈ fpo A, w1.heap.size ≤ b) ∧ Touch [] w1 wr) (fun _ at' _ => 2147483650 - (intOf at' + 1).toNat)
  case atStart => exact ⟨lo, [], none, 0, 0, rfl, Lib.hid Hst.out.symm, rfl, rfl, Nat.le_refl _, hlh, by omega, Lib.hid (OwnK.nil _ _ _ _), Lib.hid (by simp [fpo]), Touch.refl _ _⟩
  case round =>
    obtain ⟨p, l, A, cap, n, hn, hl, rfl, rfl, hp1, hp2, hn4, hown, hA, ht⟩ := hrel
    obtain ⟨s0, s1, s2, s3, s4, a0, a1, a2, a3, a4⟩ := (HS.out.touch0 t1).touch0 ht
    have Hn := Lib.hid hn
    clear hn
    go_wp2_with fail
    refine (HN.out p hp2 _ (HG.out.touch0 (t1.trans0 ht))).mono ?_
    rintro e w2 ⟨⟨m, rfl, g1, g2, g3, g4⟩ | ⟨rfl, g4⟩, t2⟩
    · clear s0 s1 s2 s3 s4 a0 a1 a2 a3 a4
      by_cases hm : hi < m
      · have he : l = bet c lo (hi + 1) := by rw [hl.out, bet_end c lo p (hi + 1) hp2 (fun k h1 h2 => g4 k h1 (by omega))]
        have He := Lib.hid he
        clear he g3 g4
        go_wp2_with fail
        go_ret2
        refine ⟨.inl ⟨lo, hi, A, cap, Hr.out, rfl, rfl, hlh, hhi, by rw [← He.out, ← Hn.out]; exact hn4, ?_, ?_, fun b hb => by have := hA.out b hb; have := T1.size; omega⟩, (T1.trans0 ht).trans0 t2⟩
        · show Ending.returned (.tuple #[.slice A n cap, .int .i64 0]) = _
          rw [← He.out, ← Hn.out]
        · rw [← He.out]; exact hown.out.touch0 t2
      · have he : bet c lo (m + 1) = l ++ [m] := by rw [hl.out, bet_hit c lo p m hp1 g1 g3 g4]
        have He := Lib.hid he
        clear he g3 g4
        by_cases hf : n = 10000
        · have hbig : 10000 < (bet c lo (hi + 1)).length := by
            obtain ⟨rest, hrest⟩ := bet_pre c lo (m + 1) (hi - m)
            rw [show m + 1 + (hi - m) = hi + 1 by omega, He.out] at hrest
            rw [hrest, List.length_append, List.length_append, ← Hn.out, List.length_singleton]
            omega
          have Hbig := Lib.hid hbig
          clear hbig
          subst hf
          go_wp2_with fail
          go_ret2
          exact Hbad.out _ ((T1.trans0 ht).trans0 t2) (.inr (.inr (.inr (.inr (.inr ⟨lo, hi, rfl, rfl, Hbig.out⟩)))))
        · have hne : ((n : Int) == 10000) = false := by rw [beq_eq_false_iff_ne]; omega
          have ta := (Touch.refl [] w2).alloc (.cells #[.int .i64 (m : Nat)] 3)
          have hownV := (hown.out.touch0 t2).touch0 ta
          have hrdV := RdK.one (enc := encN) w2 3 m #[.int .i64 (m : Nat)] rfl
          have Hown := Lib.hid hownV; have Hrd := Lib.hid hrdV
          clear hownV hrdV hown
          go_wp2_with (at_builtin; refine wpList_appK rfl (.tmp 50) (.tmp 52) 46 rfl 3 (.int .i64 0) 1 8 info_intN Tryd.underlying46 rfl (by omega) encN_len encN_one A n cap l Hn.out.symm rfl Hown.out (some ⟨w2.heap.size, 0, none⟩) 1 1 [m] rfl rfl Hrd.out (by omega) (by omega) ?_; refine stop ?_)
          refine go ?_
          intro A3 c3 w3 hown3 ht3 hf3
          have tt : Touch [] w1 w3 := ((ht.trans0 t2).trans0 ta).trans ht3 (fun b hb => .inr (hA.out b hb))
          go_wp2_with fail
          go_roundw
          case rel => exact ⟨m + 1, l ++ [m], A3, c3, n + 1, by rw [List.length_append, ← Hn.out]; rfl, Lib.hid He.out.symm, rfl, by go_num, by omega, by omega, by omega, Lib.hid hown3, Lib.hid (fun b hb => by
            rcases hf3 b hb with e | e
            · exact hA.out b e
            · have h1 := (ht.trans0 t2).size
              try rw [World.size_alloc] at e
              omega), tt⟩
          case measure => simp [intOf]; omega
    · have he : l = bet c lo (hi + 1) := by rw [hl.out, bet_end c lo p (hi + 1) hp2 (fun k h1 h2 => g4 k h1 (by omega))]
      have He := Lib.hid he
      clear he g4
      go_wp2_with fail
      go_ret2
      refine ⟨.inl ⟨lo, hi, A, cap, Hr.out, rfl, rfl, hlh, hhi, by rw [← He.out, ← Hn.out]; exact hn4, ?_, ?_, fun b hb => by have := hA.out b hb; have := T1.size; omega⟩, (T1.trans0 ht).trans0 t2⟩
      · show Ending.returned (.tuple #[.slice A n cap, .int .i64 0]) = _
        rw [← He.out, ← Hn.out]
      · rw [← He.out]; exact hown.out.touch0 t2
end Go.Proofs.YtoabloeechphkaaDoor
