/- expr.fit: do types fit a rule? For all lists of types of one length. -/
import Derived.Test.YtlkckkagoommaaaRules
namespace Go.Proofs.Ytlkckkagoommaaa
open Go.RowKit

theorem fitL_drop (ws ts : List Int) (both : Int) (k : Nat) (h1 : k < ws.length) (h2 : k < ts.length) :
    fitL (ws.drop k) (ts.drop k) both = (if ts[k] = 0 ∨ ws[k] = 0 then fitL (ws.drop (k + 1)) (ts.drop (k + 1)) both
      else if ws[k] ≠ -1 ∧ ws[k] ≠ ts[k] ∨ ws[k] = -1 ∧ both ≠ 0 ∧ both ≠ ts[k] then (0, false)
      else if ws[k] = -1 then fitL (ws.drop (k + 1)) (ts.drop (k + 1)) ts[k] else fitL (ws.drop (k + 1)) (ts.drop (k + 1)) both) := by
  rw [List.drop_eq_getElem_cons h1, List.drop_eq_getElem_cons h2]; rfl

set_option maxRecDepth 20000 in
set_option maxHeartbeats 1600000 in
theorem fit_any (A B : Option Addr) (c1 c2 n : Nat) (ws ts : List Int) (hn : ws.length = n) (hm : ts.length = n) (w : World) (h : IntsAt w A ws) (h2 : IntsAt w B ts) (hl : n ≤ 140737000000000) :
    Calls Try.prog 67 #[.slice A n c1, .slice B n c2] w fun e w' => e = .returned (.tuple #[.int .i64 (fitL ws ts 0).1, .bool (fitL ws ts 0).2]) ∧ w' = w := by
  go_enter Try.func67, Try.ntmps67
  have Hn := Lib.hid hn; have Hm := Lib.hid hm
  clear hn hm
  go_wp2
  go_loop [6, 11] (fun b i => ∃ (k : Nat) (both : Int), k ≤ n ∧ i = .int .i64 k ∧ b = .int .i64 both ∧ Hid (fitL ws ts 0 = fitL (ws.drop k) (ts.drop k) both)) (fun _ i => n - (intOf i).toNat)
  case atStart => exact ⟨0, 0, by omega, rfl, rfl, Lib.hid rfl⟩
  case round =>
    obtain ⟨k, both, hk, rfl, rfl, He⟩ := hrel
    by_cases hlt : k < n
    · have hl1 : k < ws.length := by have := Hn.out; omega
      have hl2 : k < ts.length := by have := Hm.out; omega
      obtain ⟨ad, rfl, hc1⟩ := h.at_ k hl1
      obtain ⟨bd, rfl, hc2⟩ := h2.at_ k hl2
      have hst := fitL_drop ws ts both k hl1 hl2
      rw [← He.out] at hst
      obtain ⟨t, ht⟩ : ∃ t, t = ts[k] := ⟨_, rfl⟩
      obtain ⟨v, hv⟩ : ∃ v, v = ws[k] := ⟨_, rfl⟩
      rw [← ht] at hst hc2
      rw [← hv] at hst hc1
      have hkI : (k : Int) < (n : Int) := by omega
      clear ht hv He
      by_cases e1 : t = 0
      · have Hs := Lib.hid (show fitL ws ts 0 = fitL (ws.drop (k + 1)) (ts.drop (k + 1)) both by rw [hst, if_pos (.inl e1)])
        subst e1
        clear hst
        go_wp2
        go_round
        case rel => exact ⟨k + 1, both, by omega, by go_num, rfl, Hs⟩
        case measure => simp [intOf]; omega
      have b1 : (t == 0) = false := by simpa using e1
      by_cases e2 : v = 0
      · have Hs := Lib.hid (show fitL ws ts 0 = fitL (ws.drop (k + 1)) (ts.drop (k + 1)) both by rw [hst, if_pos (.inr e2)])
        subst e2
        clear hst e1
        go_wp2
        go_round
        case rel => exact ⟨k + 1, both, by omega, by go_num, rfl, Hs⟩
        case measure => simp [intOf]; omega
      have b2 : (v == 0) = false := by simpa using e2
      rw [if_neg (by rintro (h | h); exact e1 h; exact e2 h)] at hst
      by_cases e3 : v = -1
      · subst e3
        by_cases e4 : both = 0
        · have Hs := Lib.hid (show fitL ws ts 0 = fitL (ws.drop (k + 1)) (ts.drop (k + 1)) t by rw [hst, if_neg (by simp [e4]), if_pos rfl])
          subst e4
          clear hst e1 e2
          go_wp2
          go_round
          case rel => exact ⟨k + 1, t, by omega, by go_num, rfl, Hs⟩
          case measure => simp [intOf]; omega
        have b4 : (both != 0) = true := by simpa using e4
        by_cases e5 : both = t
        · have Hs := Lib.hid (show fitL ws ts 0 = fitL (ws.drop (k + 1)) (ts.drop (k + 1)) t by rw [hst, if_neg (by simp [e5]), if_pos rfl])
          subst e5
          clear hst e1 e2 e4
          go_wp2
          go_round
          case rel => exact ⟨k + 1, _, by omega, by go_num, rfl, Hs⟩
          case measure => simp [intOf]; omega
        · have b5 : (both != t) = true := by simpa using e5
          have Hs := Lib.hid (show fitL ws ts 0 = (0, false) by rw [hst, if_pos (.inr ⟨rfl, e4, e5⟩)])
          clear hst e1 e2 e4 e5
          go_wp2
          go_ret2
          exact ⟨by rw [Hs.out]; rfl, rfl⟩
      have b3 : (v == -1) = false := by simpa using e3
      have b3' : (v != -1) = true := by simpa using e3
      by_cases e6 : v = t
      · have Hs := Lib.hid (show fitL ws ts 0 = fitL (ws.drop (k + 1)) (ts.drop (k + 1)) both by rw [hst, if_neg (by simp [e6]; intro h; exact absurd (e6.trans h) e3), if_neg e3])
        subst e6
        clear hst e1 e2 e3
        go_wp2
        go_round
        case rel => exact ⟨k + 1, both, by omega, by go_num, rfl, Hs⟩
        case measure => simp [intOf]; omega
      · have b6 : (v != t) = true := by simpa using e6
        have Hs := Lib.hid (show fitL ws ts 0 = (0, false) by rw [hst, if_pos (.inl ⟨e3, e6⟩)])
        clear hst e1 e2 e3 e6
        go_wp2
        go_ret2
        exact ⟨by rw [Hs.out]; rfl, rfl⟩
    · obtain rfl : k = n := by omega
      have Hs := Lib.hid (show fitL ws ts 0 = (both, true) by rw [He.out, List.drop_of_length_le (by have := Hn.out; omega), List.drop_of_length_le (by have := Hm.out; omega)]; rfl)
      go_wp2
      go_ret2
      exact ⟨by rw [Hs.out]; rfl, rfl⟩
end Go.Proofs.Ytlkckkagoommaaa
