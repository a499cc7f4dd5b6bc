/- bywashlaw16.wrong: the error's number. For every list of needs. -/
import Derived.Test.YtmehdlflhllhdaaGrB2
import Derived.Test.YtmehdlflhllhdaaGrA
namespace Go.Proofs.Ytmehdlflhllhdaa
open Go.RowKit

open Classical in
/-- the error's number, as the document says -/
noncomputable def wrongV (n : Int) (ls : List (List Int)) : Int :=
  if n < 0 ∨ 1024 < n ∨ n < ls.length then 30 else if ls.all (allN n.toNat) = false then 30 else if Ring (nsL n.toNat ls) then 53 else 0
theorem wrongV_range {n : Int} {ls : List (List Int)} (h : n < 0 ∨ 1024 < n ∨ n < ls.length) : wrongV n ls = 30 := by unfold wrongV; rw [if_pos h]
theorem wrongV_bad {n : Nat} {ls : List (List Int)} {l : List Int} (hl : l ∈ ls) (h : allN n l = false) : wrongV n ls = 30 := by
  unfold wrongV
  split
  · rfl
  · rw [if_pos]
    rw [List.all_eq_false]
    exact ⟨l, hl, by rw [Int.toNat_natCast, h]; simp⟩
theorem wrongV_in {n : Nat} {ls : List (List Int)} (h1 : n ≤ 1024) (h2 : ls.length ≤ n) (ha : ∀ l ∈ ls, allN n l = true) : (Ring (nsL n ls) → wrongV n ls = 53) ∧ (¬ Ring (nsL n ls) → wrongV n ls = 0) := by
  have e1 : ¬ ((n : Int) < 0 ∨ 1024 < (n : Int) ∨ (n : Int) < ls.length) := by omega
  have e2 : ¬ (ls.all (allN (n : Int).toNat) = false) := by
    rw [Int.toNat_natCast]
    simp only [Bool.not_eq_false, List.all_eq_true]
    exact ha
  unfold wrongV
  rw [if_neg e1, if_neg e2, Int.toNat_natCast]
  exact ⟨fun h => by rw [if_pos h], fun h => by rw [if_neg h]⟩
theorem wrongV_zero {n : Int} {ls : List (List Int)} (h : wrongV n ls = 0) : ∃ m : Nat, n = m ∧ m ≤ 1024 ∧ ls.length ≤ m ∧ (∀ l ∈ ls, allN m l = true) ∧ ¬ Ring (nsL m ls) := by
  unfold wrongV at h
  split at h
  · cases h
  · rename_i h1
    split at h
    · cases h
    · rename_i h2
      split at h
      · cases h
      · rename_i h3
        refine ⟨n.toNat, by omega, by omega, by omega, ?_, h3⟩
        simpa [List.all_eq_true] using h2

/-- the table is the graph's -/
theorem tE_edge {n : Nat} {ls : List (List Int)} (hl : ls.length ≤ n) (ha : ∀ l ∈ ls, allN n l = true) : tE ls = edge (nsL n ls) := by
  funext a b
  unfold tE edge hasL
  rw [nsOf_nsL n ls hl, decide_eq_decide]
  exact (mem_rowU (allN_getD ha a) b).symm
theorem tab_way {n : Nat} {ls : List (List Int)} (hl : ls.length ≤ n) (ha : ∀ l ∈ ls, allN n l = true) (a b : Nat) : tabP (tE ls) n a b = true ↔ Way (edge (nsL n ls)) a b := by
  rw [tE_edge hl ha]
  refine tabP_way _ n (fun a b he => ?_) a b
  have := nsL_lt hl ha a b (of_decide_eq_true he)
  rwa [nsL_length] at this

set_option maxRecDepth 20000 in
set_option maxHeartbeats 4000000 in
theorem wrong_any (n : Int) (A : Option Addr) (c m : Nat) (ls : List (List Int)) (hm : ls.length = m) (hl : m ≤ 2000000000) (w : World) (h : InR w A ls) (hb : ∀ l ∈ ls, l.length ≤ 2000000000) :
    Calls Try.prog 12 #[.int .i64 n, .slice A m c] w fun e w' => e = .returned (.int .i64 (wrongV n ls)) ∧ Touch [] w w' := by
  subst hm
  by_cases h1 : n < 0
  · have Hw := Lib.hid (wrongV_range (ls := ls) (.inl h1))
    rw [Hw.out]
    go_enter Try.func12, Try.ntmps12
    go_wp2
    go_ret
    exact ⟨rfl, Touch.refl _ _⟩
  · have h1' : (n < 0) = False := by simpa using h1
    by_cases h2 : 1024 < n
    · have Hw := Lib.hid (wrongV_range (ls := ls) (.inr (.inl h2)))
      rw [Hw.out]
      go_enter Try.func12, Try.ntmps12
      go_wp2
      go_ret
      exact ⟨rfl, Touch.refl _ _⟩
    · have h2' : (1024 < n) = False := by simpa using h2
      by_cases h3 : n < (ls.length : Int)
      · have Hw := Lib.hid (wrongV_range (ls := ls) (.inr (.inr h3)))
        rw [Hw.out]
        go_enter Try.func12, Try.ntmps12
        go_wp2
        go_ret
        exact ⟨rfl, Touch.refl _ _⟩
      · obtain ⟨N, rfl⟩ : ∃ N : Nat, n = N := ⟨n.toNat, by omega⟩
        have h3' : ((N : Int) < (ls.length : Int)) = False := by simpa using h3
        have hN : N ≤ 1024 := by omega
        have hlN : ls.length ≤ N := by omega
        have hB := refBelow_any N (by omega) A c ls.length ls rfl hl w h hb
        have HB := Lib.hid hB
        have Hb := Lib.hid hb
        obtain ⟨V, hV⟩ : ∃ V, V = wrongV N ls := ⟨_, rfl⟩
        have HV := Lib.hid hV
        rw [← hV]
        clear hB hb hV
        go_enter Try.func12, Try.ntmps12
        go_wp2
        go_loop [25] (fun x => ∃ i : Nat, i ≤ ls.length ∧ x = .int .i64 i ∧ Hid (∀ l ∈ ls.take i, allN N l = true)) (fun x => ls.length - (intOf x).toNat)
        case atStart => exact ⟨0, by omega, rfl, Lib.hid (by simp)⟩
        case round =>
          obtain ⟨i, hi, rfl, Hall⟩ := hrel
          by_cases hlt : i < ls.length
          · obtain ⟨ad, A', c', rfl, hc, _, hrd⟩ := h.at_ i hlt
            have Hs := Lib.hid (List.take_succ_eq_append_getElem hlt)
            have Hmem := Lib.hid (List.getElem_mem hlt)
            have hql := Hb.out _ (List.getElem_mem hlt)
            obtain ⟨l, hle⟩ : ∃ l, l = ls[i] := ⟨_, rfl⟩
            rw [← hle] at hc hrd Hs Hmem hql
            clear hle
            go_wp2
            go_loop [31] (fun x => ∃ j : Nat, j ≤ l.length ∧ x = .int .i64 j ∧ Hid ((l.take j).all (nodeB N) = true)) (fun x => l.length - (intOf x).toNat)
            case atStart => exact ⟨0, by omega, rfl, Lib.hid (by simp)⟩
            case round =>
              obtain ⟨j, hj, rfl, Hj⟩ := hrel
              by_cases hjl : j < l.length
              · obtain ⟨ad2, rfl, hcx⟩ := hrd.at_ j hjl
                have Hs2 := Lib.hid (List.take_succ_eq_append_getElem hjl)
                have Hmx := Lib.hid (List.getElem_mem hjl)
                obtain ⟨x, hx⟩ : ∃ x, x = l[j] := ⟨_, rfl⟩
                rw [← hx] at hcx Hs2 Hmx
                clear hx
                by_cases hx0 : x < 0
                · have Hq : Hid (V = 30) := Lib.hid (by rw [HV.out]; exact wrongV_bad Hmem.out (by unfold allN; rw [List.all_eq_false]; exact ⟨x, Hmx.out, by unfold nodeB; simp; omega⟩))
                  go_wp2
                  go_ret
                  exact ⟨ret_int Hq.out.symm, Touch.refl _ _⟩
                · have hx0' : (x < 0) = False := by simpa using hx0
                  by_cases hx1 : (N : Int) ≤ x
                  · have Hq : Hid (V = 30) := Lib.hid (by rw [HV.out]; exact wrongV_bad Hmem.out (by unfold allN; rw [List.all_eq_false]; exact ⟨x, Hmx.out, by unfold nodeB; simp; omega⟩))
                    go_wp2
                    go_ret
                    exact ⟨ret_int Hq.out.symm, Touch.refl _ _⟩
                  · have hx1' : ((N : Int) ≤ x) = False := by simpa using hx1
                    have Hok : Hid (nodeB N x = true) := Lib.hid (nodeB_iff.2 (by omega))
                    go_wp2
                    go_round
                    case rel => exact ⟨j + 1, by omega, by go_num, Lib.hid (by rw [Hs2.out, List.all_append, Hj.out]; simp [Hok.out])⟩
                    case measure => simp [intOf]; omega
              · obtain rfl : j = l.length := by omega
                have Hal : Hid (allN N l = true) := Lib.hid (by have := Hj.out; rwa [List.take_length] at this)
                go_wp2
                go_round
                case rel => exact ⟨i + 1, by omega, by go_num, Lib.hid (by
                  rw [Hs.out]; intro l2 hl2
                  rcases List.mem_append.1 hl2 with q | q
                  · exact Hall.out l2 q
                  · simp only [List.mem_singleton] at q; subst q; exact Hal.out)⟩
                case measure => simp [intOf]; omega
          · obtain rfl : i = ls.length := by omega
            have HA : Hid (∀ l ∈ ls, allN N l = true) := Lib.hid (by have := Hall.out; rwa [List.take_length] at this)
            go_wp2_with fail
            refine HB.out.mono ?_
            rintro e w1 ⟨B, d, bs, rfl, hT⟩
            have HT := Lib.hid hT
            clear hT HB
            go_wp2_with fail
            go_loop [48] (fun x => ∃ j : Nat, j ≤ N ∧ x = .int .i64 j ∧ Hid (∀ a, a < j → tabP (tE ls) N a a = false)) (fun x => N - (intOf x).toNat)
            case atStart => exact ⟨0, by omega, rfl, Lib.hid (fun a ha => absurd ha (Nat.not_lt_zero _))⟩
            case round =>
              obtain ⟨j, hj, rfl, Hj⟩ := hrel
              by_cases hjl : j < N
              · obtain ⟨G, rfl, ca, ra⟩ := HT.out.tab.at_ j (by rw [HT.out.len]; exact hjl)
                have cj := ra j hjl
                obtain ⟨bb, hbb⟩ : ∃ bb, bb = bs[j]'(by rw [HT.out.len]; exact hjl) := ⟨_, rfl⟩
                rw [← hbb] at ca cj
                clear ra hbb
                rcases hv : tabP (tE ls) N j j with _ | _
                · rw [hv] at cj
                  have Hn : Hid (∀ a, a < j + 1 → tabP (tE ls) N a a = false) := Lib.hid (fun a ha => by
                    rcases Nat.lt_or_ge a j with q | q
                    · exact Hj.out a q
                    · obtain rfl : a = j := by omega
                      exact hv)
                  clear hv
                  go_wp2
                  go_round
                  case rel => exact ⟨j + 1, by omega, by go_num, Hn⟩
                  case measure => simp [intOf]; omega
                · rw [hv] at cj
                  have Hq : Hid (V = 53) := Lib.hid (by
                    rw [HV.out]
                    exact (wrongV_in hN hlN HA.out).1 ⟨j, by rw [nsL_length]; exact hjl, (tab_way hlN HA.out j j).1 hv⟩)
                  clear hv
                  go_wp2
                  go_ret
                  exact ⟨ret_int Hq.out.symm, HT.out.t⟩
              · obtain rfl : j = N := by omega
                have Hq : Hid (V = 0) := Lib.hid (by
                  rw [HV.out]
                  refine (wrongV_in hN hlN HA.out).2 (fun ⟨a, ha, w⟩ => ?_)
                  rw [nsL_length] at ha
                  have := (tab_way hlN HA.out a a).2 w
                  rw [Hj.out a ha] at this; cases this)
                go_wp2
                go_ret
                exact ⟨ret_int Hq.out.symm, HT.out.t⟩
end Go.Proofs.Ytmehdlflhllhdaa
