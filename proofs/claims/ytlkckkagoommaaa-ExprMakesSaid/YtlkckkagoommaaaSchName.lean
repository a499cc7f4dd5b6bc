/- schema.letter, inner, Name; bywashref02.Name: is it a right name? For every text. -/
import Derived.Test.YtlkckkagoommaaaSchP
namespace Go.Proofs.Ytlkckkagoommaaa
open Go.RowKit

theorem S_get (t : List UInt8) (k : Nat) (h : k < (S t).size) : (S t)[k] = t[k]'(by rwa [S_size] at h) := rfl

theorem letter_any (x : UInt8) (w : World) : Calls Try.prog 77 #[.int .u8 x.toNat] w fun e w' => e = .returned (.bool (letB x)) ∧ w = w' := by
  have hx := x.toNat_lt
  go_enter Try.func77, Try.ntmps77
  go_wp2
  all_goals
    go_ret
    exact ⟨ret_bool (by rw [Bool.eq_iff_iff]; simp [letB]; omega), rfl⟩

theorem inner_any (x : UInt8) (w : World) : Calls Try.prog 78 #[.int .u8 x.toNat] w fun e w' => e = .returned (.bool (innB x)) ∧ w = w' := by
  have hx := x.toNat_lt
  rcases hl : letB x with _ | _
  · have hc := letter_any x w
    rw [hl] at hc
    have Hc := Lib.hid hc; have Hl := Lib.hid hl; clear hc hl
    go_enter Try.func78, Try.ntmps78
    go_wp2_with (go_at_call 77; refine Hc.out.mono ?_; rintro e w' ⟨rfl, rfl⟩)
    all_goals
      go_ret
      exact ⟨ret_bool (by rw [Bool.eq_iff_iff]; simp [innB, Hl.out]; omega), rfl⟩
  · have hc := letter_any x w
    rw [hl] at hc
    have Hc := Lib.hid hc; have Hl := Lib.hid hl; clear hc hl
    go_enter Try.func78, Try.ntmps78
    go_wp2_with (go_at_call 77; refine Hc.out.mono ?_; rintro e w' ⟨rfl, rfl⟩)
    all_goals
      go_ret
      exact ⟨ret_bool (by rw [Bool.eq_iff_iff]; simp [innB, Hl.out]), rfl⟩

theorem nameV_cons (c : UInt8) (r : List UInt8) : nameV (c :: r) = (decide ((c :: r).length ≤ 16) && (letB c && (c :: r).all innB)) := rfl
theorem letB_int (x : UInt8) : letB x = (decide (97 ≤ (x.toNat : Int)) && decide ((x.toNat : Int) ≤ 122)) := by
  unfold letB
  congr 1 <;> exact decide_eq_decide.2 (by omega)
theorem innB_int (x : UInt8) : innB x = (letB x || (decide ((x.toNat : Int) = 95) || (decide (48 ≤ (x.toNat : Int)) && decide ((x.toNat : Int) ≤ 57)))) := by
  unfold innB
  congr 1; congr 1
  · exact decide_eq_decide.2 (by omega)
  · congr 1 <;> exact decide_eq_decide.2 (by omega)
/-- a byte that spoils a name -/
theorem nameV_bad {t : List UInt8} {k : Nat} (h : k < t.length) (hb : innB t[k] = false) : nameV t = false := by
  cases t with
  | nil => rfl
  | cons c r =>
    have : (c :: r).all innB = false := by
      rw [List.all_eq_false]
      exact ⟨_, List.getElem_mem h, by rw [hb]; simp⟩
    rw [nameV_cons, this, Bool.and_false, Bool.and_false]

set_option maxRecDepth 20000 in
set_option maxHeartbeats 1600000 in
theorem name_any (t : List UInt8) (hs : t.length ≤ 140737000000000) (w : World) :
    Calls Try.prog 61 #[.string (S t)] w fun e w' => e = .returned (.bool (nameV t)) ∧ Touch [] w w' := by
  have hsz := S_size t
  by_cases h0 : t = []
  · subst h0
    go_enter Try.func61, Try.ntmps61
    have h1 : (S []).toList = [] := by rw [S_list]
    go_wp2
    go_ret
    exact ⟨rfl, Touch.refl _ _⟩
  · have hl0 : 0 < t.length := List.length_pos_iff.2 h0
    have hq : (S t).toList.isEmpty = false := by rw [S_list]; cases t; exact absurd rfl h0; rfl
    have hq2 : ((S t).toList == []) = false := by rw [S_list]; cases t; exact absurd rfl h0; rfl
    have hq3 : ((S t).toList = []) = False := eq_false (by rw [S_list]; exact h0)
    by_cases h16 : 16 < t.length
    · have hn : nameV t = false := by
        cases t with
        | nil => rfl
        | cons c r => rw [nameV_cons, decide_eq_false (by omega)]; rfl
      have Hn := Lib.hid hn; clear hn h0
      go_enter Try.func61, Try.ntmps61
      go_wp2
      go_ret
      exact ⟨ret_bool Hn.out.symm, Touch.refl _ _⟩
    have hg0 := S_get t 0 (by rw [hsz]; exact hl0)
    obtain ⟨x, hx⟩ : ∃ x, x = t[0] := ⟨_, rfl⟩
    rw [← hx] at hg0
    have Hx := Lib.hid hx; clear hx
    have hc := letter_any x w
    rcases hl : letB x with _ | _
    · have hn : nameV t = false := by
        cases t with
        | nil => rfl
        | cons c r =>
          have : x = c := Hx.out
          rw [nameV_cons, ← this, hl, Bool.false_and, Bool.and_false]
      rw [hl] at hc
      have Hn := Lib.hid hn; have Hc := Lib.hid hc; clear hn h0 hl hc
      go_enter Try.func61, Try.ntmps61
      go_wp2_with (go_at_call 77; refine Hc.out.mono ?_; rintro e w' ⟨rfl, rfl⟩)
      go_ret
      exact ⟨ret_bool Hn.out.symm, Touch.refl _ _⟩
    · rw [hl] at hc
      have Hc := Lib.hid hc; have Hl := Lib.hid hl; clear hl hc h0
      go_enter Try.func61, Try.ntmps61
      have hconv := run_bytes_of t w
      have hr := rd_bytes w t
      have ht := touch_bytes w t
      obtain ⟨W, hW⟩ : ∃ W, W = Lib.bytesWorld w 5 (S t) := ⟨_, rfl⟩
      rw [← hW] at hconv hr ht
      clear hW
      go_wp2_with (go_at_call 77; refine Hc.out.mono ?_; rintro e w' ⟨rfl, rfl⟩)
      clear hconv Hc hg0 hq hq2 hq3
      go_loop [21] (fun i => ∃ k : Nat, k ≤ t.length ∧ i = .int .i64 k ∧ Hid ((t.take k).all innB = true)) (fun i => t.length - (intOf i).toNat)
      case atStart => exact ⟨0, by omega, rfl, Lib.hid rfl⟩
      case round =>
        obtain ⟨k, hk, rfl, hall⟩ := hrel
        by_cases hlt : k < t.length
        · obtain ⟨ad, e1, hcell⟩ := hr.at_ k hlt
          obtain rfl : ⟨w.heap.size, 0, none⟩ = ad := by injection e1
          obtain ⟨y, hy⟩ : ∃ y, y = t[k] := ⟨_, rfl⟩
          have hadd : (⟨w.heap.size, 0, none⟩ : Addr).add k = ⟨w.heap.size, k, none⟩ := by unfold Addr.add; split <;> simp_all
          rw [← hy, hadd] at hcell
          have Hy := Lib.hid hy; clear hy e1 hadd
          have hc := inner_any y W
          rcases hl : innB y with _ | _
          · rw [hl] at hc
            have Hc := Lib.hid hc; clear hc
            have Hn := Lib.hid (nameV_bad hlt (by rw [← Hy.out]; exact hl)); clear hl
            go_wp2_with (go_at_call 78; refine Hc.out.mono ?_; rintro e w' ⟨rfl, rfl⟩)
            go_ret
            exact ⟨ret_bool Hn.out.symm, ht⟩
          · rw [hl] at hc
            have Hc := Lib.hid hc; have Hl2 := Lib.hid hl; clear hc hl
            go_wp2_with (go_at_call 78; refine Hc.out.mono ?_; rintro e w' ⟨rfl, rfl⟩)
            go_round
            case rel => exact ⟨k + 1, by omega, by go_num, Lib.hid (by
              rw [List.take_succ_eq_append_getElem hlt, List.all_append, hall.out, ← Hy.out]
              simp [Hl2.out])⟩
            case measure => simp [intOf]; omega
        · obtain rfl : k = t.length := by omega
          go_wp2
          go_ret
          refine ⟨ret_bool (Eq.symm ?_), ht⟩
          have h := hall.out
          rw [List.take_length] at h
          cases t with
          | nil => simp at hl0
          | cons c r =>
            have e : x = c := Hx.out
            subst e
            rw [nameV_cons, h, Hl.out, decide_eq_true (by omega)]; rfl

end Go.Proofs.Ytlkckkagoommaaa
