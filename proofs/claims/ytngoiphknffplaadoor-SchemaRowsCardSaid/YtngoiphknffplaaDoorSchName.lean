/- schema.letter, inner, Name; bywashref02.Name: is it a right name? For every text. -/
import Derived.Test.YtngoiphknffplaaDoorSchP
namespace Go.Proofs.YtngoiphknffplaaDoor
open Go.RowKit

theorem S_get (t : List UInt8) (k : Nat) (h : k < (S t).size) : (S t)[k] = t[k]'(by rwa [S_size] at h) := rfl

theorem letter_any (x : UInt8) (w : World) : Calls Tryd.prog 39 #[.int .u8 x.toNat] w fun e w' => e = .returned (.bool (letB x)) ∧ w = w' := by
  have hx := x.toNat_lt
  go_enter Tryd.func39, Tryd.ntmps39
  go_wp2
  all_goals
    go_ret
    exact ⟨ret_bool (by rw [Bool.eq_iff_iff]; simp [letB]; omega), rfl⟩

theorem inner_any (x : UInt8) (w : World) : Calls Tryd.prog 40 #[.int .u8 x.toNat] w fun e w' => e = .returned (.bool (innB x)) ∧ w = w' := by
  have hx := x.toNat_lt
  rcases hl : letB x with _ | _
  · have hc := letter_any x w
    rw [hl] at hc
    have Hc := Lib.hid hc; have Hl := Lib.hid hl; clear hc hl
    go_enter Tryd.func40, Tryd.ntmps40
    go_wp2_with (go_at_call 39; refine Hc.out.mono ?_; rintro e w' ⟨rfl, rfl⟩)
    all_goals
      go_ret
      exact ⟨ret_bool (by rw [Bool.eq_iff_iff]; simp [innB, Hl.out]; omega), rfl⟩
  · have hc := letter_any x w
    rw [hl] at hc
    have Hc := Lib.hid hc; have Hl := Lib.hid hl; clear hc hl
    go_enter Tryd.func40, Tryd.ntmps40
    go_wp2_with (go_at_call 39; refine Hc.out.mono ?_; rintro e w' ⟨rfl, rfl⟩)
    all_goals
      go_ret
      exact ⟨ret_bool (by rw [Bool.eq_iff_iff]; simp [innB, Hl.out]), rfl⟩

theorem nameV_cons (c : UInt8) (r : List UInt8) : nameV (c :: r) = (decide ((c :: r).length ≤ 16) && (letB c && (c :: r).all innB)) := rfl
theorem letB_int (x : UInt8) : letB x = (decide (97 ≤ (x.toNat : Int)) && decide ((x.toNat : Int) ≤ 122)) := by
  unfold letB
  congr 1 <;> exact decide_eq_decide.2 (by omega)
theorem innB_int (x : UInt8) : innB x = (letB x || (decide ((x.toNat : Int) = 95) || (decide (48 ≤ (x.toNat : Int)) && decide ((x.toNat : Int) ≤ 57)))) := by
  unfold innB
  congr 1; congr 1
  · exact decide_eq_decide.2 (by omega)
  · congr 1 <;> exact decide_eq_decide.2 (by omega)
/-- a byte that spoils a name -/
theorem nameV_bad {t : List UInt8} {k : Nat} (h : k < t.length) (hb : innB t[k] = false) : nameV t = false := by
  cases t with
  | nil => rfl
  | cons c r =>
    have : (c :: r).all innB = false := by
      rw [List.all_eq_false]
      exact ⟨_, List.getElem_mem h, by rw [hb]; simp⟩
    rw [nameV_cons, this, Bool.and_false, Bool.and_false]

set_option maxRecDepth 20000 in
set_option maxHeartbeats 1600000 in
theorem name_any (t : List UInt8) (hs : t.length ≤ 140737000000000) (w : World) :
    Calls Tryd.prog 20 #[.string (S t)] w fun e w' => e = .returned (.bool (nameV t)) ∧ Touch [] w w' := by
  have hsz := S_size t
  by_cases h0 : t = []
  · subst h0
    go_enter Tryd.func20, Tryd.ntmps20
    have h1 : (S []).toList = [] := by rw [S_list]
    go_wp2
    go_ret
    exact ⟨rfl, Touch.refl _ _⟩
  · have hl0 : 0 < t.length := List.length_pos_iff.2 h0
    have hq : (S t).toList.isEmpty = false := by rw [S_list]; cases t; exact absurd rfl h0; rfl
    have hq2 : ((S t).toList == []) = false := by rw [S_list]; cases t; exact absurd rfl h0; rfl
    have hq3 : ((S t).toList = []) = False := eq_false (by rw [S_list]; exact h0)
    by_cases h16 : 16 < t.length
    · have hn : nameV t = false := by
        cases t with
        | nil => rfl
        | cons c r => rw [nameV_cons, decide_eq_false (by omega)]; rfl
      have Hn := Lib.hid hn; clear hn h0
      go_enter Tryd.func20, Tryd.ntmps20
      go_wp2
      go_ret
      exact ⟨ret_bool Hn.out.symm, Touch.refl _ _⟩
    have hg0 := S_get t 0 (by rw [hsz]; exact hl0)
    obtain ⟨x, hx⟩ : ∃ x, x = t[0] := ⟨_, rfl⟩
    rw [← hx] at hg0
    have Hx := Lib.hid hx; clear hx
    have hc := letter_any x w
    rcases hl : letB x with _ | _
    · have hn : nameV t = false := by
        cases t with
        | nil => rfl
        | cons c r =>
          have : x = c := Hx.out
          rw [nameV_cons, ← this, hl, Bool.false_and, Bool.and_false]
      rw [hl] at hc
      have Hn := Lib.hid hn; have Hc := Lib.hid hc; clear hn h0 hl hc
      go_enter Tryd.func20, Tryd.ntmps20
      go_wp2_with (go_at_call 39; refine Hc.out.mono ?_; rintro e w' ⟨rfl, rfl⟩)
      go_ret
      exact ⟨ret_bool Hn.out.symm, Touch.refl _ _⟩
    · rw [hl] at hc
      have Hc := Lib.hid hc; have Hl := Lib.hid hl; clear hl hc h0
      go_enter Tryd.func20, Tryd.ntmps20
      have hconv := run_bytes_of t w
      have hr := rd_bytes w t
      have ht := touch_bytes w t
      obtain ⟨W, hW⟩ : ∃ W, W = Lib.bytesWorld w 5 (S t) := ⟨_, rfl⟩
      rw [← hW] at hconv hr ht
      clear hW
      go_wp2_with (go_at_call 39; refine Hc.out.mono ?_; rintro e w' ⟨rfl, rfl⟩)
      clear hconv Hc hg0 hq hq2 hq3
      go_loop [21] (fun i => ∃ k : Nat, k ≤ t.length ∧ i = .int .i64 k ∧ Hid ((t.take k).all innB = true)) (fun i => t.length - (intOf i).toNat)
      case atStart => exact ⟨0, by omega, rfl, Lib.hid rfl⟩
      case round =>
        obtain ⟨k, hk, rfl, hall⟩ := hrel
        by_cases hlt : k < t.length
        · obtain ⟨ad, e1, hcell⟩ := hr.at_ k hlt
          obtain rfl : ⟨w.heap.size, 0, none⟩ = ad := by injection e1
          obtain ⟨y, hy⟩ : ∃ y, y = t[k] := ⟨_, rfl⟩
          have hadd : (⟨w.heap.size, 0, none⟩ : Addr).add k = ⟨w.heap.size, k, none⟩ := by unfold Addr.add; split <;> simp_all
          rw [← hy, hadd] at hcell
          have Hy := Lib.hid hy; clear hy e1 hadd
          have hc := inner_any y W
          rcases hl : innB y with _ | _
          · rw [hl] at hc
            have Hc := Lib.hid hc; clear hc
            have Hn := Lib.hid (nameV_bad hlt (by rw [← Hy.out]; exact hl)); clear hl
            go_wp2_with (go_at_call 40; refine Hc.out.mono ?_; rintro e w' ⟨rfl, rfl⟩)
            go_ret
            exact ⟨ret_bool Hn.out.symm, ht⟩
          · rw [hl] at hc
            have Hc := Lib.hid hc; have Hl2 := Lib.hid hl; clear hc hl
            go_wp2_with (go_at_call 40; refine Hc.out.mono ?_; rintro e w' ⟨rfl, rfl⟩)
            go_round
            case rel => exact ⟨k + 1, by omega, by go_num, Lib.hid (by
              rw [List.take_succ_eq_append_getElem hlt, List.all_append, hall.out, ← Hy.out]
              simp [Hl2.out])⟩
            case measure => simp [intOf]; omega
        · obtain rfl : k = t.length := by omega
          go_wp2
          go_ret
          refine ⟨ret_bool (Eq.symm ?_), ht⟩
          have h := hall.out
          rw [List.take_length] at h
          cases t with
          | nil => simp at hl0
          | cons c r =>
            have e : x = c := Hx.out
            subst e
            rw [nameV_cons, h, Hl.out, decide_eq_true (by omega)]; rfl

set_option maxRecDepth 20000 in
set_option maxHeartbeats 1600000 in
theorem refName_any (t : List UInt8) (hs : t.length ≤ 140737000000000) (w : World) :
    Calls Tryd.prog 21 #[.string (S t)] w fun e w' => e = .returned (.bool (nameV t)) ∧ w = w' := by
  have hsz := S_size t
  go_enter Tryd.func21, Tryd.ntmps21
  go_wp2
  go_loop [3] (fun i => ∃ k : Nat, k ≤ t.length ∧ i = .int .i64 k ∧ Hid ((t.take k).all innB = true ∧ (0 < k → ∃ x, t[0]? = some x ∧ letB x = true))) (fun i => t.length - (intOf i).toNat)
  case atStart => exact ⟨0, by omega, rfl, Lib.hid ⟨rfl, fun h => by omega⟩⟩
  case round =>
    obtain ⟨k, hk, rfl, hall⟩ := hrel
    by_cases hlt : k < t.length
    · obtain ⟨x, hx⟩ : ∃ x, x = t[k] := ⟨_, rfl⟩
      have hg := S_get t k (by rw [hsz]; exact hlt)
      rw [← hx] at hg
      have hxl := x.toNat_lt
      have hgood : innB x = true → (k = 0 → letB x = true) → (t.take (k + 1)).all innB = true ∧ (0 < k + 1 → ∃ x, t[0]? = some x ∧ letB x = true) := fun h1 h2 => by
        refine ⟨by rw [List.take_succ_eq_append_getElem hlt, List.all_append, hall.out.1, ← hx]; simp [h1], fun _ => ?_⟩
        rcases Nat.eq_zero_or_pos k with e | e
        · subst e; exact ⟨x, by rw [hx]; exact List.getElem?_eq_getElem hlt, h2 rfl⟩
        · exact hall.out.2 e
      have hbad : innB x = false → nameV t = false := fun h => nameV_bad hlt (by rw [← hx]; exact h)
      have hbad0 : k = 0 → letB x = false → nameV t = false := fun e h => by
        subst e
        cases t with
        | nil => rfl
        | cons c r =>
          have e : x = c := hx
          rw [nameV_cons, ← e, h, Bool.false_and, Bool.and_false]
      have Hg := Lib.hid hgood; have Hb := Lib.hid hbad; have Hb0 := Lib.hid hbad0
      clear hgood hbad hbad0 hx
      have hkk : (k : Int) < t.length := by omega
      have Hlv := Lib.hid (letB_int x); have Hiv := Lib.hid (innB_int x)
      by_cases hsm : 97 ≤ x.toNat ∧ x.toNat ≤ 122
      · obtain ⟨hs1, hs2⟩ := hsm
        have Hl : Hid (letB x = true) := Lib.hid (by simp [letB, hs1, hs2])
        go_wp2
        go_round
        case rel => exact ⟨k + 1, by omega, by go_num, Lib.hid (Hg.out (by simp [innB, Hl.out]) (fun _ => Hl.out))⟩
        case measure => simp [intOf]; omega
      have Hl : Hid (letB x = false) := Lib.hid (by simp [letB]; omega)
      have hdd : 122 < x.toNat → decide ((x.toNat : Int) ≤ 122) = false := fun h => decide_eq_false (by omega)
      have Hdd := Lib.hid hdd; clear hdd
      by_cases hk0 : k = 0
      · subst hk0
        have Hn := Lib.hid (Hb0.out rfl Hl.out)
        rcases (show x.toNat < 97 ∨ (97 ≤ x.toNat ∧ 122 < x.toNat) by omega) with hs1 | ⟨hs1, hs2⟩
        · go_wp2
          go_ret
          exact ⟨ret_bool Hn.out.symm, rfl⟩
        · have hd2 := Hdd.out hs2
          go_wp2
          go_ret
          exact ⟨ret_bool Hn.out.symm, rfl⟩
      · have hkz : ((k : Int) == 0) = false := by rw [beq_eq_false_iff_ne]; omega
        by_cases hi : innB x = true
        · have Hi := Lib.hid hi; clear hi
          have hcase : x.toNat = 95 ∨ (x.toNat ≠ 95 ∧ 48 ≤ x.toNat ∧ x.toNat ≤ 57) := by
            have h1 := Hi.out
            rw [Hiv.out, Hl.out] at h1
            simp at h1
            omega
          rcases hcase with h95 | ⟨h95, h48, h57⟩
          · have hq : ((x.toNat : Int) == 95) = true := by rw [h95]; rfl
            have hq' : ((x.toNat : Int) != 95) = false := by rw [h95]; rfl
            clear h95
            rcases (show x.toNat < 97 ∨ (97 ≤ x.toNat ∧ 122 < x.toNat) by omega) with hs1 | ⟨hs1, hs2⟩
            · go_wp2
              go_round
              case rel => exact ⟨k + 1, by omega, by go_num, Lib.hid (Hg.out Hi.out (fun e => absurd e hk0))⟩
              case measure => simp [intOf]; omega
            · have hd2 := Hdd.out hs2
              go_wp2
              go_round
              case rel => exact ⟨k + 1, by omega, by go_num, Lib.hid (Hg.out Hi.out (fun e => absurd e hk0))⟩
              case measure => simp [intOf]; omega
          · have hq : ((x.toNat : Int) == 95) = false := by rw [beq_eq_false_iff_ne]; omega
            have hq' : ((x.toNat : Int) != 95) = true := by rw [bne, hq]; rfl
            rcases (show x.toNat < 97 ∨ (97 ≤ x.toNat ∧ 122 < x.toNat) by omega) with hs1 | ⟨hs1, hs2⟩
            · go_wp2
              go_round
              case rel => exact ⟨k + 1, by omega, by go_num, Lib.hid (Hg.out Hi.out (fun e => absurd e hk0))⟩
              case measure => simp [intOf]; omega
            · omega
        · have Hn := Lib.hid (Hb.out (by simpa using hi))
          have Hi := Lib.hid hi; clear hi
          have h95 : x.toNat ≠ 95 ∧ (x.toNat < 48 ∨ 57 < x.toNat) := by
            have h1 := Hi.out
            rw [Hiv.out, Hl.out] at h1
            simp at h1; omega
          have hq : ((x.toNat : Int) == 95) = false := by rw [beq_eq_false_iff_ne]; omega
          have hq' : ((x.toNat : Int) != 95) = true := by rw [bne, hq]; rfl
          rcases h95 with ⟨_, h48 | h57⟩
          · go_wp2
            all_goals
              go_ret
              exact ⟨ret_bool Hn.out.symm, rfl⟩
          · rcases (show x.toNat < 97 ∨ (97 ≤ x.toNat ∧ 122 < x.toNat) by omega) with hs1 | ⟨hs1, hs2⟩
            · go_wp2
              go_ret
              exact ⟨ret_bool Hn.out.symm, rfl⟩
            · have hd2 := Hdd.out hs2
              go_wp2
              go_ret
              exact ⟨ret_bool Hn.out.symm, rfl⟩
    · obtain rfl : k = t.length := by omega
      have hall2 := hall.out
      rw [List.take_length] at hall2
      have hn : nameV t = (decide (1 ≤ (t.length : Int)) && decide ((t.length : Int) ≤ 16)) := by
        cases t with
        | nil => rfl
        | cons c r =>
          obtain ⟨x, hx, hl⟩ := hall2.2 (by simp)
          obtain rfl : c = x := by simpa using hx
          rw [nameV_cons, hall2.1, hl, Bool.eq_iff_iff]; simp; omega
      have Hn := Lib.hid hn; clear hn hall2 hall
      go_wp2
      all_goals
        go_ret
        exact ⟨ret_bool (by rw [Hn.out, Bool.eq_iff_iff]; simp; omega), rfl⟩
end Go.Proofs.YtngoiphknffplaaDoor
