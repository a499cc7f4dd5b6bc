/- bywashref10.number, bywashref10.split: the walks. For every text of at most some thousand bytes. -/
import Derived.Test.YtoabloeechphkaaDoorCronPl
namespace Go.Proofs.YtoabloeechphkaaDoor
open Go.RowKit

theorem S_at (t : List UInt8) (k : Nat) (h : k < (S t).size) : (S t)[k] = t[k]'(by rwa [S_size] at h) := rfl
theorem tw_of {t : List UInt8} {k : Nat} (h : (t.take k).all digB = true) (h2 : ∀ c, (t.drop k).head? = some c → digB c = false) : t.takeWhile digB = t.take k := by
  have := takeWhile_app h h2
  rwa [List.take_append_drop] at this
theorem tw_ge {t : List UInt8} (h : (t.take 3).all digB = true) (h3 : 3 ≤ t.length) : 2 < (t.takeWhile digB).length := by
  match t, h3 with
  | a :: b :: c :: r, _ =>
    simp only [List.take_succ_cons, List.take_zero, List.all_cons, List.all_nil, Bool.and_true, Bool.and_eq_true] at h
    rw [List.takeWhile_cons, h.1, if_pos rfl, List.takeWhile_cons, h.2.1, if_pos rfl, List.takeWhile_cons, h.2.2, if_pos rfl]
    simp
def rnPost (s : List UInt8) (at' : Nat) : Int × Int := match rn (s.drop at') with | none => (0, -1) | some (n, d) => ((n : Int), (at' : Int) + d)
theorem rn_big {t : List UInt8} (h : (t.take 3).all digB = true) (h3 : 3 ≤ t.length) : rn t = none := if_pos (.inr (tw_ge h h3))
theorem rn_zero {t : List UInt8} (h2 : ∀ c, t.head? = some c → digB c = false) : rn t = none := by
  have := tw_of (t := t) (k := 0) (by simp) (by simpa using h2)
  unfold rn
  rw [this, if_pos (by simp)]
theorem rn_k {t : List UInt8} {k : Nat} (h : (t.take k).all digB = true) (h2 : ∀ c, (t.drop k).head? = some c → digB c = false) (hk : 1 ≤ k) (hk2 : k ≤ 2) (hl : k ≤ t.length) : rn t = some (decN (t.take k), k) := by
  unfold rn
  rw [tw_of h h2, List.length_take, Nat.min_eq_left hl, if_neg (by omega)]

set_option maxRecDepth 20000 in
set_option maxHeartbeats 3200000 in
theorem rnumber_any (s : List UInt8) (hs : s.length ≤ 1000000) (at' : Nat) (hat : at' ≤ s.length) (w : World) :
    Calls Tryd.prog 46 #[.string (S s), .int .i64 at'] w fun e w' => e = .returned (.tuple #[.int .i64 (rnPost s at').1, .int .i64 (rnPost s at').2]) ∧ w' = w := by
  have hsz := S_size s
  obtain ⟨t, ht⟩ : ∃ t, t = s.drop at' := ⟨_, rfl⟩
  have htl : t.length = s.length - at' := by rw [ht, List.length_drop]
  have hget : ∀ k (h : k < t.length) (h2 : at' + k < s.length), t[k] = s[at' + k] := fun k h h2 => by simp [ht, List.getElem_drop]
  have hP : ∀ (n : Nat) (e : Int), rn t = (if e < 0 then none else some (n, (e - at').toNat)) → (e < 0 → n = 0 ∧ e = -1) → (¬ e < 0 → (at' : Int) ≤ e) → rnPost s at' = (((n : Nat) : Int), e) := fun n e h1 h2 h3 => by
    unfold rnPost
    rw [← ht, h1]
    by_cases he : e < 0
    · rw [if_pos he]; obtain ⟨rfl, rfl⟩ := h2 he; rfl
    · rw [if_neg he]; have := h3 he; simp only; rw [Int.toNat_of_nonneg (by omega)]; congr 1; omega
  have HP := Lib.hid hP; have Hget := Lib.hid hget; have Htl := Lib.hid htl
  clear hP hget ht htl
  go_enter Tryd.func46, Tryd.ntmps46
  go_wp2
  go_loop [6, 7] (fun n e => ∃ k : Nat, k ≤ 2 ∧ Hid (k ≤ t.length) ∧ e = .int .i64 ((at' : Int) + k) ∧ n = .int .i64 ((decN (t.take k) : Nat) : Int) ∧ Hid ((t.take k).all digB = true)) (fun _ e => s.length - (intOf e).toNat)
  case atStart => exact ⟨0, by omega, Lib.hid (by omega), by simp, rfl, Lib.hid rfl⟩
  case round =>
    obtain ⟨k, hk2, hkl, rfl, rfl, hall⟩ := hrel
    have htl := Htl.out
    have hkl' := hkl.out
    have hb := decN_lt (t.take k) hall.out
    have hb2 : (10 : Nat) ^ (t.take k).length ≤ 10 ^ 2 := Nat.pow_le_pow_right (by omega) (by rw [List.length_take]; omega)
    obtain ⟨q, hq⟩ : ∃ q, q = decN (t.take k) := ⟨_, rfl⟩
    rw [← hq] at hb ⊢
    have hq1 : q < 100 := by omega
    clear hb hb2
    have hend : (∀ c, (t.drop k).head? = some c → digB c = false) → (k = 0 → rnPost s at' = (0, -1)) ∧ (0 < k → rnPost s at' = (((q : Nat) : Int), (at' : Int) + k)) := fun h => ⟨fun h0 => by
        subst h0
        exact HP.out 0 (-1) (by rw [if_pos (by omega)]; exact rn_zero (by simpa using h)) (fun _ => ⟨rfl, rfl⟩) (fun x => by omega), fun h0 =>
        HP.out q ((at' : Int) + k) (by rw [if_neg (by omega), rn_k hall.out h h0 hk2 hkl.out, hq]; congr 2; omega) (fun x => by omega) (fun _ => by omega)⟩
    have Hend := Lib.hid hend
    clear hend
    by_cases hlt : k < t.length
    · have hlt2 : at' + k < s.length := by omega
      have hg := S_at s (at' + k) (by rw [hsz]; exact hlt2)
      rw [← Hget.out k hlt hlt2] at hg
      have hsn := decN_snoc (t.take k) t[k]
      rw [← List.take_succ_eq_append_getElem hlt, ← hq] at hsn
      have hdr : (t.drop k).head? = some t[k] := by rw [List.head?_drop, List.getElem?_eq_getElem hlt]
      have hal : digB t[k] = true → (t.take (k + 1)).all digB = true := fun h => by
        rw [List.take_succ_eq_append_getElem hlt, List.all_append, hall.out]
        simp [h]
      obtain ⟨x, hx⟩ : ∃ x, x = t[k] := ⟨_, rfl⟩
      rw [← hx] at hg hsn hdr hal
      have hxl := x.toNat_lt
      have hbad : digB x = false → (k = 0 → rnPost s at' = (0, -1)) ∧ (0 < k → rnPost s at' = (((q : Nat) : Int), (at' : Int) + k)) := fun h => Hend.out (fun c hc => by rw [hdr] at hc; cases hc; exact h)
      have hbig : digB x = true → k = 2 → rnPost s at' = (0, -1) := fun h h2 => by
        subst h2
        exact HP.out 0 (-1) (by rw [if_pos (by omega)]; exact rn_big (hal h) (by omega)) (fun _ => ⟨rfl, rfl⟩) (fun x => by omega)
      have Hbad := Lib.hid hbad; have Hbig := Lib.hid hbig; have Hal := Lib.hid hal; have Hsn := Lib.hid hsn
      have hi0 : (0 : Int) ≤ (at' : Int) + k := by omega
      have hi1 : (at' : Int) + k < s.length := by omega
      have hin : ((at' : Int) + k).toNat = at' + k := by omega
      clear hx hdr hall hq hsn hal hbad hbig hkl hkl' Hend htl
      by_cases h3 : x.toNat < 48
      · have Hb := Lib.hid (Hbad.out (by simp [digB]; omega))
        by_cases hk0 : k = 0
        · have He := Lib.hid (Hb.out.1 hk0)
          subst hk0
          have hg : (S s)[at']'(by rw [hsz]; omega) = x := hg
          go_wp2
          go_ret2
          exact ⟨by rw [He.out]; rfl, rfl⟩
        · have He := Lib.hid (Hb.out.2 (by omega))
          have hne : ((at' : Int) + k = at') = False := eq_false (by omega)
          have hne2 : ((at' : Int) + k == at') = false := by rw [beq_eq_false_iff_ne]; omega
          go_wp2
          go_ret2
          exact ⟨by rw [He.out]; rfl, rfl⟩
      by_cases h4 : 57 < x.toNat
      · have Hb := Lib.hid (Hbad.out (by simp [digB]; omega))
        by_cases hk0 : k = 0
        · have He := Lib.hid (Hb.out.1 hk0)
          subst hk0
          have hg : (S s)[at']'(by rw [hsz]; omega) = x := hg
          go_wp2
          go_ret2
          exact ⟨by rw [He.out]; rfl, rfl⟩
        · have He := Lib.hid (Hb.out.2 (by omega))
          have hne : ((at' : Int) + k = at') = False := eq_false (by omega)
          have hne2 : ((at' : Int) + k == at') = false := by rw [beq_eq_false_iff_ne]; omega
          go_wp2
          go_ret2
          exact ⟨by rw [He.out]; rfl, rfl⟩
      have hd : digB x = true := by simp [digB]; omega
      by_cases hk3 : k = 2
      · have He := Lib.hid (Hbig.out hd hk3)
        subst hk3
        go_wp2
        go_ret2
        exact ⟨by rw [He.out]; rfl, rfl⟩
      · have hne : ¬ (k : Int) = 2 := by omega
        have Ha := Lib.hid (Hal.out hd)
        go_wp2
        go_round
        case rel => exact ⟨k + 1, by omega, Lib.hid (by omega), by go_num, by rw [Hsn.out]; congr 1; omega, Ha⟩
        case measure => simp [intOf]; omega
    · obtain rfl : k = t.length := by omega
      have he := Hend.out (by simp)
      have He := Lib.hid he
      have hi1 : ¬ (at' : Int) + t.length < s.length := by omega
      clear he Hend hall hq htl
      by_cases hk0 : t.length = 0
      · have He2 := Lib.hid (He.out.1 hk0)
        rw [hk0] at hi1 ⊢
        clear hkl hkl' hk2 hlt
        go_wp2
        go_ret2
        exact ⟨by rw [He2.out]; rfl, rfl⟩
      · have He2 := Lib.hid (He.out.2 (by omega))
        have hne : ((at' : Int) + t.length = at') = False := eq_false (by omega)
        have hne2 : ((at' : Int) + t.length == at') = false := by rw [beq_eq_false_iff_ne]; omega
        go_wp2
        go_ret2
        exact ⟨by rw [He2.out]; rfl, rfl⟩
end Go.Proofs.YtoabloeechphkaaDoor
