/- bywashlaw07.FrameReads: the walk of the law. For every slice of bytes; the table as the program's text lays it. -/
import Derived.Test.YtgpadejkmpfafaaDoorRefRead
import Derived.Test.YtgpadejkmpfafaaDoorAwakeA
namespace Go.Proofs.YtgpadejkmpfafaaDoor
open Go.RowKit

theorem rdI_rest {l r : List UInt8} {n : Int} (h : rdI l = some (n, r)) : r.length < l.length ∧ r = l.drop (l.length - r.length) := by
  rcases l with _ | ⟨x, t⟩
  · cases h
  · unfold rdI at h
    dsimp only at h
    generalize (if 16 ≤ x.toNat then x.toNat - 16 else x.toNat) = s at h
    by_cases hn : 8 < s ∨ t.length < s ∨ (0 < s ∧ t[s - 1]? = some 0) ∨ 9223372036854775808 ≤ leV (t.take s)
    · rw [if_pos hn] at h; cases h
    · rw [if_neg hn] at h
      obtain ⟨_, rfl⟩ : _ ∧ t.drop s = r := by simpa using h
      rw [List.length_drop, List.length_cons]
      refine ⟨by omega, ?_⟩
      rw [show t.length + 1 - (t.length - s) = s + 1 by omega, List.drop_succ_cons]
theorem rdI_at {b r : List UInt8} {n : Int} {at_ : Nat} (h : rdI (b.drop at_) = some (n, r)) : ∃ E, E ≤ b.length ∧ r = b.drop E ∧ refRd b at_ = (n, (E : Int)) ∧ b.length - E = r.length := by
  obtain ⟨h1, h2⟩ := rdI_rest h
  rw [List.length_drop] at h1
  refine ⟨b.length - r.length, by omega, ?_, ?_, by omega⟩
  · rw [List.drop_drop, List.length_drop] at h2
    rw [show at_ + (b.length - at_ - r.length) = b.length - r.length by omega] at h2
    exact h2
  · unfold refRd
    rw [h]
    dsimp only
    congr 1
    omega
theorem refRd_none {b : List UInt8} {at_ : Nat} (h : rdI (b.drop at_) = none) : refRd b at_ = (0, -1) := by unfold refRd; rw [h]

theorem S_nil : S [] = ⟨#[]⟩ := rfl

/-- what holds at each round's head -/
structure ReadsAt (w : World) (b : List UInt8) (g : Nat) (at_ : Nat) (bad : Bool) (wr : World) : Prop where
  inn : ∃ A l, InAt wr g A l bad ∧ (bad = false → l = b.drop at_) ∧ ∀ x ∈ fpo A, w.heap.size ≤ x
  le : at_ ≤ b.length
  t : Touch [] w wr

theorem ReadsAt.next {w : World} {b : List UInt8} {g at2 : Nat} {bad2 : Bool} {wr w1 w2 : World} {A : Option Addr} {l2 : List UInt8} (hg : w.heap.size ≤ g) (hf : ∀ x ∈ fpo A, w.heap.size ≤ x) (ht : Touch [] w wr) (ht1 : Touch [] wr w1) (hle : at2 ≤ b.length) (hp : InPost g A l2 bad2 w1 w2) (hl : bad2 = false → l2 = b.drop at2) : ReadsAt w b g at2 bad2 w2 := by
  obtain ⟨A2, hi2, ht2, hf2⟩ := hp
  exact ⟨⟨A2, l2, hi2, hl, fun x hx => hf x (hf2 x hx)⟩, hle, (ht.trans0 ht1).trans ht2 (fun b hb => .inr (by simp at hb; omega))⟩

set_option maxRecDepth 100000 in
set_option maxHeartbeats 6400000 in
theorem reads_law (A : Option Addr) (c : Nat) (b : List UInt8) (Ak : Option Addr) (ck : Nat) (ks : List UInt8) (most : Int) (w : World) (hbl : b.length ≤ maxLen) (hc : b.length ≤ c) (hkl : ks.length ≤ maxLen) (hr : RdB w A b) (hrk : RdB w Ak ks) (hh : HalfAt w) :
    Calls Tryd.prog 5 #[.slice A b.length c, .slice Ak ks.length ck, .int .i64 most] w fun e w' => e = .returned (.bool true) ∧ Touch [] w w' := by
  go_enter Tryd.func5, Tryd.ntmps5
  unfold maxLen at hbl hkl
  by_cases h3 : 500 < b.length
  · go_wp2_with (go_at_call 9; refine (awake_any w hh).mono ?_; rintro e w1 ⟨rfl, ht1⟩)
    go_ret
    exact ⟨rfl, ht1⟩
  by_cases h4 : 60 < ks.length
  · go_wp2_with (go_at_call 9; refine (awake_any w hh).mono ?_; rintro e w1 ⟨rfl, ht1⟩)
    go_ret
    exact ⟨rfl, ht1⟩
  go_wp2_with fail
  refine (newIn_any A b.length c b rfl (by omega) w hr).mono ?_
  rintro e w1 ⟨g, A1, rfl, hi1, ht1, hgw, hf1⟩
  go_wp2_with fail
  go_loopw [8, 9, 28] (fun at_ bad k wr => ∃ (n a : Nat) (bd : Bool), n ≤ ks.length ∧ k = .int .i64 n ∧ at_ = .int .i64 a ∧ bad = .bool bd ∧ ReadsAt w b g a bd wr) (fun _ _ k _ => ks.length - (intOf k).toNat)
  case atStart => exact ⟨0, 0, false, by omega, rfl, rfl, rfl, ⟨A1, b, hi1, fun _ => by simp, hf1⟩, by omega, ht1⟩
  case round =>
    obtain ⟨n, a, bd, hn, rfl, rfl, rfl, ⟨A2, l2, hi2, hl2, hf2⟩, hle, ht⟩ := hrel
    clear hi1 ht1 hf1
    by_cases hlt : n < ks.length
    · obtain ⟨ad, rfl, hcell⟩ := RdB.at_ (hrk.touch0 ht) n hlt
      obtain ⟨x, hx⟩ : ∃ x, x = ks[n] := ⟨_, rfl⟩
      rw [← hx] at hcell
      clear hx
      have hxl := x.toNat_lt
      have hx3 : ((x.toNat : Int) % 3) = 0 ∨ ((x.toNat : Int) % 3) = 1 ∨ ((x.toNat : Int) % 3) = 2 := by omega
      have hrb := hr.touch0 ht
      have hga : ∀ x ∈ fpo A2, x ∉ ([] : List Nat) := by simp
      cases bd
      · obtain rfl := hl2 rfl
        have hCI := inInt_ok g A2 (b.drop a)
        have hCT := inText_ok g A2 (b.drop a)
        have hCC := inCount_ok g A2 (b.drop a) most
        rcases hrI : rdI (b.drop a) with _ | ⟨v, r⟩
        · have hT : rdT (b.drop a) = none := by simp [rdT, hrI]
          have hC : rdC most (b.drop a) = none := by simp [rdC, hrI]
          unfold IntPost at hCI; rw [hrI] at hCI
          unfold TextPost at hCT; rw [hT] at hCT
          unfold CountPost at hCC; rw [hC] at hCC
          have hval := refRd_none hrI
          clear hrI hT hC
          have HCI := Lib.hid hCI; have HCT := Lib.hid hCT; have HCC := Lib.hid hCC; clear hCI hCT hCC
          have Hval := Lib.hid hval; clear hval
          rcases hx3 with hx3 | hx3 | hx3
          · skip
            have hrd := Lib.hid (Hval.out)
            go_wp2_with fail
            refine (refRead_any A c b a (by omega) hc (by omega) wr hrb).mono ?_
            rintro e w2 ⟨rfl, ht2⟩
            rw [hrd.out]
            have hi3 := hi2.touch ht2 (by simp) hga
            go_wp2_with fail
            refine (HCI.out w2 hi3).mono ?_
            rintro e w3 ⟨rfl, l3, hp3⟩
            have hp4 := hp3
            obtain ⟨A4, hi4, _, _⟩ := hp4
            go_wp2_with fail
            refine (bad_any g A4 _ true w3 hi4).mono ?_
            rintro e w4 ⟨rfl, rfl⟩
            go_wp2_with fail
            go_roundw
            case rel => exact ⟨n + 1, a, true, by omega, by go_num, rfl, rfl, ReadsAt.next hgw hf2 ht ht2 (by omega) hp3 (fun h => by cases h)⟩
            case measure => simp [intOf]; omega
          · skip
            have hrd := Lib.hid (Hval.out)
            go_wp2_with fail
            refine (refRead_any A c b a (by omega) hc (by omega) wr hrb).mono ?_
            rintro e w2 ⟨rfl, ht2⟩
            rw [hrd.out]
            have hi3 := hi2.touch ht2 (by simp) hga
            go_wp2_with fail
            refine (HCT.out w2 hi3).mono ?_
            rintro e w3 ⟨rfl, l3, hp3⟩
            rw [S_nil]
            have hp4 := hp3
            obtain ⟨A4, hi4, _, _⟩ := hp4
            go_wp2_with fail
            refine (bad_any g A4 _ true w3 hi4).mono ?_
            rintro e w4 ⟨rfl, rfl⟩
            go_wp2_with fail
            go_roundw
            case rel => exact ⟨n + 1, a, true, by omega, by go_num, rfl, rfl, ReadsAt.next hgw hf2 ht ht2 (by omega) hp3 (fun h => by cases h)⟩
            case measure => simp [intOf]; omega
          · skip
            have hrd := Lib.hid (Hval.out)
            go_wp2_with fail
            refine (refRead_any A c b a (by omega) hc (by omega) wr hrb).mono ?_
            rintro e w2 ⟨rfl, ht2⟩
            rw [hrd.out]
            have hi3 := hi2.touch ht2 (by simp) hga
            go_wp2_with fail
            refine (HCC.out w2 hi3).mono ?_
            rintro e w3 ⟨rfl, l3, hp3⟩
            have hp4 := hp3
            obtain ⟨A4, hi4, _, _⟩ := hp4
            go_wp2_with fail
            refine (bad_any g A4 _ true w3 hi4).mono ?_
            rintro e w4 ⟨rfl, rfl⟩
            go_wp2_with fail
            go_roundw
            case rel => exact ⟨n + 1, a, true, by omega, by go_num, rfl, rfl, ReadsAt.next hgw hf2 ht ht2 (by omega) hp3 (fun h => by cases h)⟩
            case measure => simp [intOf]; omega
        · obtain ⟨E, hE, hrE, hval, hEr⟩ := rdI_at hrI
          have hvb := rdI_bounds hrI
          unfold IntPost at hCI; rw [hrI] at hCI
          have Hval := Lib.hid hval; clear hval
          rcases hx3 with hx3 | hx3 | hx3
          · have HCI := Lib.hid hCI; clear hCI hCT hCC hrI
            have HrE := Lib.hid hrE; clear hrE
            have hrd := Lib.hid (Hval.out)
            go_wp2_with fail
            refine (refRead_any A c b a (by omega) hc (by omega) wr hrb).mono ?_
            rintro e w2 ⟨rfl, ht2⟩
            rw [hrd.out]
            have hi3 := hi2.touch ht2 (by simp) hga
            go_wp2_with fail
            refine (HCI.out w2 hi3).mono ?_
            rintro e w3 ⟨rfl, hp3⟩
            have hp4 := hp3
            obtain ⟨A4, hi4, _, _⟩ := hp4
            go_wp2_with fail
            refine (bad_any g A4 _ false w3 hi4).mono ?_
            rintro e w4 ⟨rfl, rfl⟩
            go_wp2_with fail
            go_roundw
            case rel => exact ⟨n + 1, E, false, by omega, by go_num, rfl, rfl, ReadsAt.next hgw hf2 ht ht2 (by omega) hp3 (fun _ => HrE.out)⟩
            case measure => simp [intOf]; omega
          · by_cases hv : v < 0 ∨ (r.length : Int) < v
            · have hT : rdT (b.drop a) = none := by simp [rdT, hrI, hv]
              unfold TextPost at hCT; rw [hT] at hCT
              have HCT := Lib.hid hCT; clear hCI hCT hCC hrI hT hrE
              rcases (show v < 0 ∨ (0 ≤ v ∧ (r.length : Int) < v) by omega) with hv0 | ⟨hv0, hv1⟩
              · clear hv
                have hrd := Lib.hid (Hval.out)
                go_wp2_with fail
                refine (refRead_any A c b a (by omega) hc (by omega) wr hrb).mono ?_
                rintro e w2 ⟨rfl, ht2⟩
                rw [hrd.out]
                have hi3 := hi2.touch ht2 (by simp) hga
                go_wp2_with fail
                refine (HCT.out w2 hi3).mono ?_
                rintro e w3 ⟨rfl, l3, hp3⟩
                rw [S_nil]
                have hp4 := hp3
                obtain ⟨A4, hi4, _, _⟩ := hp4
                go_wp2_with fail
                refine (bad_any g A4 _ true w3 hi4).mono ?_
                rintro e w4 ⟨rfl, rfl⟩
                go_wp2_with fail
                go_roundw
                case rel => exact ⟨n + 1, a, true, by omega, by go_num, rfl, rfl, ReadsAt.next hgw hf2 ht ht2 (by omega) hp3 (fun h => by cases h)⟩
                case measure => simp [intOf]; omega
              · clear hv
                have hvE : (b.length : Int) - E < v := by omega
                have hrd := Lib.hid (Hval.out)
                go_wp2_with fail
                refine (refRead_any A c b a (by omega) hc (by omega) wr hrb).mono ?_
                rintro e w2 ⟨rfl, ht2⟩
                rw [hrd.out]
                have hi3 := hi2.touch ht2 (by simp) hga
                go_wp2_with fail
                refine (HCT.out w2 hi3).mono ?_
                rintro e w3 ⟨rfl, l3, hp3⟩
                rw [S_nil]
                have hp4 := hp3
                obtain ⟨A4, hi4, _, _⟩ := hp4
                go_wp2_with fail
                refine (bad_any g A4 _ true w3 hi4).mono ?_
                rintro e w4 ⟨rfl, rfl⟩
                go_wp2_with fail
                go_roundw
                case rel => exact ⟨n + 1, a, true, by omega, by go_num, rfl, rfl, ReadsAt.next hgw hf2 ht ht2 (by omega) hp3 (fun h => by cases h)⟩
                case measure => simp [intOf]; omega
            · obtain ⟨v, rfl⟩ : ∃ k : Nat, v = (k : Int) := ⟨v.toNat, by omega⟩
              have hvr : v ≤ r.length := by omega
              have hT : rdT (b.drop a) = some (r.take v, r.drop v) := by simp only [rdT, hrI, if_neg hv]; rfl
              unfold TextPost at hCT; rw [hT] at hCT
              have HCT := Lib.hid hCT; clear hCI hCT hCC hrI hT hv
              have hvE : (v : Int) ≤ (b.length : Int) - E := by omega
              have hdr : r.drop v = b.drop (E + v) := by rw [hrE, List.drop_drop]
              obtain ⟨AS, hAS⟩ : ∃ AS, AS = if c = E then A else A.map (fun x => x.add E) := ⟨_, rfl⟩
              have hrS : ∀ W, RdB W A b → RdB W AS (r.take v) := by
                intro W hW
                rw [hAS]
                split
                · rw [List.eq_nil_of_length_eq_zero (show (r.take v).length = 0 by rw [List.length_take]; omega)]; exact Rd.nil _ _
                · rw [hrE]; exact RdB.pre (RdB.drop hW E) v
              have hsl := fun W => run_cutB A b.length c E (E + v) ((E : Int) + v) (by omega) (by omega) (by omega) W
              rw [← hAS, show E + v - E = v by omega] at hsl
              have Hdr := Lib.hid hdr; have HrS := Lib.hid hrS; clear hdr hrS hAS hrE
              have hrd := Lib.hid (Hval.out)
              go_wp2_with fail
              refine (refRead_any A c b a (by omega) hc (by omega) wr hrb).mono ?_
              rintro e w2 ⟨rfl, ht2⟩
              rw [hrd.out]
              have hi3 := hi2.touch ht2 (by simp) hga
              have hbE : decide ((E : Int) < 0) = false := by simp
              have hbv : decide ((v : Int) < 0) = false := by simp
              have hbr : decide ((b.length : Int) - E < (v : Int)) = false := by simp; omega
              have hcv := run_str_of (w := w2) (A := AS) (n := v) (c - E) (l := r.take v) (by rw [List.length_take]; omega) (HrS.out w2 (hrb.touch0 ht2))
              go_wp2_with fail
              refine (HCT.out w2 hi3).mono ?_
              rintro e w3 ⟨rfl, hp3⟩
              have hp4 := hp3
              obtain ⟨A4, hi4, _, _⟩ := hp4
              go_wp2_with fail
              refine (bad_any g A4 _ false w3 hi4).mono ?_
              rintro e w4 ⟨rfl, rfl⟩
              go_wp2_with fail
              go_roundw
              case rel => exact ⟨n + 1, E + v, false, by omega, by go_num, rfl, rfl, ReadsAt.next hgw hf2 ht ht2 (by omega) hp3 (fun _ => Hdr.out)⟩
              case measure => simp [intOf]; omega
          · by_cases hv : v < 0 ∨ most < v
            · have hC : rdC most (b.drop a) = none := by simp [rdC, hrI, hv]
              unfold CountPost at hCC; rw [hC] at hCC
              have HCC := Lib.hid hCC; clear hCI hCT hCC hrI hC hrE
              rcases (show v < 0 ∨ (0 ≤ v ∧ most < v) by omega) with hv0 | ⟨hv0, hv1⟩
              · clear hv
                have hrd := Lib.hid (Hval.out)
                go_wp2_with fail
                refine (refRead_any A c b a (by omega) hc (by omega) wr hrb).mono ?_
                rintro e w2 ⟨rfl, ht2⟩
                rw [hrd.out]
                have hi3 := hi2.touch ht2 (by simp) hga
                go_wp2_with fail
                refine (HCC.out w2 hi3).mono ?_
                rintro e w3 ⟨rfl, l3, hp3⟩
                have hp4 := hp3
                obtain ⟨A4, hi4, _, _⟩ := hp4
                go_wp2_with fail
                refine (bad_any g A4 _ true w3 hi4).mono ?_
                rintro e w4 ⟨rfl, rfl⟩
                go_wp2_with fail
                go_roundw
                case rel => exact ⟨n + 1, a, true, by omega, by go_num, rfl, rfl, ReadsAt.next hgw hf2 ht ht2 (by omega) hp3 (fun h => by cases h)⟩
                case measure => simp [intOf]; omega
              · clear hv
                have hrd := Lib.hid (Hval.out)
                go_wp2_with fail
                refine (refRead_any A c b a (by omega) hc (by omega) wr hrb).mono ?_
                rintro e w2 ⟨rfl, ht2⟩
                rw [hrd.out]
                have hi3 := hi2.touch ht2 (by simp) hga
                go_wp2_with fail
                refine (HCC.out w2 hi3).mono ?_
                rintro e w3 ⟨rfl, l3, hp3⟩
                have hp4 := hp3
                obtain ⟨A4, hi4, _, _⟩ := hp4
                go_wp2_with fail
                refine (bad_any g A4 _ true w3 hi4).mono ?_
                rintro e w4 ⟨rfl, rfl⟩
                go_wp2_with fail
                go_roundw
                case rel => exact ⟨n + 1, a, true, by omega, by go_num, rfl, rfl, ReadsAt.next hgw hf2 ht ht2 (by omega) hp3 (fun h => by cases h)⟩
                case measure => simp [intOf]; omega
            · have hC : rdC most (b.drop a) = some (v, r) := by simp only [rdC, hrI, if_neg hv]
              unfold CountPost at hCC; rw [hC] at hCC
              have HCC := Lib.hid hCC; have HrE := Lib.hid hrE; clear hCI hCT hCC hrI hC hrE
              have hv0 : 0 ≤ v := by omega
              have hv1 : v ≤ most := by omega
              have hbE : decide ((E : Int) < 0) = false := by simp
              have hbv : decide (v < 0) = false := by simp; omega
              have hbr : decide (most < v) = false := by simp; omega
              clear hv
              have hrd := Lib.hid (Hval.out)
              go_wp2_with fail
              refine (refRead_any A c b a (by omega) hc (by omega) wr hrb).mono ?_
              rintro e w2 ⟨rfl, ht2⟩
              rw [hrd.out]
              have hi3 := hi2.touch ht2 (by simp) hga
              go_wp2_with fail
              refine (HCC.out w2 hi3).mono ?_
              rintro e w3 ⟨rfl, hp3⟩
              have hp4 := hp3
              obtain ⟨A4, hi4, _, _⟩ := hp4
              go_wp2_with fail
              refine (bad_any g A4 _ false w3 hi4).mono ?_
              rintro e w4 ⟨rfl, rfl⟩
              go_wp2_with fail
              go_roundw
              case rel => exact ⟨n + 1, E, false, by omega, by go_num, rfl, rfl, ReadsAt.next hgw hf2 ht ht2 (by omega) hp3 (fun _ => HrE.out)⟩
              case measure => simp [intOf]; omega
      · rcases hx3 with hx3 | hx3 | hx3
        · obtain ⟨y, hy⟩ : ∃ y, y = refRd b a := ⟨_, rfl⟩
          have Hy := Lib.hid hy.symm; clear hy hl2
          have hrd := Lib.hid (Hy.out)
          go_wp2_with fail
          refine (refRead_any A c b a (by omega) hc (by omega) wr hrb).mono ?_
          rintro e w2 ⟨rfl, ht2⟩
          rw [hrd.out]
          have hi3 := hi2.touch ht2 (by simp) hga
          go_wp2_with fail
          refine (inInt_bad g A2 l2 w2 hi3).mono ?_
          rintro e w3 ⟨rfl, hp3⟩
          have hp4 := hp3
          obtain ⟨A4, hi4, _, _⟩ := hp4
          go_wp2_with fail
          refine (bad_any g A4 _ true w3 hi4).mono ?_
          rintro e w4 ⟨rfl, rfl⟩
          go_wp2_with fail
          go_roundw
          case rel => exact ⟨n + 1, a, true, by omega, by go_num, rfl, rfl, ReadsAt.next hgw hf2 ht ht2 (by omega) hp3 (fun h => by cases h)⟩
          case measure => simp [intOf]; omega
        · obtain ⟨y, hy⟩ : ∃ y, y = refRd b a := ⟨_, rfl⟩
          have Hy := Lib.hid hy.symm; clear hy hl2
          have hrd := Lib.hid (Hy.out)
          go_wp2_with fail
          refine (refRead_any A c b a (by omega) hc (by omega) wr hrb).mono ?_
          rintro e w2 ⟨rfl, ht2⟩
          rw [hrd.out]
          have hi3 := hi2.touch ht2 (by simp) hga
          go_wp2_with fail
          refine (inText_bad g A2 l2 w2 hi3).mono ?_
          rintro e w3 ⟨rfl, hp3⟩
          rw [S_nil]
          have hp4 := hp3
          obtain ⟨A4, hi4, _, _⟩ := hp4
          go_wp2_with fail
          refine (bad_any g A4 _ true w3 hi4).mono ?_
          rintro e w4 ⟨rfl, rfl⟩
          go_wp2_with fail
          go_roundw
          case rel => exact ⟨n + 1, a, true, by omega, by go_num, rfl, rfl, ReadsAt.next hgw hf2 ht ht2 (by omega) hp3 (fun h => by cases h)⟩
          case measure => simp [intOf]; omega
        · obtain ⟨y, hy⟩ : ∃ y, y = refRd b a := ⟨_, rfl⟩
          have Hy := Lib.hid hy.symm; clear hy hl2
          have hrd := Lib.hid (Hy.out)
          go_wp2_with fail
          refine (refRead_any A c b a (by omega) hc (by omega) wr hrb).mono ?_
          rintro e w2 ⟨rfl, ht2⟩
          rw [hrd.out]
          have hi3 := hi2.touch ht2 (by simp) hga
          go_wp2_with fail
          refine (inCount_bad g A2 l2 most w2 hi3).mono ?_
          rintro e w3 ⟨rfl, hp3⟩
          have hp4 := hp3
          obtain ⟨A4, hi4, _, _⟩ := hp4
          go_wp2_with fail
          refine (bad_any g A4 _ true w3 hi4).mono ?_
          rintro e w4 ⟨rfl, rfl⟩
          go_wp2_with fail
          go_roundw
          case rel => exact ⟨n + 1, a, true, by omega, by go_num, rfl, rfl, ReadsAt.next hgw hf2 ht ht2 (by omega) hp3 (fun h => by cases h)⟩
          case measure => simp [intOf]; omega
    · obtain rfl : n = ks.length := by omega
      have hh2 := hh.touch ht (by simp)
      go_wp2_with fail
      refine (done_any g A2 l2 bd wr hi2).mono ?_
      rintro e w2 ⟨rfl, rfl⟩
      cases bd
      · obtain rfl := hl2 rfl
        by_cases hab : a = b.length
        · subst hab
          have hd : decide ((b.drop b.length).length = 0) = true := by simp
          rw [hd]
          clear hd
          go_wp2_with (go_at_call 9; refine (awake_any _ hh2).mono ?_; rintro e w5 ⟨rfl, ht5⟩)
          go_ret
          exact ⟨rfl, ht.trans0 ht5⟩
        · have hd : decide ((b.drop a).length = 0) = false := by rw [List.length_drop]; simp; omega
          have hab2 : ((a : Int) == (b.length : Int)) = false := by rw [beq_eq_false_iff_ne]; omega
          rw [hd]
          clear hd hab
          go_wp2_with (go_at_call 9; refine (awake_any _ hh2).mono ?_; rintro e w5 ⟨rfl, ht5⟩)
          go_ret
          exact ⟨rfl, ht.trans0 ht5⟩
      · go_wp2_with (go_at_call 9; refine (awake_any _ hh2).mono ?_; rintro e w5 ⟨rfl, ht5⟩)
        go_ret
        exact ⟨rfl, ht.trans0 ht5⟩
end Go.Proofs.YtgpadejkmpfafaaDoor
