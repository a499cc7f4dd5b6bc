/- container/heap.down: the walk. For every heap. -/
import Derived.Test.YthhjioeipjnjmaaQueN
namespace Go.Proofs.Ythhjioeipjnjmaa
open Go.RowKit

theorem downL_stop {l : ES} {k n : Nat} (h : ¬ (2 * k + 1 < n ∧ ltE l[kidL ltE l k n]! l[k]! = true)) : downL ltE l k n = (l, k) := by
  rw [downL, dif_neg h]
theorem downL_go {l : ES} {k n j : Nat} (hj : kidL ltE l k n = j) (h : 2 * k + 1 < n) (hl : ltE l[j]! l[k]! = true) : downL ltE l k n = downL ltE (swL l k j) j n := by
  subst hj
  rw [downL, dif_pos ⟨h, hl⟩]
theorem downL_no {l : ES} {k n j : Nat} (hj : kidL ltE l k n = j) (hl : ltE l[j]! l[k]! = false) : downL ltE l k n = (l, k) := by
  subst hj
  exact downL_stop (fun h => by rw [hl] at h; cases h.2)

set_option maxRecDepth 20000 in
set_option maxHeartbeats 6400000 in
theorem down_any (g : Nat) (A : Option Addr) (c : Nat) (es : ES) (m p : Value) (i n : Nat) (hi : i < es.length) (hn : n ≤ es.length) (hl : es.length ≤ 1000000) (w : World) (h : HpAt w g A c es m p) :
    Calls Try.prog 35 #[ifV g, .int .i64 i, .int .i64 n] w fun e w' => e = .returned (.bool (decide (i < (downL ltE es i n).2))) ∧ HpAt w' g A c (downL ltE es i n).1 m p ∧ Touch (efp A es) w w' := by
  obtain ⟨R, hR⟩ : ∃ R, R = downL ltE es i n := ⟨_, rfl⟩
  rw [← hR]
  unfold ifV
  go_enter Try.func35, Try.ntmps35
  go_wp2
  go_loopw [7] (fun iv wr => ∃ (k : Nat) (es' : ES), iv = .int .i64 k ∧ k < es.length ∧ i ≤ k ∧ es'.length = es.length ∧ HpAt wr g A c es' m p ∧ Hid (R = downL ltE es' k n) ∧ Touch (efp A es) w wr ∧ Hid (es'.Perm es)) (fun iv _ => n - (intOf iv).toNat)
  case atStart => exact ⟨i, es, rfl, hi, Nat.le_refl _, rfl, h, Lib.hid hR, Touch.refl _ _, Lib.hid (List.Perm.refl _)⟩
  case round =>
    obtain ⟨k, es', rfl, hk, hik, hlen, hh, HR, ht, HP⟩ := hrel
    have c0 := hh.cell0
    rw [hlen] at c0
    obtain ⟨a, ha⟩ : ∃ a, a = 2 * k + 1 := ⟨_, rfl⟩
    have ha0 : a ≤ 2 * k + 1 := by omega
    have ha1 : 2 * k + 1 ≤ a := by omega
    have hA : 2 * (k : Int) + 1 = (a : Nat) := by omega
    have hA0 : (0 : Int) ≤ (a : Int) := by omega
    clear ha
    by_cases hn1 : n ≤ a
    · have Hz := Lib.hid (show R = (es', k) by rw [HR.out]; exact downL_stop (fun h => by omega))
      clear c0
      go_wp2_with fail
      go_ret
      exact ⟨by rw [Hz.out]; rfl, by rw [Hz.out]; exact hh, ht⟩
    have hnI : (a : Int) < (n : Int) := by omega
    obtain ⟨a2, ha2⟩ : ∃ a2, a2 = a + 1 := ⟨_, rfl⟩
    have hA2 : (a : Int) + 1 = (a2 : Nat) := by omega
    have ha3 : a2 ≤ a + 1 := by omega
    have ha4 : a + 1 ≤ a2 := by omega
    clear ha2
    have hm1 := meth_less c0 224
    by_cases hn2 : a2 < n
    · have hn2I : (a2 : Int) < (n : Int) := by omega
      obtain ⟨b1, hb1⟩ : ∃ b1, b1 = ltE es'[a2]! es'[a]! := ⟨_, rfl⟩
      have Hless1 := Lib.hid (less_any A c es' a2 a es.length hlen (by omega) (by omega) wr hh.es_)
      rw [← hb1] at Hless1
      have Hb1 := Lib.hid hb1
      clear hb1
      cases b1
      · have Hk := Lib.hid (show kidL ltE es' k n = a by unfold kidL; rw [show 2 * k + 2 = a2 by omega, show 2 * k + 1 = a by omega, ← Hb1.out]; first | (simp; done) | (simp; omega))
        go_wp2_with fail
        refine Hless1.out.mono ?_
        rintro e w1 ⟨rfl, t1⟩
        have hh1 := hh.touch0 t1
        have T1 := ht.trans0 t1
        have c1 := hh1.cell0
        rw [hlen] at c1
        have hm2 := meth_less c1 224
        clear hm1 c0 c1
        obtain ⟨b2, hb2⟩ : ∃ b2, b2 = ltE es'[a]! es'[k]! := ⟨_, rfl⟩
        have Hless2 := Lib.hid (less_any A c es' a k es.length hlen (by omega) (by omega) w1 hh1.es_)
        rw [← hb2] at Hless2
        have Hb2 := Lib.hid hb2
        clear hb2
        cases b2
        · have Hz := Lib.hid (show R = (es', k) by rw [HR.out]; exact downL_no Hk.out Hb2.out.symm)
          go_wp2_with fail
          refine Hless2.out.mono ?_
          rintro e w2 ⟨rfl, t2⟩
          go_wp2_with fail
          go_ret
          exact ⟨by rw [Hz.out]; rfl, by rw [Hz.out]; exact hh1.touch0 t2, T1.trans0 t2⟩
        · have Hz := Lib.hid (show R = downL ltE (swL es' k a) a n by rw [HR.out]; exact downL_go Hk.out (by omega) Hb2.out.symm)
          go_wp2_with fail
          refine Hless2.out.mono ?_
          rintro e w2 ⟨rfl, t2⟩
          have hh2 := hh1.touch0 t2
          have c2 := hh2.cell0
          rw [hlen] at c2
          have hm3 := meth_swap c2 224
          have Hswap := Lib.hid (swap_any A c es' k a es.length hlen (by omega) (by omega) (by omega) w2 hh2.es_)
          have Hsl := Lib.hid (swL_length es' k a)
          have Hsp := Lib.hid (swL_perm es' k a (by omega) (by omega))
          clear c2
          go_wp2_with fail
          refine Hswap.out.mono ?_
          rintro e w3 ⟨rfl, hes, t3⟩
          have hb3 := t3.blk hh2.blk hh2.ng
          have hh3 : HpAt w3 g A c (swL es' k a) m p := ⟨by rw [Hsl.out]; exact hb3, hes, fun hm => hh2.ng ((efp_perm Hsp.out g).1 hm)⟩
          have T3 : Touch (efp A es) w w3 := (T1.trans0 t2).trans t3 (fun b hb => .inl ((efp_perm HP.out b).1 hb))
          have HP3 := Lib.hid (Hsp.out.trans HP.out)
          clear hm3
          go_wp2_with fail
          go_roundw
          case rel => exact ⟨a, swL es' k a, rfl, by omega, by omega, by rw [Hsl.out]; exact hlen, hh3, Hz, T3, HP3⟩
          case measure => simp [intOf]; omega
      · have Hk := Lib.hid (show kidL ltE es' k n = a2 by unfold kidL; rw [show 2 * k + 2 = a2 by omega, show 2 * k + 1 = a by omega, ← Hb1.out]; first | (simp; done) | (simp; omega))
        go_wp2_with fail
        refine Hless1.out.mono ?_
        rintro e w1 ⟨rfl, t1⟩
        have hh1 := hh.touch0 t1
        have T1 := ht.trans0 t1
        have c1 := hh1.cell0
        rw [hlen] at c1
        have hm2 := meth_less c1 224
        clear hm1 c0 c1
        obtain ⟨b2, hb2⟩ : ∃ b2, b2 = ltE es'[a2]! es'[k]! := ⟨_, rfl⟩
        have Hless2 := Lib.hid (less_any A c es' a2 k es.length hlen (by omega) (by omega) w1 hh1.es_)
        rw [← hb2] at Hless2
        have Hb2 := Lib.hid hb2
        clear hb2
        cases b2
        · have Hz := Lib.hid (show R = (es', k) by rw [HR.out]; exact downL_no Hk.out Hb2.out.symm)
          go_wp2_with fail
          refine Hless2.out.mono ?_
          rintro e w2 ⟨rfl, t2⟩
          go_wp2_with fail
          go_ret
          exact ⟨by rw [Hz.out]; rfl, by rw [Hz.out]; exact hh1.touch0 t2, T1.trans0 t2⟩
        · have Hz := Lib.hid (show R = downL ltE (swL es' k a2) a2 n by rw [HR.out]; exact downL_go Hk.out (by omega) Hb2.out.symm)
          go_wp2_with fail
          refine Hless2.out.mono ?_
          rintro e w2 ⟨rfl, t2⟩
          have hh2 := hh1.touch0 t2
          have c2 := hh2.cell0
          rw [hlen] at c2
          have hm3 := meth_swap c2 224
          have Hswap := Lib.hid (swap_any A c es' k a2 es.length hlen (by omega) (by omega) (by omega) w2 hh2.es_)
          have Hsl := Lib.hid (swL_length es' k a2)
          have Hsp := Lib.hid (swL_perm es' k a2 (by omega) (by omega))
          clear c2
          go_wp2_with fail
          refine Hswap.out.mono ?_
          rintro e w3 ⟨rfl, hes, t3⟩
          have hb3 := t3.blk hh2.blk hh2.ng
          have hh3 : HpAt w3 g A c (swL es' k a2) m p := ⟨by rw [Hsl.out]; exact hb3, hes, fun hm => hh2.ng ((efp_perm Hsp.out g).1 hm)⟩
          have T3 : Touch (efp A es) w w3 := (T1.trans0 t2).trans t3 (fun b hb => .inl ((efp_perm HP.out b).1 hb))
          have HP3 := Lib.hid (Hsp.out.trans HP.out)
          clear hm3
          go_wp2_with fail
          go_roundw
          case rel => exact ⟨a2, swL es' k a2, rfl, by omega, by omega, by rw [Hsl.out]; exact hlen, hh3, Hz, T3, HP3⟩
          case measure => simp [intOf]; omega
    · have hn2I : ¬ (a2 : Int) < (n : Int) := by omega
      have Hk := Lib.hid (show kidL ltE es' k n = a by unfold kidL; rw [if_neg (by omega)]; omega)
      obtain ⟨b2, hb2⟩ : ∃ b2, b2 = ltE es'[a]! es'[k]! := ⟨_, rfl⟩
      have Hless2 := Lib.hid (less_any A c es' a k es.length hlen (by omega) (by omega) wr hh.es_)
      rw [← hb2] at Hless2
      have Hb2 := Lib.hid hb2
      clear hb2
      cases b2
      · have Hz := Lib.hid (show R = (es', k) by rw [HR.out]; exact downL_no Hk.out Hb2.out.symm)
        go_wp2_with fail
        refine Hless2.out.mono ?_
        rintro e w2 ⟨rfl, t2⟩
        go_wp2_with fail
        go_ret
        exact ⟨by rw [Hz.out]; rfl, by rw [Hz.out]; exact hh.touch0 t2, ht.trans0 t2⟩
      · have Hz := Lib.hid (show R = downL ltE (swL es' k a) a n by rw [HR.out]; exact downL_go Hk.out (by omega) Hb2.out.symm)
        go_wp2_with fail
        refine Hless2.out.mono ?_
        rintro e w2 ⟨rfl, t2⟩
        have hh2 := hh.touch0 t2
        have c2 := hh2.cell0
        rw [hlen] at c2
        have hm3 := meth_swap c2 224
        have Hswap := Lib.hid (swap_any A c es' k a es.length hlen (by omega) (by omega) (by omega) w2 hh2.es_)
        have Hsl := Lib.hid (swL_length es' k a)
        have Hsp := Lib.hid (swL_perm es' k a (by omega) (by omega))
        clear c2
        go_wp2_with fail
        refine Hswap.out.mono ?_
        rintro e w3 ⟨rfl, hes, t3⟩
        have hb3 := t3.blk hh2.blk hh2.ng
        have hh3 : HpAt w3 g A c (swL es' k a) m p := ⟨by rw [Hsl.out]; exact hb3, hes, fun hm => hh2.ng ((efp_perm Hsp.out g).1 hm)⟩
        have T3 : Touch (efp A es) w w3 := (ht.trans0 t2).trans t3 (fun b hb => .inl ((efp_perm HP.out b).1 hb))
        have HP3 := Lib.hid (Hsp.out.trans HP.out)
        clear hm3
        go_wp2_with fail
        go_roundw
        case rel => exact ⟨a, swL es' k a, rfl, by omega, by omega, by rw [Hsl.out]; exact hlen, hh3, Hz, T3, HP3⟩
        case measure => simp [intOf]; omega
end Go.Proofs.Ythhjioeipjnjmaa
