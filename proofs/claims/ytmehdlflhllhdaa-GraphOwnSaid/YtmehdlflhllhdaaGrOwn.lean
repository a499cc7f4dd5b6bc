/- bywashlaw16.GraphOwn: the walk of the law. For every input. -/
import Derived.Test.YtmehdlflhllhdaaGrOw
import Derived.Test.YtmehdlflhllhdaaGrOp
import Derived.BigQuiet
namespace Go.Proofs.Ytmehdlflhllhdaa
open Go.RowKit

/-- the first i rows are laid -/
def rowsTo (ls : List (List Int)) (i a : Nat) : List Int := if a < i then ls.getD a [] else []
theorem rowsTo_succ (ls : List (List Int)) (i : Nat) : (fun a => if a = i then ls.getD i [] else rowsTo ls i a) = rowsTo ls (i + 1) := by
  funext a
  unfold rowsTo
  by_cases e : a = i
  · subst e; rw [if_pos rfl, if_pos (by omega)]
  · rw [if_neg e]
    by_cases q : a < i
    · rw [if_pos q, if_pos (by omega)]
    · rw [if_neg q, if_neg (by omega)]
theorem rowsTo_all (ls : List (List Int)) : (List.range ls.length).map (rowsTo ls ls.length) = ls := by
  apply List.ext_getElem
  · simp
  · intro i h1 h2
    simp [rowsTo, h2]

set_option maxRecDepth 20000 in
set_option maxHeartbeats 8000000 in
theorem own_ok (N : Nat) (hN : N ≤ 24) (A : Option Addr) (c m : Nat) (ls : List (List Int)) (hm : ls.length = m) (hmN : m ≤ N) (w : World) (h : InR w A ls) (hb : ∀ l ∈ ls, l.length ≤ 40) (ha : ∀ l ∈ ls, allN N l = true) (hr : ¬ Ring (nsL N ls))
    (hs : Calls Try.prog 9 #[.int .i64 N, .slice A m c] w fun e w' => e = .returned (.bool true) ∧ w' = w) :
    Calls Try.prog 6 #[.int .i64 N, .slice A m c] w fun e w' => e = .returned (.bool true) ∧ Touch [] w w' := by
  have HS := Lib.hid hs
  have HW := Lib.hid (by
    have := wrong_any (N : Int) A c m ls hm (by omega) w h (fun l hl => by have := hb l hl; omega)
    rw [(wrongV_in (by omega) (by omega) ha).2 hr] at this
    exact this)
  have Hb := Lib.hid hb
  have Ha := Lib.hid ha
  have Hr := Lib.hid hr
  have Hm := Lib.hid hm
  clear hs hb ha hr hm
  have hmk := fun w => run_mkS m (by omega) w
  go_enter Try.func6, Try.ntmps6
  go_wp2_with fail
  refine HS.out.mono ?_
  rintro e w1 ⟨rfl, hw1⟩
  rw [hw1]
  clear hw1 HS
  go_wp2_with fail
  refine HW.out.mono ?_
  rintro e w2 ⟨rfl, t2⟩
  have Ht2 := Lib.hid t2
  have H0 : Hid (TuS w2 w2.heap.size m (rowsTo ls 0) (List.replicate m ⟨none, 0, 0⟩) (w2.alloc (.cells (madeCells #[.slice none 0 0] m) 31))) := Lib.hid ⟨OwnK.made 31 SL.val w2 m ⟨none, 0, 0⟩ (by unfold maxLen; omega), by simp, fun a h => by
    simp only [List.getElem_replicate]
    exact ⟨by simp [rowsTo], by rw [show rowsTo ls 0 a = [] by simp [rowsTo]]; exact OwnK.nil _ _ _ _⟩, fun s hs b hb => by
    rw [List.eq_of_mem_replicate hs] at hb
    simp [fpo] at hb, fun a b h1 h2 _ x hx => by
    simp [fpo] at hx, (Touch.refl [] w2).alloc _, Nat.le_refl _⟩
  clear t2 HW
  go_wp2_with fail
  clear hmk
  go_loopw [36] (fun y wr => ∃ (i : Nat) (sl : List SL), i ≤ m ∧ y = .int .i64 i ∧ Hid (TuS w2 w2.heap.size m (rowsTo ls i) sl wr)) (fun y _ => m - (intOf y).toNat)
  case atStart => exact ⟨0, _, by omega, rfl, H0⟩
  case round =>
    clear H0
    obtain ⟨i, sl, hi, rfl, HC⟩ := hrel
    by_cases hin : i < m
    · have hil : i < ls.length := by have := Hm.out; omega
      obtain ⟨ad, A', c', rfl, hc, hle, hrd⟩ := (h.touch0 (Ht2.out.trans0 HC.out.t)).at_ i hil
      obtain ⟨l, hl⟩ : ∃ l, l = ls[i] := ⟨_, rfl⟩
      have hl40 := Hb.out _ (List.getElem_mem hil)
      have hgd : ls.getD i [] = ls[i] := by simp [hil]
      rw [← hl] at hc hle hrd hl40 hgd
      obtain ⟨q, hq⟩ : ∃ q, q = l.length := ⟨_, rfl⟩
      rw [← hq] at hc hl40
      have Hq := Lib.hid hq
      have Hgd := Lib.hid hgd
      have Hrd := Lib.hid hrd
      clear hl hq hgd hrd
      go_wp2_with (at_builtin; refine stop ?_)
      refine go ?_
      have tb := (Touch.refl [] wr).alloc (.cells #[] 3)
      have hrdk : RdK iE (wr.alloc (.cells #[] 3)) A' l := by
        unfold RdK
        rw [flat_one]
        exact Rd.touch0 Hrd.out tb
      refine wpList_appK (enc := iE) rfl (.tmp 43) (.tmp 44) 31 rfl 3 (.int .i64 0) 1 8 info_int Try.underlying31 rfl (by omega) (fun _ => rfl) (fun x u hu => by simp only [List.mem_singleton] at hu; subst hu; rfl) (some ⟨wr.heap.size, 0, none⟩) 0 0 [] rfl rfl (OwnK.empty_new 3 1 iE wr)
        A' q c' l Hq.out.symm rfl hrdk (by omega) (by omega) ?_
      intro A3 c3 w3 hown3 ht3 hf3
      have hfr : ∀ b ∈ fpo A3, wr.heap.size ≤ b := fun b hb => by
        rcases hf3 b hb with e | e
        · simp [fpo] at e; omega
        · rw [World.size_alloc] at e; omega
      have T3 : Touch [] wr w3 := tb.trans ht3 (fun b hb => by simp [fpo] at hb; subst hb; exact .inr (Nat.le_refl _))
      have hks : i < sl.length := by rw [HC.out.len]; exact hin
      have hput := HC.out.put hks T3 Hq.out (by simpa using hown3) hfr
      have hrt := rowsTo_succ ls i
      rw [Hgd.out] at hrt
      rw [hrt] at hput
      have z1 := (HC.out.own.touch0 T3).free_ i
      have z2 := (HC.out.own.touch0 T3).cell1 i hks
      have HP := Lib.hid hput
      have e0 : 0 + q = q := by omega
      rw [e0]
      clear hput hrt hfr hown3 ht3 hf3 hrdk T3 tb e0
      go_wp2_with fail
      go_roundw
      case rel => exact ⟨i + 1, _, by omega, by go_num, HP⟩
      case measure => simp [intOf]; omega
    · obtain rfl : i = m := by omega
      have hin0 := HC.out.inR
      have hall : (List.range i).map (rowsTo ls i) = ls := by
        have := rowsTo_all ls
        rw [Hm.out] at this
        exact this
      rw [hall] at hin0
      have HNw := Lib.hid (new_any N (by omega) (some ⟨w2.heap.size, 0, none⟩) i i ls Hm.out hmN wr hin0 (fun l hl => by have := Hb.out l hl; omega))
      obtain ⟨fp, hfp⟩ : ∃ fp, fp = sl.flatMap (fun s => fpo s.A) := ⟨_, rfl⟩
      have HFp : Hid (∀ b ∈ fp, w.heap.size ≤ b ∧ b < wr.heap.size) := Lib.hid (by
        intro b hb
        rw [hfp] at hb
        obtain ⟨s, hs, hb2⟩ := List.mem_flatMap.1 hb
        have := (HC.out.ne s hs b hb2).2
        have := Ht2.out.size
        obtain ⟨a, ha, rfl⟩ := List.getElem_of_mem hs
        have := (HC.out.row a ha).2.lt b hb2
        exact ⟨by omega, by omega⟩)
      have Hfp := Lib.hid hfp
      have Htr := Lib.hid (Ht2.out.trans0 HC.out.t)
      obtain ⟨W2, hW2⟩ : ∃ W2, W2 = wr := ⟨_, rfl⟩
      subst hW2
      clear hin0 hall hfp
      go_wp2_with fail
      refine HNw.out.mono ?_
      rintro e w3 hp
      obtain ⟨t3, g, X, ds, up, rfl, hG⟩ := hp.ok (by have := Hm.out; omega) Ha.out Hr.out
      have HG := Lib.hid hG
      have Ht3 := Lib.hid (Htr.out.trans0 t3)
      have H1 : Hid (MyS w2 w2.heap.size i sl w3 ∧ Touch fp w3 w3) := Lib.hid ⟨⟨_, HC.out.touch0 t3⟩, Touch.refl _ _⟩
      have Hsl := Lib.hid HC.out.len
      have Hup : Hid (up ≤ w3.heap.size) := Lib.hid hG.up
      obtain ⟨Y, hY⟩ : ∃ Y, Y = w2.heap.size := ⟨_, rfl⟩
      rw [← hY] at H1
      clear t3 hp hG HNw HC
      go_wp2_with fail
      rw [← hY]
      have HY := Lib.hid hY
      clear hY
      go_loopw [62] (fun y wr => ∃ a : Nat, a ≤ i ∧ y = .int .i64 a ∧ Hid (MyS w2 Y i sl wr ∧ Touch fp w3 wr)) (fun y _ => i - (intOf y).toNat)
      case atStart => exact ⟨0, by omega, rfl, H1⟩
      case round =>
        clear H1
        obtain ⟨a, hai, rfl, HM⟩ := hrel
        by_cases hali : a < i
        · have has : a < sl.length := by rw [Hsl.out]; exact hali
          have hat := HM.out.1.at_ a has
          have hsm := HM.out.1.small a has
          obtain ⟨⟨Aa, qa, ca⟩, hs⟩ : ∃ s, s = sl[a] := ⟨_, rfl⟩
          simp only [← hs] at hat hsm
          have Hs := Lib.hid hs
          clear hs
          go_wp2_with fail
          go_loopw [69] (fun y wr => ∃ k : Nat, k ≤ qa ∧ y = .int .i64 k ∧ Hid (MyS w2 Y i sl wr ∧ Touch fp w3 wr)) (fun y _ => qa - (intOf y).toNat)
          case atStart => exact ⟨0, by omega, rfl, HM⟩
          case round =>
            clear HM hat
            obtain ⟨k, hk, rfl, HM⟩ := hrel
            by_cases hkq : k < qa
            · have hat := HM.out.1.at_ a has
              obtain ⟨G, hA, hfr, ⟨v, hcell⟩, hge, hmem, hset⟩ := HM.out.1.head a has k (by rw [← Hs.out]; exact hkq)
              simp only [← Hs.out] at hat hA
              subst hA
              rw [← Hfp.out] at hmem
              have HZ := Lib.hid (And.intro (hset (-7)) (HM.out.2.setCell (p := ⟨G, k, none⟩) (.inl hmem) (.int .i64 (-7))))
              clear hset hmem hge
              go_wp2_with fail
              go_roundw
              case rel => exact ⟨k + 1, by omega, by go_num, HZ⟩
              case measure => simp [intOf]; omega
            · obtain rfl : k = qa := by omega
              go_wp2_with fail
              go_roundw
              case rel => exact ⟨a + 1, by omega, by go_num, HM⟩
              case measure => simp [intOf]; omega
        · obtain rfl : a = i := by omega
          have hG5 := HG.out.touch HM.out.2 (fun b hb => .inl (HFp.out b hb).2)
          have HG5 := Lib.hid hG5
          have Ht5 := Lib.hid (Ht3.out.trans HM.out.2 (fun b hb => .inr (HFp.out b hb).1))
          obtain ⟨W5, hW5⟩ : ∃ W5, W5 = wr := ⟨_, rfl⟩
          subst hW5
          clear hG5 HM HG Ht3
          have hD0 : ∀ k, k < N → ds.getD k 0 ≤ N := fun k hk => by
            have := HG5.out.dp.le (by have := Hm.out; omega) Ha.out k hk
            exact Nat.le_of_lt this
          have HD0 := Lib.hid hD0
          have Hns : Hid ((nsL N ls).length = N) := Lib.hid (nsL_length N ls)
          clear hD0
          go_wp2_with fail
          go_loopw [81] (fun y wr => ∃ x : Nat, x ≤ N ∧ y = .int .i64 x ∧ Hid (Touch [] W5 wr)) (fun y _ => N - (intOf y).toNat)
          case atStart => exact ⟨0, by omega, rfl, Lib.hid (Touch.refl _ _)⟩
          case round =>
            obtain ⟨x, hx, rfl, HT⟩ := hrel
            obtain ⟨W6, hW6⟩ : ∃ W6, W6 = wr := ⟨_, rfl⟩
            subst hW6
            by_cases hxN : x < N
            · obtain ⟨R1, hR1⟩ : ∃ R1, R1 = rowOf (nsL N ls) (x : Int) := ⟨_, rfl⟩
              obtain ⟨R2, hR2⟩ : ∃ R2, R2 = rowOf (told (nsL N ls)) (x : Int) := ⟨_, rfl⟩
              obtain ⟨R3, hR3⟩ : ∃ R3, R3 = iN (upN (nsL N ls) [(x : Int)]) := ⟨_, rfl⟩
              obtain ⟨R4, hR4⟩ : ∃ R4, R4 = iN (ordN N fun k => ds.getD k 0) := ⟨_, rfl⟩
              have hc1 := needs_any _ up g X (nsL N ls) _ ds (x : Int) W6 (HG5.out.gr.touch0 HT.out) HG5.out.short.1
              rw [← hR1] at hc1
              have HC1 := Lib.hid hc1
              have HC2 := Lib.hid (fun W (t : Touch [] W6 W) => by
                have := needed_any _ up g X (nsL N ls) _ ds (x : Int) W (HG5.out.gr.touch0 (HT.out.trans0 t)) HG5.out.short.2
                rw [← hR2] at this
                exact this)
              have HC3 := Lib.hid (fun W (t : Touch [] W6 W) => by
                have := above_any _ up g X (nsL N ls) ds (some ⟨W.heap.size, 0, none⟩) 1 1 [(x : Int)] rfl (by omega) _ (HG5.out.touch0 (HT.out.trans0 (t.trans0 ((Touch.refl [] W).alloc (.cells #[.int .i64 (x : Int)] 3))))) (rd_blk (heap_alloc_new W (.cells #[.int .i64 (x : Int)] 3)) _ rfl)
                rw [← hR3] at this
                exact this)
              have HC4 := Lib.hid (fun W (t : Touch [] W6 W) => by
                have := order_any _ up g X (nsL N ls) _ ds W (HG5.out.gr.touch0 (HT.out.trans0 t)) N Hns.out.symm (by omega) HD0.out
                rw [← hR4] at this
                exact this)
              clear hc1 hR1 hR2 hR3 hR4
              go_wp2_with fail
              refine HC1.out.mono ?_
              rintro e wa ⟨A1, c1, rfl, o1, t1, f1⟩
              have H1 := Lib.hid (And.intro o1 (And.intro f1 t1))
              have Hta := Lib.hid t1
              clear o1 t1 f1 HC1
              go_wp2_with fail
              refine (HC2.out _ Hta.out).mono ?_
              rintro e wb ⟨A2, c2, rfl, o2, t2, f2⟩
              have H2 := Lib.hid (And.intro o2 (And.intro f2 t2))
              have Htb := Lib.hid (Hta.out.trans0 t2)
              clear o2 t2 f2 HC2
              go_wp2_with fail
              refine (HC3.out _ Htb.out).mono ?_
              rintro e wc ⟨A3, c3, rfl, o3, t3, f3⟩
              have tal := (Touch.refl [] wb).alloc (.cells #[.int .i64 (x : Int)] 3)
              have H3 := Lib.hid (And.intro o3 (And.intro (show ∀ b ∈ fpo A3, wb.heap.size ≤ b from fun b hb => by have := f3 b hb; rw [World.size_alloc] at this; omega) (tal.trans0 t3)))
              have Htc := Lib.hid (Htb.out.trans0 (tal.trans0 t3))
              clear o3 t3 f3 HC3 tal
              go_wp2_with fail
              refine (HC4.out _ Htc.out).mono ?_
              rintro e wd ⟨A4, c4, rfl, o4, t4, f4⟩
              have HF := Lib.hid (TuS.four H1.out.1 H1.out.2.1 H1.out.2.2 H2.out.1 H2.out.2.1 H2.out.2.2 H3.out.1 H3.out.2.1 H3.out.2.2 o4 f4 t4)
              obtain ⟨Y2, hY2⟩ : ∃ Y2, Y2 = wd.heap.size := ⟨_, rfl⟩
              obtain ⟨sq, hsq⟩ : ∃ sq : List SL, sq = [⟨A1, R1.length, c1⟩, ⟨A2, R2.length, c2⟩, ⟨A3, R3.length, c3⟩, ⟨A4, R4.length, c4⟩] := ⟨_, rfl⟩
              rw [← hY2, ← hsq] at HF
              clear o4 t4 f4 HC4 H1 H2 H3 Hta Htb Htc hsq
              go_wp2_with fail
              rw [← hY2]
              clear hY2
              go_loopw [98] (fun y wr => ∃ j : Nat, j ≤ 4 ∧ y = .int .i64 j ∧ Hid (MyS W6 Y2 4 sq wr)) (fun y _ => 4 - (intOf y).toNat)
              case atStart => exact ⟨0, by omega, rfl, HF⟩
              case round =>
                clear HF
                obtain ⟨j, hj, rfl, HF⟩ := hrel
                by_cases hj4 : j < 4
                · have hjs : j < sq.length := by rw [HF.out.len]; exact hj4
                  have hat := HF.out.at_ j hjs
                  have hsm := HF.out.small j hjs
                  obtain ⟨⟨Aa, qa, ca⟩, hs⟩ : ∃ s, s = sq[j] := ⟨_, rfl⟩
                  simp only [← hs] at hat hsm
                  have Hs := Lib.hid hs
                  clear hs
                  go_wp2_with fail
                  go_loopw [104] (fun y wr => ∃ k : Nat, k ≤ qa ∧ y = .int .i64 k ∧ Hid (MyS W6 Y2 4 sq wr)) (fun y _ => qa - (intOf y).toNat)
                  case atStart => exact ⟨0, by omega, rfl, HF⟩
                  case round =>
                    clear HF hat
                    obtain ⟨k, hk, rfl, HF⟩ := hrel
                    by_cases hkq : k < qa
                    · obtain ⟨G, hA, hfr, ⟨v, hcell⟩, hge, hmem, hset⟩ := HF.out.head j hjs k (by rw [← Hs.out]; exact hkq)
                      simp only [← Hs.out] at hA
                      subst hA
                      have HZ := Lib.hid (hset (-9))
                      clear hset hmem hge
                      go_wp2_with fail
                      go_roundw
                      case rel => exact ⟨k + 1, by omega, by go_num, HZ⟩
                      case measure => simp [intOf]; omega
                    · obtain rfl : k = qa := by omega
                      go_wp2_with fail
                      go_roundw
                      case rel => exact ⟨j + 1, by omega, by go_num, HF⟩
                      case measure => simp [intOf]; omega
                · obtain rfl : j = 4 := by omega
                  have HT2 := Lib.hid (HT.out.trans0 HF.out.t)
                  go_wp2_with fail
                  go_roundw
                  case rel => exact ⟨x + 1, by omega, by go_num, HT2⟩
                  case measure => simp [intOf]; omega
            · obtain rfl : x = N := by omega
              have Ht6 := Lib.hid (Ht5.out.trans0 HT.out)
              have HG6 := Lib.hid (HG5.out.touch0 HT.out)
              have HNw := Lib.hid (new_any x (by omega) A c a ls Hm.out hmN W6 (h.touch0 Ht6.out) (fun l hl => by have := Hb.out l hl; omega))
              clear HG5 Ht5 HT
              go_wp2_with fail
              refine HNw.out.mono ?_
              rintro e w7 hp
              obtain ⟨t7, g2, X2, ds2, up2, rfl, hG2⟩ := hp.ok (by have := Hm.out; omega) Ha.out Hr.out
              have Ht7 := Lib.hid (Ht6.out.trans0 t7)
              have HA7 := Lib.hid (HG6.out.touch0 t7)
              have HB7 := Lib.hid hG2
              have hone : (fun k => ds.getD k 0) = fun k => ds2.getD k 0 := funext fun k => HG6.out.dp.one hG2.dp _ k rfl
              have hD2 : ∀ k, k < x → ds2.getD k 0 ≤ x := fun k hk => by rw [← congrFun hone k]; exact HD0.out k hk
              obtain ⟨R4, hR4⟩ : ∃ R4, R4 = iN (ordN x fun k => ds.getD k 0) := ⟨_, rfl⟩
              have hlen : R4.length = x := by rw [hR4]; unfold iN; rw [List.length_map]; exact ordN_len HD0.out
              have HO1 := Lib.hid (fun W (t : Touch [] w7 W) => by
                have := order_any _ up g X (nsL x ls) _ ds W (HA7.out.gr.touch0 t) x Hns.out.symm (by omega) HD0.out
                rw [← hR4] at this
                unfold OutI at this
                rw [hlen] at this
                exact this)
              have HO2 := Lib.hid (fun W (t : Touch [] w7 W) => by
                have := order_any _ up2 g2 X2 (nsL x ls) _ ds2 W (HB7.out.gr.touch0 t) x Hns.out.symm (by omega) hD2
                rw [← hone, ← hR4] at this
                unfold OutI at this
                rw [hlen] at this
                exact this)
              have Hlen := Lib.hid hlen
              have h11 : oneL R4 R4 = true := oneL_iff.2 rfl
              have H11 := Lib.hid h11
              clear hp t7 hG2 hone hD2 hR4 hlen h11 HNw HG6 Ht6
              go_wp2_with fail
              refine (HO1.out _ (Touch.refl _ _)).mono ?_
              rintro e wa ⟨A1, c1, rfl, o1, t1, f1⟩
              have H1 := Lib.hid (And.intro (rdI_of_ownI o1) t1)
              clear o1 t1 f1 HO1
              go_wp2_with fail
              refine (HO2.out _ H1.out.2).mono ?_
              rintro e wb ⟨A2, c2, rfl, o2, t2, f2⟩
              have H2 := Lib.hid (And.intro (rdI_of_ownI o2) (And.intro (Rd.touch0 H1.out.1 t2) (H1.out.2.trans0 t2)))
              have HSm := Lib.hid (same_any A1 c1 x R4 Hlen.out A2 c2 x R4 Hlen.out (by omega) (by omega) wb H2.out.2.1 H2.out.1)
              clear o2 t2 f2 HO2 H1
              go_wp2_with fail
              refine HSm.out.mono ?_
              rintro e wc ⟨rfl, tc⟩
              rw [H11.out]
              have HT8 := Lib.hid (H2.out.2.2.trans0 tc)
              clear tc HSm H2
              go_wp2_with fail
              go_loopw [130] (fun y wr => ∃ k : Nat, k ≤ x ∧ y = .int .i64 k ∧ Hid (Touch [] w7 wr)) (fun y _ => x - (intOf y).toNat)
              case atStart => exact ⟨0, by omega, rfl, HT8⟩
              case round =>
                clear HT8
                obtain ⟨k, hk, rfl, HT⟩ := hrel
                by_cases hkx : k < x
                · obtain ⟨R1, hR1⟩ : ∃ R1, R1 = rowOf (nsL x ls) (k : Int) := ⟨_, rfl⟩
                  obtain ⟨R2, hR2⟩ : ∃ R2, R2 = rowOf (told (nsL x ls)) (k : Int) := ⟨_, rfl⟩
                  have HC := Lib.hid (fun W (t : Touch [] w7 W) => by
                    have q1 := needs_any _ up g X (nsL x ls) _ ds (k : Int) W (HA7.out.gr.touch0 t) HA7.out.short.1
                    have q2 := needs_any _ up2 g2 X2 (nsL x ls) _ ds2 (k : Int) W (HB7.out.gr.touch0 t) HB7.out.short.1
                    have q3 := needed_any _ up g X (nsL x ls) _ ds (k : Int) W (HA7.out.gr.touch0 t) HA7.out.short.2
                    have q4 := needed_any _ up2 g2 X2 (nsL x ls) _ ds2 (k : Int) W (HB7.out.gr.touch0 t) HB7.out.short.2
                    rw [← hR1] at q1 q2
                    rw [← hR2] at q3 q4
                    exact And.intro q1 (And.intro q2 (And.intro q3 q4)))
                  have hb1 : R1.length ≤ 2000 := by
                    rw [hR1]; unfold rowOf
                    split
                    · unfold iN; rw [List.length_map]
                      rename_i hh
                      have := HA7.out.short.1 _ (List.getElem_mem (show (k : Int).toNat < (nsL x ls).length by omega))
                      rw [List.getD_eq_getElem?_getD, List.getElem?_eq_getElem (show (k : Int).toNat < (nsL x ls).length by omega)]
                      exact this
                    · simp
                  have hb2 : R2.length ≤ 2000 := by
                    rw [hR2]; unfold rowOf
                    split
                    · unfold iN; rw [List.length_map]
                      rename_i hh
                      have := HA7.out.short.2 _ (List.getElem_mem (show (k : Int).toNat < (told (nsL x ls)).length by omega))
                      rw [List.getD_eq_getElem?_getD, List.getElem?_eq_getElem (show (k : Int).toNat < (told (nsL x ls)).length by omega)]
                      exact this
                    · simp
                  obtain ⟨m1, hm1⟩ : ∃ m1, m1 = R1.length := ⟨_, rfl⟩
                  obtain ⟨m2, hm2⟩ : ∃ m2, m2 = R2.length := ⟨_, rfl⟩
                  rw [← hm1] at hb1
                  rw [← hm2] at hb2
                  have S1 := Lib.hid (show oneL R1 R1 = true from oneL_iff.2 rfl)
                  have S2 := Lib.hid (show oneL R2 R2 = true from oneL_iff.2 rfl)
                  have Hm1 := Lib.hid hm1
                  have Hm2 := Lib.hid hm2
                  clear hR1 hR2 hm1 hm2
                  go_wp2_with fail
                  refine (HC.out _ HT.out).1.mono ?_
                  rintro e va ⟨A1, c1, rfl, o1, t1, f1⟩
                  have H1 := Lib.hid (And.intro (rdI_of_ownI o1) (HT.out.trans0 t1))
                  rw [← Hm1.out]
                  clear o1 t1 f1
                  go_wp2_with fail
                  refine (HC.out _ H1.out.2).2.1.mono ?_
                  rintro e vb ⟨A2, c2, rfl, o2, t2, f2⟩
                  have HSm := Lib.hid (same_any A1 c1 m1 R1 Hm1.out.symm A2 c2 m1 R1 Hm1.out.symm (by omega) (by omega) vb (Rd.touch0 H1.out.1 t2) (rdI_of_ownI o2))
                  have H2 := Lib.hid (H1.out.2.trans0 t2)
                  rw [← Hm1.out]
                  clear o2 t2 f2 H1
                  go_wp2_with fail
                  refine HSm.out.mono ?_
                  rintro e vc ⟨rfl, tc⟩
                  rw [S1.out]
                  have H3 := Lib.hid (H2.out.trans0 tc)
                  clear tc HSm H2
                  go_wp2_with fail
                  refine (HC.out _ H3.out).2.2.1.mono ?_
                  rintro e vd ⟨A3, c3, rfl, o3, t3, f3⟩
                  have H4 := Lib.hid (And.intro (rdI_of_ownI o3) (H3.out.trans0 t3))
                  rw [← Hm2.out]
                  clear o3 t3 f3 H3
                  go_wp2_with fail
                  refine (HC.out _ H4.out.2).2.2.2.mono ?_
                  rintro e ve ⟨A4, c4, rfl, o4, t4, f4⟩
                  have HSm := Lib.hid (same_any A3 c3 m2 R2 Hm2.out.symm A4 c4 m2 R2 Hm2.out.symm (by omega) (by omega) ve (Rd.touch0 H4.out.1 t4) (rdI_of_ownI o4))
                  have H5 := Lib.hid (H4.out.2.trans0 t4)
                  rw [← Hm2.out]
                  clear o4 t4 f4 H4
                  go_wp2_with fail
                  refine HSm.out.mono ?_
                  rintro e vf ⟨rfl, tc⟩
                  rw [S2.out]
                  have H6 := Lib.hid (H5.out.trans0 tc)
                  clear tc HSm H5
                  go_wp2_with fail
                  go_roundw
                  case rel => exact ⟨k + 1, by omega, by go_num, H6⟩
                  case measure => simp [intOf]; omega
                · obtain rfl : k = x := by omega
                  go_wp2_with fail
                  refine (awake_any wr).mono ?_
                  rintro e w9 ⟨rfl, t9⟩
                  go_wp2
                  go_ret
                  exact ⟨rfl, (Ht7.out.trans0 HT.out).trans0 t9⟩
end Go.Proofs.Ytmehdlflhllhdaa
