/- bywashref10.item: the walk. For every text of at most some thousand bytes. -/
import Derived.Test.YtoabloeechphkaaDoorCronRSplit
import Derived.Test.YtoabloeechphkaaDoorCronRight
namespace Go.Proofs.YtoabloeechphkaaDoor
open Go.RowKit Go.Shelf

theorem head_drop (s : List UInt8) (p : Nat) : (s.drop p).head? = s[p]? := by rw [List.head?_drop]
theorem tail_drop' (s : List UInt8) (p : Nat) : (s.drop p).tail = s.drop (p + 1) := by rw [List.tail_drop]
section
variable {lo hi : Nat} {s : List UInt8} {star star0 : Bool} {fr to : Int} {p : Nat}
theorem fin20_none (h : s[p]? = some 47) (hr : rn (s.drop (p + 1)) = none) : finV lo hi star star0 fr to (s.drop p) = (0, 20) := by
  unfold finV; rw [head_drop, if_pos h, tail_drop', hr]
theorem fin20_star {st d : Nat} (h : s[p]? = some 47) (hr : rn (s.drop (p + 1)) = some (st, d)) : finV lo hi false star0 fr to (s.drop p) = (0, 20) := by
  unfold finV; rw [head_drop, if_pos h, tail_drop', hr]; simp
theorem fin20_rest {st d : Nat} (h : s[p]? = some 47) (hr : rn (s.drop (p + 1)) = some (st, d)) (hl : p + 1 + d < s.length) : finV lo hi true star0 fr to (s.drop p) = (0, 20) := by
  unfold finV; rw [head_drop, if_pos h, tail_drop', hr]; simp only; rw [if_pos trivial]
  unfold chkV
  rw [if_pos (.inl (by rw [List.drop_drop]; intro e; have := congrArg List.length e; simp at this; omega))]
theorem fin_ok {st d : Nat} (h : s[p]? = some 47) (hr : rn (s.drop (p + 1)) = some (st, d)) (hl : p + 1 + d = s.length) : finV lo hi true star0 fr to (s.drop p) = tailV lo hi fr to st := by
  unfold finV; rw [head_drop, if_pos h, tail_drop', hr]; simp only; rw [if_pos trivial]
  unfold chkV
  rw [List.drop_drop, hl, List.drop_length, if_neg (by simp)]
theorem fin20_tail (hl : p < s.length) (h : ¬ s[p]? = some 47) : finV lo hi star star0 fr to (s.drop p) = (0, 20) := by
  unfold finV; rw [head_drop, if_neg h]; unfold chkV
  rw [if_pos (.inl (by intro e; have := congrArg List.length e; simp at this; omega))]
theorem fin20_bare (hl : p = s.length) : finV lo hi star true fr to (s.drop p) = (0, 20) := by
  subst hl; unfold finV; rw [List.drop_length, if_neg (by simp)]; unfold chkV; rw [if_pos (.inr rfl)]
theorem fin_end (hl : p = s.length) : finV lo hi star false fr to (s.drop p) = tailV lo hi fr to 1 := by
  subst hl; unfold finV; rw [List.drop_length, if_neg (by simp)]; unfold chkV; rw [if_neg (by simp)]
theorem rit_star (h : s[0]? = some 42) : ritem lo hi s = finV lo hi true true lo hi (s.drop 1) := by
  unfold ritem; rw [← List.head?_eq_getElem?] at h; rw [if_pos h, List.drop_one]
theorem rit_none (h : ¬ s[0]? = some 42) (hr : rn s = none) : ritem lo hi s = (0, 20) := by
  unfold ritem; rw [← List.head?_eq_getElem?] at h; rw [if_neg h, hr]
theorem rit_no2 {n d : Nat} (h : ¬ s[0]? = some 42) (hr : rn s = some (n, d)) (h2 : s[d]? = some 45) (hr2 : rn (s.drop (d + 1)) = none) : ritem lo hi s = (0, 20) := by
  unfold ritem; rw [← List.head?_eq_getElem?] at h; rw [if_neg h, hr]; simp only; rw [head_drop, if_pos h2, tail_drop', hr2]
theorem rit_two {n d m d2 : Nat} (h : ¬ s[0]? = some 42) (hr : rn s = some (n, d)) (h2 : s[d]? = some 45) (hr2 : rn (s.drop (d + 1)) = some (m, d2)) : ritem lo hi s = finV lo hi true false n m (s.drop (d + 1 + d2)) := by
  unfold ritem; rw [← List.head?_eq_getElem?] at h; rw [if_neg h, hr]; simp only; rw [head_drop, if_pos h2, tail_drop', hr2]; simp only; rw [List.drop_drop]
theorem rit_one {n d : Nat} (h : ¬ s[0]? = some 42) (hr : rn s = some (n, d)) (h2 : ¬ s[d]? = some 45) : ritem lo hi s = finV lo hi false false n n (s.drop d) := by
  unfold ritem; rw [← List.head?_eq_getElem?] at h; rw [if_neg h, hr]; simp only; rw [head_drop, if_neg h2]
theorem tail30 {st : Int} (h : fr < lo ∨ hi < to ∨ to < fr ∨ st < 1 ∨ 59 < st) : tailV lo hi fr to st = (0, 30) := if_pos h
theorem tail_ok {a b k : Nat} (h : ¬ ((a : Int) < lo ∨ (hi : Int) < b ∨ (b : Int) < a ∨ (k : Int) < 1 ∨ 59 < (k : Int))) : tailV lo hi a b k = (rowV a b k, 0) := by
  unfold tailV; rw [if_neg h]; simp
theorem rn_bd {t : List UInt8} {n d : Nat} (h : rn t = some (n, d)) : 1 ≤ d ∧ d ≤ t.length ∧ n < 100 := by
  obtain ⟨v, u, e, hv, rfl, rfl⟩ := rn_some h
  have h1 := decN_lt v hv.2
  have h2 : (10 : Nat) ^ v.length ≤ 10 ^ 2 := Nat.pow_le_pow_right (by omega) hv.1.2
  exact ⟨hv.1.1, by rw [e, List.length_append]; omega, by omega⟩
theorem rnPost_none {a : Nat} (h : rn (s.drop a) = none) : rnPost s a = (0, -1) := by unfold rnPost; rw [h]
theorem rnPost_some {a n d q : Nat} (h : rn (s.drop a) = some (n, d)) (hq : q = a + d) : rnPost s a = ((n : Int), (q : Int)) := by unfold rnPost; rw [h, hq]; simp only; congr 1
theorem get_at {x : UInt8} (h : p < s.length) (e : s[p] = x) (c : UInt8) : s[p]? = some c ↔ x.toNat = c.toNat := by
  rw [List.getElem?_eq_getElem h, e, Option.some.injEq]
  exact ⟨fun e => by rw [e], fun e => UInt8.toNat_inj.1 e⟩
end
theorem refC_or (c : SD) (f : Nat) (hf : f < 5) (a : Bool) (s j : Nat) (hj : j < 64) : refC (c.put f (s ||| 2 ^ j) a) = (refC (c.put f s a)).set (f * 65 + j) (.bool true) := by
  apply List.ext_getElem?
  intro i
  rw [List.getElem?_set]
  by_cases hi : i < 325
  · rw [refC_get _ _ hi]
    by_cases he : f * 65 + j = i
    · subst he
      rw [if_pos rfl, if_pos (by rw [refC_length]; omega), refAt_bit _ f j hj]
      show some (Value.bool ((if f = f then s ||| 2 ^ j else c.set f).testBit j)) = _
      rw [if_pos rfl, Nat.testBit_or, Nat.testBit_two_pow_self, Bool.or_true]
    · rw [if_neg he, refC_get _ _ hi]
      congr 2
      unfold refAt
      by_cases h64 : i % 65 = 64
      · rw [if_pos h64, if_pos h64]; rfl
      · rw [if_neg h64, if_neg h64]
        show (if i / 65 = f then s ||| 2 ^ j else c.set (i / 65)).testBit (i % 65) = (if i / 65 = f then s else c.set (i / 65)).testBit (i % 65)
        by_cases hif : i / 65 = f
        · rw [if_pos hif, if_pos hif, Nat.testBit_or, Nat.testBit_two_pow]
          have : ¬ j = i % 65 := fun e => he (by have := Nat.div_add_mod i 65; omega)
          simp [this]
        · rw [if_neg hif, if_neg hif]
  · rw [List.getElem?_eq_none (by rw [refC_length]; omega), if_neg (by omega), List.getElem?_eq_none (by rw [refC_length]; omega)]
theorem put_eq (c : SD) (f : Nat) : c.put f (c.set f ||| 0) (c.any f) = c := by rw [Nat.or_zero]; exact put_same c f
/-- the row of the fields once some bits are set -/
def rowU (c : SD) (f v : Nat) : Array Value := (refC (c.put f (c.set f ||| v) (c.any f))).toArray
theorem rowU_zero (c : SD) (f : Nat) : rowU c f 0 = (refC c).toArray := by unfold rowU; rw [put_eq]
theorem rowU_set (c : SD) (f v j : Nat) (hf : f < 5) (hj : j < 64) : (rowU c f v).setIfInBounds (f * 65 + j) (.bool true) = rowU c f (v ||| 2 ^ j) := by
  unfold rowU
  rw [← Nat.or_assoc, refC_or c f hf _ _ j hj]; simp
theorem rowU_get (c : SD) (f v j : Nat) (hf : f < 5) (hj : j < 64) : ∃ b, (rowU c f v)[f * 65 + j]? = some (.bool b) := by
  unfold rowU
  rw [List.getElem?_toArray, refC_get _ _ (by omega)]
  exact ⟨_, rfl⟩

def ItemPost (B : Nat) (c : SD) (f : Nat) (s : List UInt8) (w : World) (e : Ending) (w' : World) : Prop :=
  e = .returned (.int .i64 (ritem (loF f) (hiF f) s).2) ∧ w'.heap[B]? = some (.cells (rowU c f (ritem (loF f) (hiF f) s).1) 34 (0, 0)) ∧ Touch [B] w w'

set_option maxRecDepth 100000 in
set_option maxHeartbeats 25600000 in
theorem ritem_any (f : Nat) (hf : f < 5) (s : List UInt8) (hs : s.length ≤ 100000) (B : Nat) (c : SD) (w : World) (hB : w.heap[B]? = some (.cells (refC c).toArray 34 (0, 0))) :
    Calls Tryd.prog 29 #[.int .i64 f, .string (S s), .pointer (some ⟨B, f * 65, none⟩)] w (ItemPost B c f s w) := by
  have hsz := S_size s
  have HN := Lib.hid (fun a ha => rnumber_any s (by omega) a ha)
  have hLow := fun w' => low_any f hf w'
  have hHigh := fun w' => high_any f hf w'
  have hll := loF_lt f
  have hhh := hiF_lt f
  rw [← rowU_zero c f] at hB
  have hP : ∀ v e w', ritem (loF f) (hiF f) s = (v, e) → w'.heap[B]? = some (.cells (rowU c f v) 34 (0, 0)) → Touch [B] w w' → ItemPost B c f s w (.returned (.int .i64 e)) w' := fun v e w' h1 h2 h3 => by
    unfold ItemPost; rw [h1]; exact ⟨rfl, h2, h3⟩
  have hq : ∀ e w', ritem (loF f) (hiF f) s = (0, e) → Touch [] w w' → ItemPost B c f s w (.returned (.int .i64 e)) w' := fun e w' h1 h3 => hP 0 e w' h1 (h3.blk hB (by simp)) (h3.mono (fun b hb => by simp at hb))
  obtain ⟨lo, hlo⟩ : ∃ lo, lo = loF f := ⟨_, rfl⟩
  obtain ⟨hi, hhi⟩ : ∃ hi, hi = hiF f := ⟨_, rfl⟩
  rw [← hlo] at hLow hll
  rw [← hhi] at hHigh hhh
  rw [← hlo, ← hhi] at hP hq
  have HL := Lib.hid hLow; have HH := Lib.hid hHigh; have HP := Lib.hid hP; have HQ := Lib.hid hq; have HB := Lib.hid hB
  clear hLow hHigh hP hq hlo hhi hB
  go_enter Tryd.func29, Tryd.ntmps29
  go_wp2_with fail
  refine (HL.out _).mono ?_
  rintro e w' ⟨rfl, rfl⟩
  go_wp2_with fail
  refine (HH.out _).mono ?_
  rintro e w1 ⟨rfl, t1⟩
  by_cases s0 : 0 < s.length
  · have hg0 := S_at s 0 (by rw [hsz]; exact s0)
    obtain ⟨y, hy⟩ : ∃ y, y = s[0] := ⟨_, rfl⟩
    rw [← hy] at hg0
    have hyi := get_at s0 hy.symm 42
    have hyl := y.toNat_lt
    have s0i : (0 : Int) < s.length := by omega
    clear hy
    by_cases y42 : y.toNat = 42
    · have Hf := Lib.hid (rit_star (lo := lo) (hi := hi) (hyi.2 y42))
      clear hyi
      by_cases q1 : 1 < s.length
      · have hg := S_at s 1 (by rw [hsz]; exact q1)
        obtain ⟨x, hx⟩ : ∃ x, x = s[1] := ⟨_, rfl⟩
        rw [← hx] at hg
        have hxi := get_at q1 hx.symm 47
        have hxl := x.toNat_lt
        have q1i : ((1 : Nat) : Int) < s.length := by omega
        clear hx
        by_cases q2 : x.toNat = 47
        · have h47 := hxi.2 q2
          have hN3 := HN.out (1 + 1) (by omega)
          rw [show ((1 + 1 : Nat) : Int) = ((1 : Nat) : Int) + 1 from by omega] at hN3
          rcases hr3 : rn (s.drop (1 + 1)) with _ | ⟨st, d3⟩
          · rw [rnPost_none hr3] at hN3
            have HN3 := Lib.hid hN3
            have Hz := Lib.hid (show ritem lo hi s = (0, 20) by rw [Hf.out]; exact fin20_none h47 hr3)
            clear hN3 hr3 h47 hxi
            go_wp2_with fail
            refine (HN3.out _).mono ?_
            rintro e w9 ⟨rfl, rfl⟩
            go_wp2_with fail
            go_ret
            exact HQ.out 20 _ Hz.out (t1)
          · obtain ⟨z1, z2, z3⟩ := rn_bd hr3
            rw [List.length_drop] at z2
            obtain ⟨p3, hp3⟩ : ∃ p3, p3 = 1 + 1 + d3 := ⟨_, rfl⟩
            rw [rnPost_some hr3 hp3] at hN3
            have HN3 := Lib.hid hN3
            have p30 : ¬ ((p3 : Nat) : Int) < 0 := by omega
            by_cases q3 : p3 = s.length
            · have Hr := Lib.hid (show ritem lo hi s = tailV lo hi lo hi st by rw [Hf.out]; exact fin_ok h47 hr3 (by omega))
              clear hN3 hr3 h47 hxi
              have p3n : ((p3 : Nat) : Int) = (s.length : Nat) := by omega
              rw [p3n] at HN3
              clear hp3 p3n p30 q3 z2
              go_wp2_with fail
              refine (HN3.out _).mono ?_
              rintro e w9 ⟨rfl, rfl⟩
              have TT : Touch [] w _ := t1
              by_cases b2 : (hi : Int) < lo
              · go_wp2_with fail
                refine (HL.out _).mono ?_
                rintro e w' ⟨rfl, rfl⟩
                go_wp2_with fail
                refine (HH.out _).mono ?_
                rintro e w8 ⟨rfl, t8⟩
                go_wp2_with fail
                go_ret
                exact HQ.out 30 _ (by rw [Hr.out]; exact tail30 (.inr (.inr (.inl b2)))) (TT.trans0 t8)
              by_cases b3 : (st : Int) < 1
              · go_wp2_with fail
                refine (HL.out _).mono ?_
                rintro e w' ⟨rfl, rfl⟩
                go_wp2_with fail
                refine (HH.out _).mono ?_
                rintro e w8 ⟨rfl, t8⟩
                go_wp2_with fail
                go_ret
                exact HQ.out 30 _ (by rw [Hr.out]; exact tail30 (.inr (.inr (.inr (.inl b3))))) (TT.trans0 t8)
              by_cases b4 : 59 < (st : Int)
              · go_wp2_with fail
                refine (HL.out _).mono ?_
                rintro e w' ⟨rfl, rfl⟩
                go_wp2_with fail
                refine (HH.out _).mono ?_
                rintro e w8 ⟨rfl, t8⟩
                go_wp2_with fail
                go_ret
                exact HQ.out 30 _ (by rw [Hr.out]; exact tail30 (.inr (.inr (.inr (.inr b4))))) (TT.trans0 t8)
              have Hok := Lib.hid (show ritem lo hi s = (rowV lo hi st, 0) by rw [Hr.out]; exact tail_ok (k := st) (by omega))
              go_wp2_with fail
              refine (HL.out _).mono ?_
              rintro e w' ⟨rfl, rfl⟩
              go_wp2_with fail
              refine (HH.out _).mono ?_
              rintro e w8 ⟨rfl, t8⟩
              have TT := TT.trans0 t8
              go_wp2_with fail
              go_loopw [13] (fun nv wr => ∃ j : Nat, lo ≤ j ∧ j ≤ hi + 1 ∧ nv = .int .i64 j ∧ Hid (wr.heap[B]? = some (.cells (rowU c f (setP (rowP lo hi st) j)) 34 (0, 0))) ∧ Touch [B] w wr) (fun nv _ => 200 - (intOf nv).toNat)
              case atStart => exact ⟨lo, Nat.le_refl _, by omega, rfl, Lib.hid (by rw [row_start]; exact TT.blk HB.out (by simp)), TT.mono (fun b hb => by simp at hb)⟩
              case round =>
                obtain ⟨j, hj1, hj2, rfl, hrow, ht⟩ := hrel
                by_cases hlt : j < hi + 1
                · have hset : setP (rowP lo hi st) (j + 1) = if rowP lo hi st j = true then setP (rowP lo hi st) j ||| 2 ^ j else setP (rowP lo hi st) j := rfl
                  have hrp : rowP lo hi st j = decide ((j - lo) % st = 0) := by unfold rowP; rw [decide_eq_true hj1, decide_eq_true (show j ≤ hi by omega)]; rfl
                  rw [hrp] at hset
                  obtain ⟨bv, hbv⟩ := rowU_get c f (setP (rowP lo hi st) j) j hf (by omega)
                  have hcell := cell_blk hrow.out hbv
                  have hfr := frozen_blk hrow.out (f * 65 + j)
                  have hnew := set_blk hrow.out (f * 65 + j) (.bool true)
                  rw [rowU_set c f _ j hf (by omega)] at hnew
                  obtain ⟨mq, hm⟩ : ∃ mq, mq = (j - lo) % st := ⟨_, rfl⟩
                  have hmi : ((j : Int) - lo) % (st : Nat) = (mq : Int) := by rw [hm, show ((j : Int) - lo) = ((j - lo : Nat) : Int) by omega]; rfl
                  have hmt : ((j : Int) - lo).tmod (st : Nat) = (mq : Int) := by rw [Int.tmod_eq_emod_of_nonneg (by omega)]; exact hmi
                  rw [← hm] at hset
                  have Hrow := hrow; have Hset := Lib.hid hset; have Hnew := Lib.hid hnew; have Hm := Lib.hid hm
                  have j0 : (0 : Int) ≤ (j : Int) := by omega
                  have j64 : (j : Int) < 64 := by omega
                  clear hset hnew hm hrp hbv
                  by_cases hm0 : mq = 0
                  · have Hs2 := Lib.hid (show setP (rowP lo hi st) (j + 1) = setP (rowP lo hi st) j ||| 2 ^ j by rw [Hset.out, decide_eq_true hm0]; rfl)
                    subst hm0
                    go_wp2_with fail
                    go_roundw
                    case rel => exact ⟨j + 1, by omega, by omega, by go_num, Lib.hid (by rw [Hs2.out]; exact Hnew.out), ht.setCell (p := ⟨B, f * 65 + j, none⟩) (.inl (by simp)) _⟩
                    case measure => simp [intOf]; omega
                  · have hmb : ((mq : Int) == 0) = false := by rw [beq_eq_false_iff_ne]; omega
                    have hmz : ((mq : Int) = 0) = False := eq_false (by omega)
                    have Hs2 := Lib.hid (show setP (rowP lo hi st) (j + 1) = setP (rowP lo hi st) j by rw [Hset.out, decide_eq_false hm0]; rfl)
                    clear hm0
                    go_wp2_with fail
                    go_roundw
                    case rel => exact ⟨j + 1, by omega, by omega, by go_num, Lib.hid (by rw [Hs2.out]; exact Hrow.out), ht⟩
                    case measure => simp [intOf]; omega
                · obtain rfl : j = hi + 1 := by omega
                  have hend := row_end lo hi st (hi + 1) (by omega) (by omega)
                  have hr2 := hrow.out
                  rw [hend] at hr2
                  have Hr2 := Lib.hid hr2
                  clear hr2 hend hrow
                  go_wp2_with fail
                  go_ret
                  exact HP.out _ 0 _ Hok.out Hr2.out ht
            · have Hz := Lib.hid (show ritem lo hi s = (0, 20) by rw [Hf.out]; exact fin20_rest h47 hr3 (by omega))
              have q3i : (((p3 : Nat) : Int) != s.length) = true := by rw [bne_iff_ne]; omega
              clear hN3 hr3 h47 hxi hp3
              go_wp2_with fail
              refine (HN3.out _).mono ?_
              rintro e w9 ⟨rfl, rfl⟩
              go_wp2_with fail
              go_ret
              exact HQ.out 20 _ Hz.out (t1)
        · have Hz := Lib.hid (show ritem lo hi s = (0, 20) by rw [Hf.out]; exact fin20_tail q1 (fun h => q2 (hxi.1 h)))
          have q2i : ((x.toNat : Int) = 47) = False := eq_false (by omega)
          have q2b : ((x.toNat : Int) == 47) = false := by rw [beq_eq_false_iff_ne]; omega
          have q3i : ((1 : Nat) : Int) ≠ s.length := by omega
          have q3b : ((((1 : Nat) : Int)) != s.length) = true := by rw [bne_iff_ne]; omega
          clear hxi
          go_wp2_with fail
          go_ret
          exact HQ.out 20 _ Hz.out (t1)
      · have q3 : 1 = s.length := by omega
        have q1i : ¬ ((1 : Nat) : Int) < s.length := by omega
        have Hz := Lib.hid (show ritem lo hi s = (0, 20) by rw [Hf.out]; exact fin20_bare q3)
        have q3i : (s.length : Int) = 1 := by omega
        go_wp2_with fail
        go_ret
        exact HQ.out 20 _ Hz.out (t1)
    · have y42i : ((y.toNat : Int) = 42) = False := eq_false (by omega)
      have y42b : ((y.toNat : Int) == 42) = false := by rw [beq_eq_false_iff_ne]; omega
      have hn42 : ¬ s[0]? = some 42 := fun h => y42 (hyi.1 h)
      have hN0 := HN.out 0 (by omega)
      clear hyi
      rcases hr0 : rn (s.drop 0) with _ | ⟨n, d⟩
      · rw [rnPost_none hr0] at hN0
        have HN0 := Lib.hid hN0
        have Hz := Lib.hid (show ritem lo hi s = (0, 20) from rit_none hn42 hr0)
        clear hN0 hr0 hn42
        go_wp2_with fail
        refine (HN0.out _).mono ?_
        rintro e w9 ⟨rfl, rfl⟩
        go_wp2_with fail
        go_ret
        exact HQ.out 20 _ Hz.out (t1)
      · obtain ⟨z1, z2, z3⟩ := rn_bd hr0
        rw [List.length_drop] at z2
        obtain ⟨p, hp⟩ : ∃ p, p = 0 + d := ⟨_, rfl⟩
        rw [rnPost_some hr0 hp] at hN0
        obtain rfl : d = p := by omega
        have HN0 := Lib.hid hN0
        have Hr0 := Lib.hid hr0
        have Hn42 := Lib.hid hn42
        clear hN0 hr0 hp hn42
        have p0 : ¬ ((d : Nat) : Int) < 0 := by omega
        by_cases q45 : s[d]? = some 45
        · have q1 : d < s.length := (List.getElem?_eq_some_iff.1 q45).1
          have hg := S_at s d (by rw [hsz]; exact q1)
          have hx45 : s[d] = 45 := (List.getElem?_eq_some_iff.1 q45).2
          rw [hx45] at hg
          have q1i : ((d : Nat) : Int) < s.length := by omega
          have hN2 := HN.out (d + 1) (by omega)
          rw [show ((d + 1 : Nat) : Int) = ((d : Nat) : Int) + 1 from by omega] at hN2
          rcases hr2 : rn (s.drop (d + 1)) with _ | ⟨m, d2⟩
          · rw [rnPost_none hr2] at hN2
            have HN2 := Lib.hid hN2
            have Hz := Lib.hid (show ritem lo hi s = (0, 20) from rit_no2 Hn42.out Hr0.out q45 hr2)
            clear hN2 hr2 q45 hx45
            go_wp2_with fail
            refine (HN0.out _).mono ?_
            rintro e w9 ⟨rfl, rfl⟩
            go_wp2_with fail
            refine (HN2.out _).mono ?_
            rintro e w9 ⟨rfl, rfl⟩
            go_wp2_with fail
            go_ret
            exact HQ.out 20 _ Hz.out (t1)
          · obtain ⟨v1, v2, v3⟩ := rn_bd hr2
            rw [List.length_drop] at v2
            obtain ⟨p2, hp2⟩ : ∃ p2, p2 = d + 1 + d2 := ⟨_, rfl⟩
            rw [rnPost_some hr2 hp2] at hN2
            have HN2 := Lib.hid hN2
            have hf2 := rit_two (lo := lo) (hi := hi) Hn42.out Hr0.out q45 hr2
            rw [← hp2] at hf2
            have Hf := Lib.hid hf2
            have p20 : ¬ ((p2 : Nat) : Int) < 0 := by omega
            have hp2l : p2 ≤ s.length := by omega
            clear hN2 hr2 q45 hx45 hf2 hp2
            go_wp2_with fail
            refine (HN0.out _).mono ?_
            rintro e w9 ⟨rfl, rfl⟩
            go_wp2_with fail
            refine (HN2.out _).mono ?_
            rintro e w9 ⟨rfl, rfl⟩
            clear hg q1i q1
            by_cases q1 : p2 < s.length
            · have hg := S_at s p2 (by rw [hsz]; exact q1)
              obtain ⟨x, hx⟩ : ∃ x, x = s[p2] := ⟨_, rfl⟩
              rw [← hx] at hg
              have hxi := get_at q1 hx.symm 47
              have hxl := x.toNat_lt
              have q1i : ((p2 : Nat) : Int) < s.length := by omega
              clear hx
              by_cases q2 : x.toNat = 47
              · have h47 := hxi.2 q2
                have hN3 := HN.out (p2 + 1) (by omega)
                rw [show ((p2 + 1 : Nat) : Int) = ((p2 : Nat) : Int) + 1 from by omega] at hN3
                rcases hr3 : rn (s.drop (p2 + 1)) with _ | ⟨st, d3⟩
                · rw [rnPost_none hr3] at hN3
                  have HN3 := Lib.hid hN3
                  have Hz := Lib.hid (show ritem lo hi s = (0, 20) by rw [Hf.out]; exact fin20_none h47 hr3)
                  clear hN3 hr3 h47 hxi
                  go_wp2_with fail
                  refine (HN3.out _).mono ?_
                  rintro e w9 ⟨rfl, rfl⟩
                  go_wp2_with fail
                  go_ret
                  exact HQ.out 20 _ Hz.out (t1)
                · obtain ⟨z1, z2, z3⟩ := rn_bd hr3
                  rw [List.length_drop] at z2
                  obtain ⟨p3, hp3⟩ : ∃ p3, p3 = p2 + 1 + d3 := ⟨_, rfl⟩
                  rw [rnPost_some hr3 hp3] at hN3
                  have HN3 := Lib.hid hN3
                  have p30 : ¬ ((p3 : Nat) : Int) < 0 := by omega
                  by_cases q3 : p3 = s.length
                  · have Hr := Lib.hid (show ritem lo hi s = tailV lo hi n m st by rw [Hf.out]; exact fin_ok h47 hr3 (by omega))
                    clear hN3 hr3 h47 hxi
                    have p3n : ((p3 : Nat) : Int) = (s.length : Nat) := by omega
                    rw [p3n] at HN3
                    clear hp3 p3n p30 q3 z2
                    go_wp2_with fail
                    refine (HN3.out _).mono ?_
                    rintro e w9 ⟨rfl, rfl⟩
                    have TT : Touch [] w _ := t1
                    by_cases b0 : (n : Int) < lo
                    · go_wp2_with fail
                      refine (HL.out _).mono ?_
                      rintro e w' ⟨rfl, rfl⟩
                      go_wp2_with fail
                      go_ret
                      exact HQ.out 30 _ (by rw [Hr.out]; exact tail30 (.inl b0)) (TT)
                    by_cases b1 : (hi : Int) < m
                    · go_wp2_with fail
                      refine (HL.out _).mono ?_
                      rintro e w' ⟨rfl, rfl⟩
                      go_wp2_with fail
                      refine (HH.out _).mono ?_
                      rintro e w8 ⟨rfl, t8⟩
                      go_wp2_with fail
                      go_ret
                      exact HQ.out 30 _ (by rw [Hr.out]; exact tail30 (.inr (.inl b1))) (TT.trans0 t8)
                    by_cases b2 : (m : Int) < n
                    · go_wp2_with fail
                      refine (HL.out _).mono ?_
                      rintro e w' ⟨rfl, rfl⟩
                      go_wp2_with fail
                      refine (HH.out _).mono ?_
                      rintro e w8 ⟨rfl, t8⟩
                      go_wp2_with fail
                      go_ret
                      exact HQ.out 30 _ (by rw [Hr.out]; exact tail30 (.inr (.inr (.inl b2)))) (TT.trans0 t8)
                    by_cases b3 : (st : Int) < 1
                    · go_wp2_with fail
                      refine (HL.out _).mono ?_
                      rintro e w' ⟨rfl, rfl⟩
                      go_wp2_with fail
                      refine (HH.out _).mono ?_
                      rintro e w8 ⟨rfl, t8⟩
                      go_wp2_with fail
                      go_ret
                      exact HQ.out 30 _ (by rw [Hr.out]; exact tail30 (.inr (.inr (.inr (.inl b3))))) (TT.trans0 t8)
                    by_cases b4 : 59 < (st : Int)
                    · go_wp2_with fail
                      refine (HL.out _).mono ?_
                      rintro e w' ⟨rfl, rfl⟩
                      go_wp2_with fail
                      refine (HH.out _).mono ?_
                      rintro e w8 ⟨rfl, t8⟩
                      go_wp2_with fail
                      go_ret
                      exact HQ.out 30 _ (by rw [Hr.out]; exact tail30 (.inr (.inr (.inr (.inr b4))))) (TT.trans0 t8)
                    have Hok := Lib.hid (show ritem lo hi s = (rowV n m st, 0) by rw [Hr.out]; exact tail_ok (k := st) (by omega))
                    go_wp2_with fail
                    refine (HL.out _).mono ?_
                    rintro e w' ⟨rfl, rfl⟩
                    go_wp2_with fail
                    refine (HH.out _).mono ?_
                    rintro e w8 ⟨rfl, t8⟩
                    have TT := TT.trans0 t8
                    go_wp2_with fail
                    go_loopw [13] (fun nv wr => ∃ j : Nat, n ≤ j ∧ j ≤ m + 1 ∧ nv = .int .i64 j ∧ Hid (wr.heap[B]? = some (.cells (rowU c f (setP (rowP n m st) j)) 34 (0, 0))) ∧ Touch [B] w wr) (fun nv _ => 200 - (intOf nv).toNat)
                    case atStart => exact ⟨n, Nat.le_refl _, by omega, rfl, Lib.hid (by rw [row_start]; exact TT.blk HB.out (by simp)), TT.mono (fun b hb => by simp at hb)⟩
                    case round =>
                      obtain ⟨j, hj1, hj2, rfl, hrow, ht⟩ := hrel
                      by_cases hlt : j < m + 1
                      · have hset : setP (rowP n m st) (j + 1) = if rowP n m st j = true then setP (rowP n m st) j ||| 2 ^ j else setP (rowP n m st) j := rfl
                        have hrp : rowP n m st j = decide ((j - n) % st = 0) := by unfold rowP; rw [decide_eq_true hj1, decide_eq_true (show j ≤ m by omega)]; rfl
                        rw [hrp] at hset
                        obtain ⟨bv, hbv⟩ := rowU_get c f (setP (rowP n m st) j) j hf (by omega)
                        have hcell := cell_blk hrow.out hbv
                        have hfr := frozen_blk hrow.out (f * 65 + j)
                        have hnew := set_blk hrow.out (f * 65 + j) (.bool true)
                        rw [rowU_set c f _ j hf (by omega)] at hnew
                        obtain ⟨mq, hm⟩ : ∃ mq, mq = (j - n) % st := ⟨_, rfl⟩
                        have hmi : ((j : Int) - n) % (st : Nat) = (mq : Int) := by rw [hm, show ((j : Int) - n) = ((j - n : Nat) : Int) by omega]; rfl
                        have hmt : ((j : Int) - n).tmod (st : Nat) = (mq : Int) := by rw [Int.tmod_eq_emod_of_nonneg (by omega)]; exact hmi
                        rw [← hm] at hset
                        have Hrow := hrow; have Hset := Lib.hid hset; have Hnew := Lib.hid hnew; have Hm := Lib.hid hm
                        have j0 : (0 : Int) ≤ (j : Int) := by omega
                        have j64 : (j : Int) < 64 := by omega
                        clear hset hnew hm hrp hbv
                        by_cases hm0 : mq = 0
                        · have Hs2 := Lib.hid (show setP (rowP n m st) (j + 1) = setP (rowP n m st) j ||| 2 ^ j by rw [Hset.out, decide_eq_true hm0]; rfl)
                          subst hm0
                          go_wp2_with fail
                          go_roundw
                          case rel => exact ⟨j + 1, by omega, by omega, by go_num, Lib.hid (by rw [Hs2.out]; exact Hnew.out), ht.setCell (p := ⟨B, f * 65 + j, none⟩) (.inl (by simp)) _⟩
                          case measure => simp [intOf]; omega
                        · have hmb : ((mq : Int) == 0) = false := by rw [beq_eq_false_iff_ne]; omega
                          have hmz : ((mq : Int) = 0) = False := eq_false (by omega)
                          have Hs2 := Lib.hid (show setP (rowP n m st) (j + 1) = setP (rowP n m st) j by rw [Hset.out, decide_eq_false hm0]; rfl)
                          clear hm0
                          go_wp2_with fail
                          go_roundw
                          case rel => exact ⟨j + 1, by omega, by omega, by go_num, Lib.hid (by rw [Hs2.out]; exact Hrow.out), ht⟩
                          case measure => simp [intOf]; omega
                      · obtain rfl : j = m + 1 := by omega
                        have hend := row_end n m st (m + 1) (by omega) (by omega)
                        have hr2 := hrow.out
                        rw [hend] at hr2
                        have Hr2 := Lib.hid hr2
                        clear hr2 hend hrow
                        go_wp2_with fail
                        go_ret
                        exact HP.out _ 0 _ Hok.out Hr2.out ht
                  · have Hz := Lib.hid (show ritem lo hi s = (0, 20) by rw [Hf.out]; exact fin20_rest h47 hr3 (by omega))
                    have q3i : (((p3 : Nat) : Int) != s.length) = true := by rw [bne_iff_ne]; omega
                    clear hN3 hr3 h47 hxi hp3
                    go_wp2_with fail
                    refine (HN3.out _).mono ?_
                    rintro e w9 ⟨rfl, rfl⟩
                    go_wp2_with fail
                    go_ret
                    exact HQ.out 20 _ Hz.out (t1)
              · have Hz := Lib.hid (show ritem lo hi s = (0, 20) by rw [Hf.out]; exact fin20_tail q1 (fun h => q2 (hxi.1 h)))
                have q2i : ((x.toNat : Int) = 47) = False := eq_false (by omega)
                have q2b : ((x.toNat : Int) == 47) = false := by rw [beq_eq_false_iff_ne]; omega
                have q3i : ((p2 : Nat) : Int) ≠ s.length := by omega
                have q3b : ((((p2 : Nat) : Int)) != s.length) = true := by rw [bne_iff_ne]; omega
                clear hxi
                go_wp2_with fail
                go_ret
                exact HQ.out 20 _ Hz.out (t1)
            · have q3 : p2 = s.length := by omega
              have q1i : ¬ ((p2 : Nat) : Int) < s.length := by omega
              have Hr := Lib.hid (show ritem lo hi s = tailV lo hi n m 1 by rw [Hf.out]; exact fin_end q3)
              have q3b : ((((p2 : Nat) : Int)) != s.length) = false := by rw [bne_eq_false_iff_eq]; omega
              have TT : Touch [] w _ := t1
              by_cases b0 : (n : Int) < lo
              · go_wp2_with fail
                refine (HL.out _).mono ?_
                rintro e w' ⟨rfl, rfl⟩
                go_wp2_with fail
                go_ret
                exact HQ.out 30 _ (by rw [Hr.out]; exact tail30 (.inl b0)) (TT)
              by_cases b1 : (hi : Int) < m
              · go_wp2_with fail
                refine (HL.out _).mono ?_
                rintro e w' ⟨rfl, rfl⟩
                go_wp2_with fail
                refine (HH.out _).mono ?_
                rintro e w8 ⟨rfl, t8⟩
                go_wp2_with fail
                go_ret
                exact HQ.out 30 _ (by rw [Hr.out]; exact tail30 (.inr (.inl b1))) (TT.trans0 t8)
              by_cases b2 : (m : Int) < n
              · go_wp2_with fail
                refine (HL.out _).mono ?_
                rintro e w' ⟨rfl, rfl⟩
                go_wp2_with fail
                refine (HH.out _).mono ?_
                rintro e w8 ⟨rfl, t8⟩
                go_wp2_with fail
                go_ret
                exact HQ.out 30 _ (by rw [Hr.out]; exact tail30 (.inr (.inr (.inl b2)))) (TT.trans0 t8)
              have Hok := Lib.hid (show ritem lo hi s = (rowV n m 1, 0) by rw [Hr.out]; exact tail_ok (k := 1) (by omega))
              go_wp2_with fail
              refine (HL.out _).mono ?_
              rintro e w' ⟨rfl, rfl⟩
              go_wp2_with fail
              refine (HH.out _).mono ?_
              rintro e w8 ⟨rfl, t8⟩
              have TT := TT.trans0 t8
              go_wp2_with fail
              go_loopw [13] (fun nv wr => ∃ j : Nat, n ≤ j ∧ j ≤ m + 1 ∧ nv = .int .i64 j ∧ Hid (wr.heap[B]? = some (.cells (rowU c f (setP (rowP n m 1) j)) 34 (0, 0))) ∧ Touch [B] w wr) (fun nv _ => 200 - (intOf nv).toNat)
              case atStart => exact ⟨n, Nat.le_refl _, by omega, rfl, Lib.hid (by rw [row_start]; exact TT.blk HB.out (by simp)), TT.mono (fun b hb => by simp at hb)⟩
              case round =>
                obtain ⟨j, hj1, hj2, rfl, hrow, ht⟩ := hrel
                by_cases hlt : j < m + 1
                · have hset : setP (rowP n m 1) (j + 1) = if rowP n m 1 j = true then setP (rowP n m 1) j ||| 2 ^ j else setP (rowP n m 1) j := rfl
                  have hrp : rowP n m 1 j = decide ((j - n) % 1 = 0) := by unfold rowP; rw [decide_eq_true hj1, decide_eq_true (show j ≤ m by omega)]; rfl
                  rw [hrp] at hset
                  obtain ⟨bv, hbv⟩ := rowU_get c f (setP (rowP n m 1) j) j hf (by omega)
                  have hcell := cell_blk hrow.out hbv
                  have hfr := frozen_blk hrow.out (f * 65 + j)
                  have hnew := set_blk hrow.out (f * 65 + j) (.bool true)
                  rw [rowU_set c f _ j hf (by omega)] at hnew
                  obtain ⟨mq, hm⟩ : ∃ mq, mq = (j - n) % 1 := ⟨_, rfl⟩
                  have hmi : ((j : Int) - n) % (1 : Nat) = (mq : Int) := by rw [hm, show ((j : Int) - n) = ((j - n : Nat) : Int) by omega]; rfl
                  have hmt : ((j : Int) - n).tmod (1 : Nat) = (mq : Int) := by rw [Int.tmod_eq_emod_of_nonneg (by omega)]; exact hmi
                  rw [← hm] at hset
                  have Hrow := hrow; have Hset := Lib.hid hset; have Hnew := Lib.hid hnew; have Hm := Lib.hid hm
                  have j0 : (0 : Int) ≤ (j : Int) := by omega
                  have j64 : (j : Int) < 64 := by omega
                  clear hset hnew hm hrp hbv
                  by_cases hm0 : mq = 0
                  · have Hs2 := Lib.hid (show setP (rowP n m 1) (j + 1) = setP (rowP n m 1) j ||| 2 ^ j by rw [Hset.out, decide_eq_true hm0]; rfl)
                    subst hm0
                    go_wp2_with fail
                    go_roundw
                    case rel => exact ⟨j + 1, by omega, by omega, by go_num, Lib.hid (by rw [Hs2.out]; exact Hnew.out), ht.setCell (p := ⟨B, f * 65 + j, none⟩) (.inl (by simp)) _⟩
                    case measure => simp [intOf]; omega
                  · exact absurd (by have := Hm.out; omega) hm0
                · obtain rfl : j = m + 1 := by omega
                  have hend := row_end n m 1 (m + 1) (by omega) (by omega)
                  have hr2 := hrow.out
                  rw [hend] at hr2
                  have Hr2 := Lib.hid hr2
                  clear hr2 hend hrow
                  go_wp2_with fail
                  go_ret
                  exact HP.out _ 0 _ Hok.out Hr2.out ht
        · have Hf := Lib.hid (rit_one (lo := lo) (hi := hi) Hn42.out Hr0.out q45)
          go_wp2_with fail
          refine (HN0.out _).mono ?_
          rintro e w9 ⟨rfl, rfl⟩
          have h45 : ∀ (h : d < s.length), ((s[d].toNat : Nat) : Int) ≠ 45 := fun h e => q45 ((get_at h rfl 45).2 (by show s[d].toNat = 45; omega))
          clear q45
          have H45 := Lib.hid h45
          clear h45
          by_cases q1 : d < s.length
          · have hg := S_at s d (by rw [hsz]; exact q1)
            obtain ⟨x, hx⟩ : ∃ x, x = s[d] := ⟨_, rfl⟩
            rw [← hx] at hg
            have hxi := get_at q1 hx.symm 47
            have hxl := x.toNat_lt
            have q1i : ((d : Nat) : Int) < s.length := by omega
            have h45 := H45.out q1
            rw [← hx] at h45
            have h45i : ((x.toNat : Int) = 45) = False := eq_false h45
            have h45b : ((x.toNat : Int) == 45) = false := by rw [beq_eq_false_iff_ne]; exact h45
            clear hx
            by_cases q2 : x.toNat = 47
            · have h47 := hxi.2 q2
              have hN3 := HN.out (d + 1) (by omega)
              rw [show ((d + 1 : Nat) : Int) = ((d : Nat) : Int) + 1 from by omega] at hN3
              rcases hr3 : rn (s.drop (d + 1)) with _ | ⟨st, d3⟩
              · rw [rnPost_none hr3] at hN3
                have HN3 := Lib.hid hN3
                have Hz := Lib.hid (show ritem lo hi s = (0, 20) by rw [Hf.out]; exact fin20_none h47 hr3)
                clear hN3 hr3 h47 hxi
                go_wp2_with fail
                refine (HN3.out _).mono ?_
                rintro e w9 ⟨rfl, rfl⟩
                go_wp2_with fail
                go_ret
                exact HQ.out 20 _ Hz.out (t1)
              · obtain ⟨z1, z2, z3⟩ := rn_bd hr3
                rw [List.length_drop] at z2
                obtain ⟨p3, hp3⟩ : ∃ p3, p3 = d + 1 + d3 := ⟨_, rfl⟩
                rw [rnPost_some hr3 hp3] at hN3
                have HN3 := Lib.hid hN3
                have Hz := Lib.hid (show ritem lo hi s = (0, 20) by rw [Hf.out]; exact fin20_star h47 hr3)
                clear hN3 hr3 h47 hxi hp3
                have p30 : ¬ ((p3 : Nat) : Int) < 0 := by omega
                go_wp2_with fail
                refine (HN3.out _).mono ?_
                rintro e w9 ⟨rfl, rfl⟩
                go_wp2_with fail
                go_ret
                exact HQ.out 20 _ Hz.out (t1)
            · have Hz := Lib.hid (show ritem lo hi s = (0, 20) by rw [Hf.out]; exact fin20_tail q1 (fun h => q2 (hxi.1 h)))
              have q2i : ((x.toNat : Int) = 47) = False := eq_false (by omega)
              have q2b : ((x.toNat : Int) == 47) = false := by rw [beq_eq_false_iff_ne]; omega
              have q3i : ((d : Nat) : Int) ≠ s.length := by omega
              have q3b : ((((d : Nat) : Int)) != s.length) = true := by rw [bne_iff_ne]; omega
              clear hxi
              go_wp2_with fail
              go_ret
              exact HQ.out 20 _ Hz.out (t1)
          · have q3 : d = s.length := by omega
            have q1i : ¬ ((d : Nat) : Int) < s.length := by omega
            have Hr := Lib.hid (show ritem lo hi s = tailV lo hi n n 1 by rw [Hf.out]; exact fin_end q3)
            have q3b : ((((d : Nat) : Int)) != s.length) = false := by rw [bne_eq_false_iff_eq]; omega
            have TT : Touch [] w _ := t1
            by_cases b0 : (n : Int) < lo
            · go_wp2_with fail
              refine (HL.out _).mono ?_
              rintro e w' ⟨rfl, rfl⟩
              go_wp2_with fail
              go_ret
              exact HQ.out 30 _ (by rw [Hr.out]; exact tail30 (.inl b0)) (TT)
            by_cases b1 : (hi : Int) < n
            · go_wp2_with fail
              refine (HL.out _).mono ?_
              rintro e w' ⟨rfl, rfl⟩
              go_wp2_with fail
              refine (HH.out _).mono ?_
              rintro e w8 ⟨rfl, t8⟩
              go_wp2_with fail
              go_ret
              exact HQ.out 30 _ (by rw [Hr.out]; exact tail30 (.inr (.inl b1))) (TT.trans0 t8)
            have Hok := Lib.hid (show ritem lo hi s = (rowV n n 1, 0) by rw [Hr.out]; exact tail_ok (k := 1) (by omega))
            go_wp2_with fail
            refine (HL.out _).mono ?_
            rintro e w' ⟨rfl, rfl⟩
            go_wp2_with fail
            refine (HH.out _).mono ?_
            rintro e w8 ⟨rfl, t8⟩
            have TT := TT.trans0 t8
            go_wp2_with fail
            go_loopw [13] (fun nv wr => ∃ j : Nat, n ≤ j ∧ j ≤ n + 1 ∧ nv = .int .i64 j ∧ Hid (wr.heap[B]? = some (.cells (rowU c f (setP (rowP n n 1) j)) 34 (0, 0))) ∧ Touch [B] w wr) (fun nv _ => 200 - (intOf nv).toNat)
            case atStart => exact ⟨n, Nat.le_refl _, by omega, rfl, Lib.hid (by rw [row_start]; exact TT.blk HB.out (by simp)), TT.mono (fun b hb => by simp at hb)⟩
            case round =>
              obtain ⟨j, hj1, hj2, rfl, hrow, ht⟩ := hrel
              by_cases hlt : j < n + 1
              · have hset : setP (rowP n n 1) (j + 1) = if rowP n n 1 j = true then setP (rowP n n 1) j ||| 2 ^ j else setP (rowP n n 1) j := rfl
                have hrp : rowP n n 1 j = decide ((j - n) % 1 = 0) := by unfold rowP; rw [decide_eq_true hj1, decide_eq_true (show j ≤ n by omega)]; rfl
                rw [hrp] at hset
                obtain ⟨bv, hbv⟩ := rowU_get c f (setP (rowP n n 1) j) j hf (by omega)
                have hcell := cell_blk hrow.out hbv
                have hfr := frozen_blk hrow.out (f * 65 + j)
                have hnew := set_blk hrow.out (f * 65 + j) (.bool true)
                rw [rowU_set c f _ j hf (by omega)] at hnew
                obtain ⟨mq, hm⟩ : ∃ mq, mq = (j - n) % 1 := ⟨_, rfl⟩
                have hmi : ((j : Int) - n) % (1 : Nat) = (mq : Int) := by rw [hm, show ((j : Int) - n) = ((j - n : Nat) : Int) by omega]; rfl
                have hmt : ((j : Int) - n).tmod (1 : Nat) = (mq : Int) := by rw [Int.tmod_eq_emod_of_nonneg (by omega)]; exact hmi
                rw [← hm] at hset
                have Hrow := hrow; have Hset := Lib.hid hset; have Hnew := Lib.hid hnew; have Hm := Lib.hid hm
                have j0 : (0 : Int) ≤ (j : Int) := by omega
                have j64 : (j : Int) < 64 := by omega
                clear hset hnew hm hrp hbv
                by_cases hm0 : mq = 0
                · have Hs2 := Lib.hid (show setP (rowP n n 1) (j + 1) = setP (rowP n n 1) j ||| 2 ^ j by rw [Hset.out, decide_eq_true hm0]; rfl)
                  subst hm0
                  go_wp2_with fail
                  go_roundw
                  case rel => exact ⟨j + 1, by omega, by omega, by go_num, Lib.hid (by rw [Hs2.out]; exact Hnew.out), ht.setCell (p := ⟨B, f * 65 + j, none⟩) (.inl (by simp)) _⟩
                  case measure => simp [intOf]; omega
                · exact absurd (by have := Hm.out; omega) hm0
              · obtain rfl : j = n + 1 := by omega
                have hend := row_end n n 1 (n + 1) (by omega) (by omega)
                have hr2 := hrow.out
                rw [hend] at hr2
                have Hr2 := Lib.hid hr2
                clear hr2 hend hrow
                go_wp2_with fail
                go_ret
                exact HP.out _ 0 _ Hok.out Hr2.out ht
  · have hs0 : s = [] := List.length_eq_zero_iff.1 (by omega)
    subst hs0
    have hN0 := HN.out 0 (by simp)
    rw [rnPost_none (a := 0) (s := []) (by rfl)] at hN0
    have HN0 := Lib.hid hN0
    clear hN0
    go_wp2_with fail
    refine (HN0.out _).mono ?_
    rintro e w9 ⟨rfl, rfl⟩
    go_wp2_with fail
    go_ret
    exact HQ.out 20 _ (rit_none (by simp) (by rfl)) (t1)
end Go.Proofs.YtoabloeechphkaaDoor
