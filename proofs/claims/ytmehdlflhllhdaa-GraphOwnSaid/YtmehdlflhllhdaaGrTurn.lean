/- bywashlaw16.GraphTurns: the walk of the law. For every input. -/
import Derived.Test.YtmehdlflhllhdaaGrTu
namespace Go.Proofs.Ytmehdlflhllhdaa
open Go.RowKit

/-- what the turned rows hold so far: i rows are through, and p of the next one -/
def TuOk (ls : List (List Int)) (i p : Nat) (f : Nat → List Int) : Prop :=
  (∀ (b : Nat) (y : Int), y ∈ f b ↔ ∃ a : Nat, y = a ∧ ((a < i ∧ (b : Int) ∈ ls.getD a []) ∨ (a = i ∧ (b : Int) ∈ (ls.getD i []).take p))) ∧ ∀ b, (f b).length ≤ 40 * i + p
theorem TuOk.zero (ls : List (List Int)) : TuOk ls 0 0 (fun _ => []) := by
  refine ⟨fun b y => ?_, fun b => by simp⟩
  constructor
  · intro h; cases h
  · rintro ⟨a, _, ⟨h, _⟩ | ⟨_, h⟩⟩
    · omega
    · simp at h
theorem TuOk.next {ls : List (List Int)} {i p : Nat} {f : Nat → List Int} (h : TuOk ls i p f) (hp : (ls.getD i []).length = p) (h40 : p ≤ 40) : TuOk ls (i + 1) 0 f := by
  refine ⟨fun b y => ?_, fun b => by have := h.2 b; omega⟩
  rw [h.1 b y]
  constructor
  · rintro ⟨a, e, ⟨q1, q2⟩ | ⟨q1, q2⟩⟩
    · exact ⟨a, e, .inl ⟨by omega, q2⟩⟩
    · subst q1
      rw [List.take_of_length_le (by omega)] at q2
      exact ⟨a, e, .inl ⟨by omega, q2⟩⟩
  · rintro ⟨a, e, ⟨q1, q2⟩ | ⟨q1, q2⟩⟩
    · by_cases e2 : a = i
      · subst e2
        exact ⟨a, e, .inr ⟨rfl, by rw [List.take_of_length_le (by omega)]; exact q2⟩⟩
      · exact ⟨a, e, .inl ⟨by omega, q2⟩⟩
    · simp at q2
theorem TuOk.step {ls : List (List Int)} {i p k : Nat} {f : Nat → List Int} (h : TuOk ls i p f) (hp : p < (ls.getD i []).length) (hk : (ls.getD i [])[p] = (k : Int)) : TuOk ls i (p + 1) (fun a => if a = k then f a ++ [(i : Int)] else f a) := by
  have ht : (ls.getD i []).take (p + 1) = (ls.getD i []).take p ++ [(k : Int)] := by rw [List.take_succ_eq_append_getElem hp, hk]
  refine ⟨fun b y => ?_, fun b => ?_⟩
  · rw [ht]
    simp only
    by_cases e : b = k
    · subst e
      rw [if_pos rfl, List.mem_append, h.1 b y]
      constructor
      · rintro (⟨a, q, q1 | ⟨q1, q2⟩⟩ | q)
        · exact ⟨a, q, .inl q1⟩
        · exact ⟨a, q, .inr ⟨q1, List.mem_append.2 (.inl q2)⟩⟩
        · exact ⟨i, by simpa using q, .inr ⟨rfl, by simp⟩⟩
      · rintro ⟨a, q, q1 | ⟨q1, q2⟩⟩
        · exact .inl ⟨a, q, .inl q1⟩
        · right; subst q1; simp [q]
    · rw [if_neg e, h.1 b y]
      have e2 : ¬ (b : Int) = k := by omega
      simp only [List.mem_append, List.mem_singleton, e2, or_false]
  · have := h.2 b
    simp only
    split
    · rw [List.length_append]; simp; omega
    · omega

set_option maxRecDepth 20000 in
set_option maxHeartbeats 8000000 in
theorem turns_ok (N : Nat) (hN : N ≤ 24) (A : Option Addr) (c m : Nat) (ls : List (List Int)) (hm : ls.length = m) (hmN : m ≤ N) (x : Int) (w : World) (h : InR w A ls) (hb : ∀ l ∈ ls, l.length ≤ 40) (ha : ∀ l ∈ ls, allN N l = true) (hr : ¬ Ring (nsL N ls))
    (hs : Calls Try.prog 9 #[.int .i64 N, .slice A m c] w fun e w' => e = .returned (.bool true) ∧ w' = w) :
    Calls Try.prog 7 #[.int .i64 N, .slice A m c, .int .i64 x] w fun e w' => e = .returned (.bool true) ∧ Touch [] w w' := by
  subst hm
  have HS := Lib.hid hs
  have HW := Lib.hid (by
    have := wrong_any (N : Int) A c ls.length ls rfl (by omega) w h (fun l hl => by have := hb l hl; omega)
    rw [(wrongV_in (by omega) hmN ha).2 hr] at this
    exact this)
  have Hb := Lib.hid hb
  have Ha := Lib.hid ha
  have Hr := Lib.hid hr
  clear hs hb ha hr
  have hmk := fun w => run_mkS N (by omega) w
  go_enter Try.func7, Try.ntmps7
  go_wp2_with fail
  refine HS.out.mono ?_
  rintro e w1 ⟨rfl, hw1⟩
  have Hw1 := Lib.hid hw1
  subst hw1
  clear Hw1 HS
  go_wp2_with fail
  refine HW.out.mono ?_
  rintro e w2 ⟨rfl, t2⟩
  have Ht2 := Lib.hid t2
  have H0 : Hid (TuS w2 w2.heap.size N (fun _ => []) (List.replicate N ⟨none, 0, 0⟩) (w2.alloc (.cells (madeCells #[.slice none 0 0] N) 31))) := Lib.hid ⟨OwnK.made 31 SL.val w2 N ⟨none, 0, 0⟩ (by unfold maxLen; omega), by simp, fun a h => by
    simp only [List.getElem_replicate]
    exact ⟨rfl, OwnK.nil _ _ _ _⟩, fun s hs b hb => by
    rw [List.eq_of_mem_replicate hs] at hb
    simp [fpo] at hb, fun a b h1 h2 _ x hx => by
    simp [fpo] at hx, (Touch.refl [] w2).alloc _, Nat.le_refl _⟩
  clear t2 HW
  go_wp2_with fail
  clear hmk
  go_loopw [31] (fun y wr => ∃ (i : Nat) (f : Nat → List Int) (sl : List SL), i ≤ ls.length ∧ y = .int .i64 i ∧ Hid (TuOk ls i 0 f) ∧ Hid (TuS w2 w2.heap.size N f sl wr)) (fun y _ => ls.length - (intOf y).toNat)
  case atStart => exact ⟨0, _, _, by omega, rfl, Lib.hid (TuOk.zero ls), H0⟩
  case round =>
    clear H0
    obtain ⟨i, f, sl, hi, rfl, HF, HC⟩ := hrel
    by_cases hin : i < ls.length
    · have Tw := Ht2.out.trans0 HC.out.t
      obtain ⟨ad, A', c', hA', hc0, _, hrd⟩ := h.at_ i hin
      subst hA'
      have hc := Tw.cell hc0 (by simp)
      have hl40 := Hb.out _ (List.getElem_mem hin)
      have hal := Ha.out _ (List.getElem_mem hin)
      have hgd : ls.getD i [] = ls[i] := by simp [hin]
      obtain ⟨l, hl⟩ : ∃ l, l = ls[i] := ⟨_, rfl⟩
      rw [← hl] at hc hc0 hrd hl40 hal hgd
      obtain ⟨q, hq⟩ : ∃ q, q = l.length := ⟨_, rfl⟩
      rw [← hq] at hc hl40
      have Hq := Lib.hid hq
      have Hgd := Lib.hid hgd
      have Hal := Lib.hid hal
      have Hrd := Lib.hid hrd
      clear hl hq hgd hal hrd Tw hc0
      go_wp2_with fail
      go_loopw [38] (fun y wr => ∃ (p : Nat) (f : Nat → List Int) (sl : List SL), p ≤ q ∧ y = .int .i64 p ∧ Hid (TuOk ls i p f) ∧ Hid (TuS w2 w2.heap.size N f sl wr)) (fun y _ => q - (intOf y).toNat)
      case atStart => exact ⟨0, f, sl, by omega, rfl, HF, HC⟩
      case round =>
        clear HF HC
        obtain ⟨p, f, sl, hp, rfl, HF, HC⟩ := hrel
        by_cases hpq : p < q
        · have hpl : p < l.length := by have := Hq.out; omega
          obtain ⟨ad2, hA2, hcx⟩ := (show RdI wr A' l from Rd.touch0 Hrd.out (Ht2.out.trans0 HC.out.t)).at_ p hpl
          subst hA2
          have hnode := nodeB_iff.1 (List.all_eq_true.1 Hal.out _ (List.getElem_mem hpl))
          obtain ⟨k, hk⟩ : ∃ k : Nat, l[p] = k := ⟨l[p].toNat, by omega⟩
          rw [hk] at hcx hnode
          have hkN : k < N := by omega
          have hks : k < sl.length := by rw [HC.out.len]; exact hkN
          have HF2 := Lib.hid (HF.out.step (k := k) (by rw [Hgd.out]; exact hpl) (by
            have := Hgd.out
            simp only [this]; exact hk))
          have cy := HC.out.own.cell1 k hks
          have hrow := HC.out.row k hks
          have hne := fun x hx => HC.out.ne _ (List.getElem_mem hks) x hx
          obtain ⟨⟨Aa, qa, ca⟩, hs⟩ : ∃ s, s = sl[k] := ⟨_, rfl⟩
          simp only [← hs] at cy hrow hne
          dsimp only [SL.val] at cy
          have hqa : qa ≤ 2000 := by have := hrow.1; have := HF.out.2 k; omega
          have tb := (Touch.refl [] wr).alloc (.cells #[.int .i64 (i : Int)] 3)
          have Hoa := Lib.hid (hrow.2.touch0 tb)
          have Hqa := Lib.hid hrow.1
          have Hs : Hid (sl[k]? = some ⟨Aa, qa, ca⟩) := Lib.hid (by rw [hs]; exact List.getElem?_eq_getElem hks)
          have Hne := Lib.hid hne
          have Htb := Lib.hid tb
          clear hs hrow hne tb hk hnode
          go_wp2_with (at_builtin; refine stop ?_)
          refine go ?_
          refine wpList_appK (enc := iE) rfl (.tmp 47) (.tmp 49) 31 rfl 3 (.int .i64 0) 1 8 info_int Try.underlying31 rfl (by omega) (fun _ => rfl) (fun x u hu => by simp only [List.mem_singleton] at hu; subst hu; rfl) Aa qa ca (f k) Hqa.out.symm rfl Hoa.out
            (some ⟨wr.heap.size, 0, none⟩) 1 1 [(i : Int)] rfl rfl (RdK.one (enc := iE) wr 3 (i : Int) #[.int .i64 (i : Int)] rfl) (by omega) (by omega) ?_
          intro A7 c7 w7 hown7 ht7 hf7
          have hsl : sl[k] = ⟨Aa, qa, ca⟩ := by have := Hs.out; rw [List.getElem?_eq_getElem hks] at this; exact Option.some.inj this
          have hT := HC.out.app hks Htb.out (x := (i : Int)) (w3 := w7) (A3 := A7) (c3 := c7) (q := qa) Hqa.out hown7 (by rw [hsl]; exact ht7) (fun b hb => by
            rw [hsl]
            rcases hf7 b hb with q | q
            · exact .inl q
            · rw [World.size_alloc] at q; exact .inr (by omega))
          have cy7 := ht7.cell (Htb.out.cell cy (by simp)) (fun hm => (Hne.out _ hm).1 rfl)
          have zy7 := ((HC.out.own.touch0 Htb.out).touch ht7 (fun b hb => by simp [fpo] at hb; subst hb; exact fun hm => (Hne.out _ hm).1 rfl)).free_ k
          have HT := Lib.hid hT
          clear hT hown7 ht7 hf7 hsl cy
          go_wp2_with fail
          go_roundw
          case rel => exact ⟨p + 1, _, _, by omega, by go_num, HF2, HT⟩
          case measure => simp [intOf]; omega
        · obtain rfl : p = q := by omega
          have HF2 := Lib.hid (HF.out.next (by rw [Hgd.out]; exact Hq.out.symm) hl40)
          go_wp2_with fail
          go_roundw
          case rel => exact ⟨i + 1, f, sl, by omega, by go_num, HF2, HC⟩
          case measure => simp [intOf]; omega
    · obtain rfl : i = ls.length := by omega
      obtain ⟨tu, htu⟩ : ∃ tu, tu = (List.range N).map f := ⟨_, rfl⟩
      have hRt := HC.out.inR
      rw [← htu] at hRt
      have htl : tu.length = N := by rw [htu]; simp
      have hget : ∀ b, b < N → tu.getD b [] = f b := fun b hb => by rw [htu]; simp [hb]
      have hmem : ∀ (b : Nat) (y : Int), y ∈ f b ↔ ∃ a : Nat, y = a ∧ a < ls.length ∧ (b : Int) ∈ ls.getD a [] := fun b y => by
        rw [HF.out.1 b y]
        constructor
        · rintro ⟨a, e, ⟨q1, q2⟩ | ⟨q1, q2⟩⟩
          · exact ⟨a, e, q1, q2⟩
          · simp at q2
        · rintro ⟨a, e, q1, q2⟩
          exact ⟨a, e, .inl ⟨q1, q2⟩⟩
      have hta : ∀ l ∈ tu, allN N l = true := fun l hl => by
        rw [htu] at hl
        obtain ⟨b, _, rfl⟩ := List.mem_map.1 hl
        unfold allN
        rw [List.all_eq_true]
        intro y hy
        obtain ⟨a, rfl, ha, _⟩ := (hmem b y).1 hy
        exact nodeB_iff.2 (by omega)
      have hturn := turn_eq (n := N) (ls := ls) (tu := tu) hmN Ha.out (by omega) hta (fun a b => by
        rcases Nat.lt_or_ge b N with q | q
        · rw [hget b q, hmem b (a : Int)]
          constructor
          · rintro ⟨a2, e, _, h2⟩
            obtain rfl : a = a2 := by omega
            exact h2
          · intro h2
            refine ⟨a, rfl, ?_, h2⟩
            rcases Nat.lt_or_ge a ls.length with z | z
            · exact z
            · rw [List.getD_eq_getElem?_getD, List.getElem?_eq_none z] at h2; cases h2
        · constructor
          · intro h2
            rw [List.getD_eq_getElem?_getD, List.getElem?_eq_none (by omega)] at h2; cases h2
          · intro h2
            have := nodeB_iff.1 (List.all_eq_true.1 (allN_getD Ha.out a) _ h2)
            omega)
      have hlen : ∀ l ∈ tu, l.length ≤ 1000000000 := fun l hl => by
        rw [htu] at hl
        obtain ⟨b, _, rfl⟩ := List.mem_map.1 hl
        have := HF.out.2 b; omega
      have HN1 := Lib.hid (new_any N (by omega) A c ls.length ls rfl hmN wr (h.touch0 (Ht2.out.trans0 HC.out.t)) (fun l hl => by have := Hb.out l hl; omega))
      have HN2 := Lib.hid (fun W (t : Touch [] wr W) => new_any N (by omega) (some ⟨w2.heap.size, 0, none⟩) N N tu htl (Nat.le_refl _) W (hRt.touch0 t) hlen)
      have Htu := Lib.hid (And.intro hta (And.intro htl hturn))
      have HTw := Lib.hid (Ht2.out.trans0 HC.out.t)
      clear htu hRt htl hget hmem hta hturn hlen HF HC
      go_wp2_with fail
      refine HN1.out.mono ?_
      rintro e w3 hp
      obtain ⟨t3, g, X, ds, up, rfl, hG⟩ := hp.ok hmN Ha.out Hr.out
      have Ht3 := Lib.hid t3
      have HG := Lib.hid hG
      clear t3 hp hG HN1
      go_wp2_with fail
      refine (HN2.out _ Ht3.out).mono ?_
      rintro e w4 hp
      obtain ⟨t4, g2, X2, ds2, up2, rfl, hG2⟩ := hp.ok (Nat.le_of_eq Htu.out.2.1) Htu.out.1 (turn_ring Htu.out.2.2 Hr.out)
      have Ht4 := Lib.hid (Ht3.out.trans0 t4)
      have HG1 := Lib.hid (HG.out.touch0 t4)
      have HG2 := Lib.hid hG2
      clear t4 hp hG2 HN2 HG Ht3
      have hL := turn_up Htu.out.2.2 [x]
      have hul : (iN (upN (nsL N ls) [x])).length ≤ 2000 := by rw [List.length_map]; unfold upN reachN; have := pick_length_le (nsL N ls).length; rw [nsL_length] at *; exact Nat.le_trans (pick_length_le _ _) (by omega)
      have hdl : (iN (dnN (nsL N ls) [x])).length ≤ 2000 := by rw [List.length_map]; unfold dnN reachN; rw [nsL_length] at *; exact Nat.le_trans (pick_length_le _ _) (by omega)
      obtain ⟨L1, hL1⟩ : ∃ L1, L1 = iN (upN (nsL N ls) [x]) := ⟨_, rfl⟩
      obtain ⟨L2, hL2⟩ : ∃ L2, L2 = iN (dnN (nsL N ls) [x]) := ⟨_, rfl⟩
      have E1 : Hid (iN (upN (nsL N ls) [x]) = L1) := Lib.hid hL1.symm
      have E2 : Hid (iN (dnN (nsL N ls) [x]) = L2) := Lib.hid hL2.symm
      have E3 : Hid (iN (dnN (nsL N tu) [x]) = L1) := Lib.hid (by rw [hL.1]; exact hL1.symm)
      have E4 : Hid (iN (upN (nsL N tu) [x]) = L2) := Lib.hid (by rw [hL.2]; exact hL2.symm)
      rw [← hL1] at hul
      rw [← hL2] at hdl
      obtain ⟨m1, hm1⟩ : ∃ m1, m1 = L1.length := ⟨_, rfl⟩
      obtain ⟨m2, hm2⟩ : ∃ m2, m2 = L2.length := ⟨_, rfl⟩
      have Hm1 := Lib.hid hm1
      have Hm2 := Lib.hid hm2
      have hb1 : m1 ≤ 2000 := by omega
      have hb2 : m2 ≤ 2000 := by omega
      have hS1 : oneL L1 L1 = true := oneL_iff.2 rfl
      have hS2 : oneL L2 L2 = true := oneL_iff.2 rfl
      have HS1 := Lib.hid hS1
      have HS2 := Lib.hid hS2
      have hD1 := HG1.out.dp
      have hD2 := HG2.out.dp
      have hdl1 : ds.length = N := by rw [HG1.out.gr.dl, nsL_length]
      have hdl2 : ds2.length = N := by rw [HG2.out.gr.dl, nsL_length]
      have hrev : (fun a b => edge (nsL N ls) b a) = edge (nsL N tu) := by
        funext a b
        exact (congrFun (congrFun Htu.out.2.2 b) a).symm
      have Hmo : Hid (mostV ds = mostV ds2) := Lib.hid (mostV_eq hdl1 hdl2 (fun k hk => turn_deep Htu.out.2.2 HG1.out.lt hD1 hD2 k hk) (fun k hk => turn_deep hrev HG2.out.lt hD2 hD1 k hk))
      clear hL hul hdl hL1 hL2 hm1 hm2 hS1 hS2 hD1 hD2 hdl1 hdl2 hrev
      have tb1 := (Touch.refl [] w4).alloc (.cells #[.int .i64 x] 3)
      have hc1 := above_any _ up g X (nsL N ls) ds (some ⟨w4.heap.size, 0, none⟩) 1 1 [x] rfl (by omega) _ ((HG1.out.touch0 (Touch.refl [] w4)).touch0 tb1) (rd_blk (heap_alloc_new w4 (.cells #[.int .i64 x] 3)) _ rfl)
      rw [E1.out] at hc1
      have HC1 := Lib.hid hc1
      have Htb1 := Lib.hid tb1
      clear hc1 tb1
      go_wp2_with fail
      refine HC1.out.mono ?_
      rintro e wa1 ⟨A1, c1, rfl, ho1, t1, hf1⟩
      have Ho1 := Lib.hid ho1
      have HT1 : Hid (Touch [] w4 wa1) := Lib.hid ((Touch.refl [] w4).trans0 (Htb1.out.trans0 t1))
      have Hs1 : Hid (Touch [] w4 wa1) := Lib.hid (Htb1.out.trans0 t1)
      clear ho1 t1 hf1 HC1
      rw [← Hm1.out]
      have tb2 := (Touch.refl [] wa1).alloc (.cells #[.int .i64 x] 3)
      have hc2 := below_any _ up2 g2 X2 (nsL N tu) ds2 (some ⟨wa1.heap.size, 0, none⟩) 1 1 [x] rfl (by omega) _ ((HG2.out.touch0 HT1.out).touch0 tb2) (rd_blk (heap_alloc_new wa1 (.cells #[.int .i64 x] 3)) _ rfl)
      rw [E3.out] at hc2
      have HC2 := Lib.hid hc2
      have Htb2 := Lib.hid tb2
      clear hc2 tb2
      go_wp2_with fail
      refine HC2.out.mono ?_
      rintro e wa2 ⟨A2, c2, rfl, ho2, t2, hf2⟩
      have Ho2 := Lib.hid ho2
      have HT2 : Hid (Touch [] w4 wa2) := Lib.hid ((HT1.out).trans0 (Htb2.out.trans0 t2))
      have Hs2 : Hid (Touch [] wa1 wa2) := Lib.hid (Htb2.out.trans0 t2)
      clear ho2 t2 hf2 HC2
      rw [← Hm1.out]
      have Hq1 := Lib.hid (same_any A1 c1 m1 L1 Hm1.out.symm A2 c2 m1 L1 Hm1.out.symm (by omega) (by omega) wa2 (Rd.touch0 (rdI_of_ownI Ho1.out) Hs2.out) (rdI_of_ownI Ho2.out))
      go_wp2_with fail
      refine Hq1.out.mono ?_
      rintro e wb1 ⟨rfl, tq1⟩
      rw [HS1.out]
      have HT12 : Hid (Touch [] w4 wb1) := Lib.hid (HT2.out.trans0 tq1)
      clear tq1 Hq1
      have tb3 := (Touch.refl [] wb1).alloc (.cells #[.int .i64 x] 3)
      have hc3 := below_any _ up g X (nsL N ls) ds (some ⟨wb1.heap.size, 0, none⟩) 1 1 [x] rfl (by omega) _ ((HG1.out.touch0 HT12.out).touch0 tb3) (rd_blk (heap_alloc_new wb1 (.cells #[.int .i64 x] 3)) _ rfl)
      rw [E2.out] at hc3
      have HC3 := Lib.hid hc3
      have Htb3 := Lib.hid tb3
      clear hc3 tb3
      go_wp2_with fail
      refine HC3.out.mono ?_
      rintro e wa3 ⟨A3, c3, rfl, ho3, t3, hf3⟩
      have Ho3 := Lib.hid ho3
      have HT3 : Hid (Touch [] w4 wa3) := Lib.hid ((HT12.out).trans0 (Htb3.out.trans0 t3))
      have Hs3 : Hid (Touch [] wb1 wa3) := Lib.hid (Htb3.out.trans0 t3)
      clear ho3 t3 hf3 HC3
      rw [← Hm2.out]
      have tb4 := (Touch.refl [] wa3).alloc (.cells #[.int .i64 x] 3)
      have hc4 := above_any _ up2 g2 X2 (nsL N tu) ds2 (some ⟨wa3.heap.size, 0, none⟩) 1 1 [x] rfl (by omega) _ ((HG2.out.touch0 HT3.out).touch0 tb4) (rd_blk (heap_alloc_new wa3 (.cells #[.int .i64 x] 3)) _ rfl)
      rw [E4.out] at hc4
      have HC4 := Lib.hid hc4
      have Htb4 := Lib.hid tb4
      clear hc4 tb4
      go_wp2_with fail
      refine HC4.out.mono ?_
      rintro e wa4 ⟨A4, c4, rfl, ho4, t4, hf4⟩
      have Ho4 := Lib.hid ho4
      have HT4 : Hid (Touch [] w4 wa4) := Lib.hid ((HT3.out).trans0 (Htb4.out.trans0 t4))
      have Hs4 : Hid (Touch [] wa3 wa4) := Lib.hid (Htb4.out.trans0 t4)
      clear ho4 t4 hf4 HC4
      rw [← Hm2.out]
      have Hq2 := Lib.hid (same_any A3 c3 m2 L2 Hm2.out.symm A4 c4 m2 L2 Hm2.out.symm (by omega) (by omega) wa4 (Rd.touch0 (rdI_of_ownI Ho3.out) Hs4.out) (rdI_of_ownI Ho4.out))
      go_wp2_with fail
      refine Hq2.out.mono ?_
      rintro e wb2 ⟨rfl, tq2⟩
      rw [HS2.out]
      have HT34 : Hid (Touch [] w4 wb2) := Lib.hid (HT4.out.trans0 tq2)
      clear tq2 Hq2
      have hA := HG1.out.touch0 HT34.out
      have hB := HG2.out.touch0 HT34.out
      have HD1 := Lib.hid (deepest_any g X ds (nsL N ls).length hA.gr.dl (by rw [nsL_length]; omega) wb2 hA.gr.hd hA.gr.dp)
      have HD2 := Lib.hid (deepest_any g2 X2 ds2 (nsL N tu).length hB.gr.dl (by rw [nsL_length]; omega) wb2 hB.gr.hd hB.gr.dp)
      rw [← Hmo.out] at HD2
      obtain ⟨mv, hmv⟩ : ∃ mv, mv = mostV ds := ⟨_, rfl⟩
      rw [← hmv] at HD1 HD2
      clear hA hB hmv
      go_wp2_with fail
      refine HD1.out.mono ?_
      rintro e wd ⟨rfl, hwd⟩
      have Hwd := Lib.hid hwd
      rw [Hwd.out]
      clear hwd HD1
      go_wp2_with fail
      refine HD2.out.mono ?_
      rintro e we ⟨rfl, hwe⟩
      have Hwe := Lib.hid hwe
      rw [Hwe.out]
      clear hwe HD2
      go_wp2_with fail
      refine (awake_any wb2).mono ?_
      rintro e wf ⟨rfl, tf⟩
      go_wp2
      go_ret
      exact ⟨rfl, (HTw.out.trans0 Ht4.out).trans0 (HT34.out.trans0 tf)⟩

set_option maxHeartbeats 1600000 in
theorem turns_law (n : Int) (A : Option Addr) (c : Nat) (ls : List (List Int)) (x : Int) (w : World) (hl : ls.length ≤ maxLen) (h : InR w A ls) (hb : ∀ l ∈ ls, l.length ≤ maxLen) :
    Calls Try.prog 7 #[.int .i64 n, .slice A ls.length c, .int .i64 x] w fun e w' => e = .returned (.bool true) ∧ Touch [] w w' := by
  have hs := small_any n A c ls.length ls rfl hl w h hb
  rcases hsm : smallB n ls with _ | _
  · rw [hsm] at hs
    have HS := Lib.hid hs
    clear hs hsm
    go_enter Try.func7, Try.ntmps7
    go_wp2_with fail
    refine HS.out.mono ?_
    rintro e w1 ⟨rfl, hw1⟩
    have Hw1 := Lib.hid hw1
    subst hw1
    clear Hw1 HS
    go_wp2_with fail
    refine (awake_any w1).mono ?_
    rintro e w2 ⟨rfl, t2⟩
    go_wp2
    go_ret
    exact ⟨rfl, t2⟩
  · rw [hsm] at hs
    obtain ⟨h40, hn24, hl40⟩ := smallB_iff.1 hsm
    by_cases hw0 : wrongV n ls = 0
    · obtain ⟨N, rfl, hN, hlN, ha, hr⟩ := wrongV_zero hw0
      exact turns_ok N (by omega) A c ls.length ls rfl hlN x w h h40 ha hr hs
    · have hwr := wrong_any n A c ls.length ls rfl (by omega) w h (fun l hl => by have := h40 l hl; omega)
      obtain ⟨v, hv⟩ : ∃ v, v = wrongV n ls := ⟨_, rfl⟩
      rw [← hv] at hwr hw0
      have hv0 : (v != 0) = true := by simpa using hw0
      have HS := Lib.hid hs
      have HW := Lib.hid hwr
      clear hs hwr hsm hv hw0
      go_enter Try.func7, Try.ntmps7
      go_wp2_with fail
      refine HS.out.mono ?_
      rintro e w1 ⟨rfl, hw1⟩
      have Hw1 := Lib.hid hw1
      subst hw1
      clear Hw1 HS
      go_wp2_with fail
      refine HW.out.mono ?_
      rintro e w2 ⟨rfl, t2⟩
      have Ht2 := Lib.hid t2
      clear t2 HW
      go_wp2_with fail
      refine (awake_any w2).mono ?_
      rintro e w3 ⟨rfl, t3⟩
      go_wp2
      go_ret
      exact ⟨rfl, Ht2.out.trans0 t3⟩
end Go.Proofs.Ytmehdlflhllhdaa
