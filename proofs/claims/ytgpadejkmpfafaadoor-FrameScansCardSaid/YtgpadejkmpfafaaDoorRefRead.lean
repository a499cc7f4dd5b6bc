/- bywashref07.Read: the number at a place, as the document says. For every slice of bytes and every place. -/
import Derived.Test.YtgpadejkmpfafaaDoorLeLaw
import Derived.Deep.RegionWith
import Derived.IntWalk
namespace Go.Proofs.YtgpadejkmpfafaaDoor
open Go.RowKit Go.Shelf

/-- the number at a place, and where it ends -/
def refRd (l : List UInt8) (at_ : Nat) : Int × Int :=
  match rdI (l.drop at_) with
  | some (n, r) => (n, (l.length : Int) - r.length)
  | none => (0, -1)

def bk (zs : List UInt8) (k : Nat) : Nat := backV (upto (backAt zs) k)
theorem bk_zero (zs : List UInt8) : bk zs 0 = 0 := rfl
theorem bk_succ (zs : List UInt8) (k : Nat) (hk : k < zs.length) : bk zs (k + 1) = bk zs k * 256 + (zs[zs.length - 1 - k]'(by omega)).toNat := by
  unfold bk
  rw [upto_succ, backV_snoc]
  simp [backAt, List.getElem?_eq_getElem (show zs.length - 1 - k < zs.length by omega)]
theorem bk_all (zs : List UInt8) : bk zs zs.length = leV zs := by
  unfold bk
  rw [backV_upto zs _ (Nat.le_refl _), Nat.sub_self, List.drop_zero]
theorem bk_big (zs : List UInt8) (k : Nat) (hk : k < zs.length) (h : 36028797018963968 ≤ bk zs k) : 9223372036854775808 ≤ leV zs := by
  have : ∀ j, k < j → j ≤ zs.length → 9223372036854775808 ≤ bk zs j := by
    intro j
    induction j with
    | zero => intro h; omega
    | succ j ih =>
      intro h1 h2
      rw [bk_succ zs j (by omega)]
      by_cases e : j = k
      · subst e; omega
      · have := ih (by omega) (by omega); omega
  rw [← bk_all]
  exact this _ hk (Nat.le_refl _)

theorem rdI_cons (h : UInt8) (t : List UInt8) (s : Nat) (hs : s = h.toNat % 16) (h31 : h.toNat ≤ 31) (h8 : s ≤ 8) (hl : s ≤ t.length) (hN : leV (t.take s) < 9223372036854775808) (h0 : (t.take s).getLast? ≠ some 0) :
    rdI (h :: t) = some (if 16 ≤ h.toNat then -1 - (leV (t.take s) : Int) else (leV (t.take s) : Int), t.drop s) := by
  have e : (if 16 ≤ h.toNat then h.toNat - 16 else h.toNat) = s := by split <;> omega
  unfold rdI
  dsimp only
  rw [e, if_neg]
  rintro (h1 | h1 | ⟨h1, h2⟩ | h1)
  · omega
  · omega
  · apply h0
    rw [List.getLast?_eq_getElem?, List.length_take, Nat.min_eq_left hl, List.getElem?_take]
    rw [if_pos (by omega)]; exact h2
  · omega
theorem rdI_none (h : UInt8) (t : List UInt8) (s : Nat) (hs : s = h.toNat % 16) (hno : 31 < h.toNat ∨ 8 < s ∨ t.length < s ∨ 9223372036854775808 ≤ leV (t.take s) ∨ (t.take s).getLast? = some 0) : rdI (h :: t) = none := by
  unfold rdI
  dsimp only
  rw [if_pos]
  by_cases h31 : 31 < h.toNat
  · left; split <;> omega
  · have e : (if 16 ≤ h.toNat then h.toNat - 16 else h.toNat) = s := by split <;> omega
    rw [e]
    rcases hno with h1 | h1 | h1 | h1 | h1
    · omega
    · exact .inl h1
    · exact .inr (.inl h1)
    · exact .inr (.inr (.inr h1))
    · by_cases hl : t.length < s
      · exact .inr (.inl hl)
      · right; right; left
        rw [List.getLast?_eq_getElem?, List.length_take, Nat.min_eq_left (by omega), List.getElem?_take] at h1
        split at h1
        · exact ⟨by omega, h1⟩
        · cases h1

theorem S_inj {a b : List UInt8} (h : S a = S b) : a = b := by
  have := congrArg (fun x : ByteArray => x.data.toList) h
  simpa [S] using this
theorem S_eq (a b : List UInt8) : (S a = S b) = (a = b) := propext ⟨S_inj, fun h => by rw [h]⟩

theorem S_list (a : List UInt8) : (S a).toList = a := by rw [ByteArray.toList_eq]; simp [S]
theorem S_beq (a b : List UInt8) : ((S a).toList == (S b).toList) = decide (a = b) := by
  rw [S_list, S_list, Bool.eq_iff_iff]; simp
theorem S_bne (a b : List UInt8) : (!(S a).toList == (S b).toList) = !decide (a = b) := by
  rw [S_beq]

/-- the bytes of what was read are those that were read, just if the last one is none -/
theorem encI_back (h : UInt8) (zs : List UInt8) (h31 : h.toNat ≤ 31) (hs : zs.length = h.toNat % 16) (h8 : zs.length ≤ 8) :
    (encI (if 16 ≤ h.toNat then -1 - (leV zs : Int) else (leV zs : Int)) = h :: zs) ↔ zs.getLast? ≠ some 0 := by
  have key : encI (if 16 ≤ h.toNat then -1 - (leV zs : Int) else (leV zs : Int)) = UInt8.ofNat ((le 8 (leV zs)).length + if 16 ≤ h.toNat then 16 else 0) :: le 8 (leV zs) := by
    split
    · rw [encI_neg (M := leV zs) (by omega) (by omega)]
    · rw [encI_pos]; simp
  rw [key]
  constructor
  · intro e h0
    have := le_short 8 zs h0
    injection e with _ e2
    rw [e2] at this; omega
  · intro h0
    rw [le_leV 8 zs h8 h0]
    congr 1
    apply UInt8.toNat_inj.1
    split <;> simp <;> omega

theorem ret_two {a b c d : Int} (h1 : a = c) (h2 : b = d) : Ending.returned (.tuple #[.int .i64 a, .int .i64 b]) = .returned (.tuple #[.int .i64 c, .int .i64 d]) := by rw [h1, h2]

/-- b[i:j] -/
theorem run_cutB (A : Option Addr) (n c i j : Nat) (k : Int) (hk : k = (j : Int)) (hij : i ≤ j) (hj : j ≤ c) (W : World) :
    (Instr.sliceAt 22 (.slice A n c) (some (.int .i64 (i : Int))) (some (.int .i64 k)) none).run Tryd.prog W = .ok (.slice (if c = i then A else A.map (fun x => x.add i)) (j - i) (c - i)) W := by
  subst hk
  obtain ⟨i0, hi0, hz0, hz1, hz2⟩ := info_parts info_u8
  simp only [Instr.sliceAt, Instr.slice, Sem.run_bind, run_underlying Tryd.underlying22, Result.andThen, Instr.sliceBounds, sizeOf, typeInfo]
  simp [run_sliceBound, hij, hj, go_sem, hi0, hz1]

set_option maxRecDepth 100000 in
set_option maxHeartbeats 1600000 in
theorem refRead_any (A : Option Addr) (c : Nat) (l : List UInt8) (at_ : Nat) (hl : l.length ≤ 140737488000000) (hc : l.length ≤ c) (ha : at_ ≤ 140737488000000) (w : World) (hr : RdB w A l) :
    Calls Tryd.prog 22 #[.slice A l.length c, .int .i64 at_] w fun e w' => e = .returned (.tuple #[.int .i64 (refRd l at_).1, .int .i64 (refRd l at_).2]) ∧ Touch [] w w' := by
  go_enter Tryd.func22, Tryd.ntmps22
  by_cases hal : l.length ≤ at_
  · have hx : refRd l at_ = (0, -1) := by unfold refRd; rw [List.drop_eq_nil_of_le hal]; rfl
    have Hx := Lib.hid hx; clear hx
    go_wp2
    go_ret2
    rw [Hx.out]
    exact ⟨rfl, Touch.refl _ _⟩
  have hlt : at_ < l.length := by omega
  obtain ⟨ad, rfl, hcell⟩ := hr.at_ at_ hlt
  obtain ⟨h, hh⟩ : ∃ h, h = l[at_] := ⟨_, rfl⟩
  obtain ⟨t, htt⟩ : ∃ t, t = l.drop (at_ + 1) := ⟨_, rfl⟩
  have hdrop : l.drop at_ = h :: t := by rw [hh, htt, List.drop_eq_getElem_cons hlt]
  have htl : t.length = l.length - at_ - 1 := by rw [htt]; simp; omega
  rw [← hh] at hcell
  have hhl := h.toNat_lt
  clear hal hh
  obtain ⟨s, hs⟩ : ∃ s, s = h.toNat % 16 := ⟨_, rfl⟩
  have hsI : ((h.toNat : Int) % 16) = (s : Int) := by omega
  have hs16 : s < 16 := by omega
  by_cases h31 : 31 < h.toNat
  · have hx : refRd l at_ = (0, -1) := by unfold refRd; rw [hdrop, rdI_none h t s hs (.inl h31)]
    have Hx := Lib.hid hx; clear hx
    clear hdrop htt htl hs
    go_wp2
    go_ret2
    rw [Hx.out]
    exact ⟨rfl, Touch.refl _ _⟩
  by_cases h8 : 8 < s
  · have hx : refRd l at_ = (0, -1) := by unfold refRd; rw [hdrop, rdI_none h t s hs (.inr (.inl h8))]
    have Hx := Lib.hid hx; clear hx
    clear hdrop htt htl hs
    go_wp2
    go_ret2
    rw [Hx.out]
    exact ⟨rfl, Touch.refl _ _⟩
  by_cases hsh : l.length < at_ + 1 + s
  · have hx : refRd l at_ = (0, -1) := by unfold refRd; rw [hdrop, rdI_none h t s hs (.inr (.inr (.inl (by omega))))]
    have Hx := Lib.hid hx; clear hx
    clear hdrop htt htl hs
    go_wp2
    go_ret2
    rw [Hx.out]
    exact ⟨rfl, Touch.refl _ _⟩
  obtain ⟨zs, hzs⟩ : ∃ zs, zs = t.take s := ⟨_, rfl⟩
  have hzl : zs.length = s := by rw [hzs, List.length_take]; omega
  have hz8 : zs.length ≤ 8 := by omega
  have hzc : ∀ j, (hj : j < s) → w.cell? (ad.add (at_ + (j + 1))) = some (.int .u8 (zs[j]'(by omega)).toNat) := by
    intro j hj
    obtain ⟨ad', e, h1⟩ := hr.at_ (at_ + (j + 1)) (by omega)
    obtain rfl : ad = ad' := by injection e
    rw [h1]
    have e2 : zs[j]'(by omega) = l[at_ + (j + 1)]'(by omega) := by
      simp only [hzs, htt, List.getElem_take, List.getElem_drop]
      simp only [Nat.add_assoc, Nat.add_comm 1 j]
    rw [e2]
  have hfin : refRd l at_ = if zs.getLast? = some 0 ∨ 9223372036854775808 ≤ leV zs then (0, -1) else (if 16 ≤ h.toNat then -1 - (leV zs : Int) else (leV zs : Int), (at_ : Int) + 1 + s) := by
    unfold refRd
    rw [hdrop]
    by_cases h0 : zs.getLast? = some 0 ∨ 9223372036854775808 ≤ leV zs
    · rw [if_pos h0]
      rw [rdI_none h t s hs (by rw [← hzs]; rcases h0 with h0 | h0; exact .inr (.inr (.inr (.inr h0))); exact .inr (.inr (.inr (.inl h0))))]
    · rw [if_neg h0]
      rw [rdI_cons h t s hs (by omega) (by omega) (by omega) (by rw [← hzs]; omega) (by rw [← hzs]; intro e; exact h0 (.inl e))]
      rw [← hzs]
      dsimp only
      rw [List.length_drop]
      congr 1
      omega
  have hrun : ∀ W, RdB W (some ad) l → RdB W (some (ad.add at_)) (h :: zs) := by
    intro W hW
    have h2 := (RdB.drop hW at_)
    have h3 := RdB.pre h2 (s + 1)
    rw [hdrop] at h3
    simpa [hzs] using h3
  have hback := encI_back h zs (by omega) (by omega) hz8
  have Hfin := Lib.hid hfin; clear hfin
  have Hback := Lib.hid hback; clear hback
  have Hrun := Lib.hid hrun; clear hrun
  have Hzc := Lib.hid hzc; clear hzc
  clear hdrop htt htl hzs hs
  go_wp2
  subst hzl
  go_loop [7, 8] (fun n i => ∃ j : Nat, j ≤ zs.length ∧ i = .int .i64 j ∧ n = .int .i64 (bk zs (zs.length - j) : Nat) ∧ bk zs (zs.length - j) < 9223372036854775808) (fun _ i => (intOf i).toNat)
  case atStart => exact ⟨_, Nat.le_refl _, rfl, by rw [Nat.sub_self]; rfl, by rw [Nat.sub_self, bk_zero]; omega⟩
  case round =>
    obtain ⟨j, hj, rfl, rfl, hb⟩ := hrel
    obtain ⟨N, hN⟩ : ∃ N, N = bk zs (zs.length - j) := ⟨_, rfl⟩
    rw [← hN] at hb ⊢
    rcases j with _ | j
    · rw [Nat.sub_zero, bk_all] at hN
      rw [← hN] at Hfin
      rw [← hN] at Hback
      by_cases hneg : 16 ≤ h.toNat
      · by_cases h0 : zs.getLast? = some 0
        · have hx : refRd l at_ = (0, -1) := by rw [Hfin.out, if_pos (.inl h0)]
          have he : ¬ encI (-1 - (N : Int)) = h :: zs := by have := Hback.out; rw [if_pos hneg] at this; exact fun e => this.1 e h0
          have hq : ((S (encI (-1 - (N : Int)))).toList == (S (h :: zs)).toList) = false := by rw [S_beq]; exact decide_eq_false he
          have hq2 : (!(S (encI (-1 - (N : Int)))).toList == (S (h :: zs)).toList) = true := by rw [S_bne, decide_eq_false he]; rfl
          have Hx := Lib.hid hx; clear hx
          clear he hN h0
          go_wp2_with fail
          have hA : IntKind.i64.wrap ((at_ : Int) + 1) = (at_ : Int) + 1 := IntWalk.i64_in _ (by omega)
          have hB : IntKind.i64.wrap ((at_ : Int) + 1 + (zs.length : Int)) = (at_ : Int) + 1 + zs.length := IntWalk.i64_in _ (by omega)
          have hsl := fun W => run_cutB (some ad) l.length c at_ (at_ + 1 + zs.length) ((at_ : Int) + 1 + zs.length) (by omega) (by omega) (by omega) W
          rw [if_neg (show ¬ c = at_ by omega), show at_ + 1 + zs.length - at_ = zs.length + 1 by omega] at hsl
          simp only [Option.map_some] at hsl
          have hcv := fun W hW => run_str_of (w := W) (A := some (ad.add at_)) (n := zs.length + 1) (c - at_) (l := h :: zs) (by simp) (Hrun.out W hW)
          have Hcv := Lib.hid hcv; clear hcv
          have hcv0 := Hcv.out w.drew (hr.touch0 ((Touch.refl _ _).drew))
          go_region_with ((go_at_call 13; refine (refInt_any (-1 - (N : Int)) (by omega) (by omega) _).mono ?_; rintro e w1 ⟨A1, c1, rfl, hown1, ht1, hf1⟩; have hcv1 := run_str_of c1 rfl hown1.rd; have hcv2 := Hcv.out w1 (hr.touch0 ht1.ofDrew)))
          all_goals (go_wp2; go_ret2; rw [Hx.out]; exact ⟨rfl, ht1.ofDrew⟩)
        · have hx : refRd l at_ = ((-1 - (N : Int)), (at_ : Int) + 1 + zs.length) := by rw [Hfin.out, if_neg (fun e => e.elim h0 (by omega)), if_pos hneg]
          have he : encI (-1 - (N : Int)) = h :: zs := by have := Hback.out; rw [if_pos hneg] at this; exact this.2 h0
          have hq : ((S (encI (-1 - (N : Int)))).toList == (S (h :: zs)).toList) = true := by rw [S_beq]; exact decide_eq_true he
          have hq2 : (!(S (encI (-1 - (N : Int)))).toList == (S (h :: zs)).toList) = false := by rw [S_bne, decide_eq_true he]; rfl
          have Hx := Lib.hid hx; clear hx
          clear he hN h0
          go_wp2_with fail
          have hA : IntKind.i64.wrap ((at_ : Int) + 1) = (at_ : Int) + 1 := IntWalk.i64_in _ (by omega)
          have hB : IntKind.i64.wrap ((at_ : Int) + 1 + (zs.length : Int)) = (at_ : Int) + 1 + zs.length := IntWalk.i64_in _ (by omega)
          have hsl := fun W => run_cutB (some ad) l.length c at_ (at_ + 1 + zs.length) ((at_ : Int) + 1 + zs.length) (by omega) (by omega) (by omega) W
          rw [if_neg (show ¬ c = at_ by omega), show at_ + 1 + zs.length - at_ = zs.length + 1 by omega] at hsl
          simp only [Option.map_some] at hsl
          have hcv := fun W hW => run_str_of (w := W) (A := some (ad.add at_)) (n := zs.length + 1) (c - at_) (l := h :: zs) (by simp) (Hrun.out W hW)
          have Hcv := Lib.hid hcv; clear hcv
          have hcv0 := Hcv.out w.drew (hr.touch0 ((Touch.refl _ _).drew))
          go_region_with ((go_at_call 13; refine (refInt_any (-1 - (N : Int)) (by omega) (by omega) _).mono ?_; rintro e w1 ⟨A1, c1, rfl, hown1, ht1, hf1⟩; have hcv1 := run_str_of c1 rfl hown1.rd; have hcv2 := Hcv.out w1 (hr.touch0 ht1.ofDrew)))
          all_goals (go_wp2; go_ret2; rw [Hx.out]; exact ⟨rfl, ht1.ofDrew⟩)
      · by_cases h0 : zs.getLast? = some 0
        · have hx : refRd l at_ = (0, -1) := by rw [Hfin.out, if_pos (.inl h0)]
          have he : ¬ encI (N : Int) = h :: zs := by have := Hback.out; rw [if_neg hneg] at this; exact fun e => this.1 e h0
          have hq : ((S (encI (N : Int))).toList == (S (h :: zs)).toList) = false := by rw [S_beq]; exact decide_eq_false he
          have hq2 : (!(S (encI (N : Int))).toList == (S (h :: zs)).toList) = true := by rw [S_bne, decide_eq_false he]; rfl
          have Hx := Lib.hid hx; clear hx
          clear he hN h0
          go_wp2_with fail
          have hA : IntKind.i64.wrap ((at_ : Int) + 1) = (at_ : Int) + 1 := IntWalk.i64_in _ (by omega)
          have hB : IntKind.i64.wrap ((at_ : Int) + 1 + (zs.length : Int)) = (at_ : Int) + 1 + zs.length := IntWalk.i64_in _ (by omega)
          have hsl := fun W => run_cutB (some ad) l.length c at_ (at_ + 1 + zs.length) ((at_ : Int) + 1 + zs.length) (by omega) (by omega) (by omega) W
          rw [if_neg (show ¬ c = at_ by omega), show at_ + 1 + zs.length - at_ = zs.length + 1 by omega] at hsl
          simp only [Option.map_some] at hsl
          have hcv := fun W hW => run_str_of (w := W) (A := some (ad.add at_)) (n := zs.length + 1) (c - at_) (l := h :: zs) (by simp) (Hrun.out W hW)
          have Hcv := Lib.hid hcv; clear hcv
          have hcv0 := Hcv.out w.drew (hr.touch0 ((Touch.refl _ _).drew))
          go_region_with ((go_at_call 13; refine (refInt_any (N : Int) (by omega) (by omega) _).mono ?_; rintro e w1 ⟨A1, c1, rfl, hown1, ht1, hf1⟩; have hcv1 := run_str_of c1 rfl hown1.rd; have hcv2 := Hcv.out w1 (hr.touch0 ht1.ofDrew)))
          all_goals (go_wp2; go_ret2; rw [Hx.out]; exact ⟨rfl, ht1.ofDrew⟩)
        · have hx : refRd l at_ = ((N : Int), (at_ : Int) + 1 + zs.length) := by rw [Hfin.out, if_neg (fun e => e.elim h0 (by omega)), if_neg hneg]
          have he : encI (N : Int) = h :: zs := by have := Hback.out; rw [if_neg hneg] at this; exact this.2 h0
          have hq : ((S (encI (N : Int))).toList == (S (h :: zs)).toList) = true := by rw [S_beq]; exact decide_eq_true he
          have hq2 : (!(S (encI (N : Int))).toList == (S (h :: zs)).toList) = false := by rw [S_bne, decide_eq_true he]; rfl
          have Hx := Lib.hid hx; clear hx
          clear he hN h0
          go_wp2_with fail
          have hA : IntKind.i64.wrap ((at_ : Int) + 1) = (at_ : Int) + 1 := IntWalk.i64_in _ (by omega)
          have hB : IntKind.i64.wrap ((at_ : Int) + 1 + (zs.length : Int)) = (at_ : Int) + 1 + zs.length := IntWalk.i64_in _ (by omega)
          have hsl := fun W => run_cutB (some ad) l.length c at_ (at_ + 1 + zs.length) ((at_ : Int) + 1 + zs.length) (by omega) (by omega) (by omega) W
          rw [if_neg (show ¬ c = at_ by omega), show at_ + 1 + zs.length - at_ = zs.length + 1 by omega] at hsl
          simp only [Option.map_some] at hsl
          have hcv := fun W hW => run_str_of (w := W) (A := some (ad.add at_)) (n := zs.length + 1) (c - at_) (l := h :: zs) (by simp) (Hrun.out W hW)
          have Hcv := Lib.hid hcv; clear hcv
          have hcv0 := Hcv.out w.drew (hr.touch0 ((Touch.refl _ _).drew))
          go_region_with ((go_at_call 13; refine (refInt_any (N : Int) (by omega) (by omega) _).mono ?_; rintro e w1 ⟨A1, c1, rfl, hown1, ht1, hf1⟩; have hcv1 := run_str_of c1 rfl hown1.rd; have hcv2 := Hcv.out w1 (hr.touch0 ht1.ofDrew)))
          all_goals (go_wp2; go_ret2; rw [Hx.out]; exact ⟨rfl, ht1.ofDrew⟩)
    · have hx2 := Hzc.out j (by omega)
      obtain ⟨x, hx⟩ : ∃ x, x = zs[j]'(by omega) := ⟨_, rfl⟩
      rw [← hx] at hx2
      have hxl := x.toNat_lt
      by_cases hbig : 36028797018963968 ≤ N
      · have hx : refRd l at_ = (0, -1) := by rw [Hfin.out, if_pos (.inr (bk_big zs (zs.length - (j + 1)) (by omega) (by omega)))]
        have Hx := Lib.hid hx; clear hx
        have hbI : decide ((36028797018963968 : Int) ≤ (N : Int)) = true := by simp; omega
        clear hN hbig
        go_wp2
        go_ret2
        rw [Hx.out]
        exact ⟨rfl, Touch.refl _ _⟩
      · have hsucc : bk zs (zs.length - j) = N * 256 + x.toNat := by
          have := bk_succ zs (zs.length - (j + 1)) (by omega)
          rw [show zs.length - (j + 1) + 1 = zs.length - j by omega, ← hN] at this
          rw [this, hx]
          congr 3
          omega
        have Hs := Lib.hid hsucc; clear hsucc
        have hbI : decide ((36028797018963968 : Int) ≤ (N : Int)) = false := by simp; omega
        have hb2 : N < 36028797018963968 := by omega
        clear hN hx hbig
        go_wp2
        go_round
        case rel => exact ⟨j, by omega, by go_num, by rw [Hs.out]; go_num, by rw [Hs.out]; omega⟩
        case measure => simp [intOf]
end Go.Proofs.YtgpadejkmpfafaaDoor
