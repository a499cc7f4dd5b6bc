/- cron.item: the numbers of one item of a field, or its error. For every text of at most some thousand bytes. -/
import Derived.Test.YtoabloeechphkaaDoorCronNum
import Derived.Test.YtoabloeechphkaaDoorCronG
import Derived.Test.YtoabloeechphkaaDoorShelf
namespace Go.Proofs.YtoabloeechphkaaDoor
open Go.RowKit

theorem cutC_any (s p : List UInt8) (hs : s.length ≤ 1000000) (w : World) (hG : Gc w) : Calls Tryd.prog 44 #[.string (S s), .string (S p)] w fun e w' =>
    e = .returned (.tuple #[.string (S (Lib.cut s p).1), .string (S (Lib.cut s p).2.1), .bool (Lib.cut s p).2.2]) ∧ ∃ n, w' = w.drewN n := by
  obtain ⟨m, hm⟩ := hG.len
  have h := Tryd.strings_Cut (S s) (S p) m w (by rw [S_size]; omega) hm
  rw [S_toList, S_toList] at h
  exact h
theorem cut_le (s p : List UInt8) : (Lib.cut s p).1.length ≤ s.length ∧ (Lib.cut s p).2.1.length ≤ s.length := by
  unfold Lib.cut
  split
  · exact ⟨by show (List.take _ s).length ≤ _; rw [List.length_take]; omega, by show (List.drop _ s).length ≤ _; rw [List.length_drop]; omega⟩
  · exact ⟨Nat.le_refl _, Nat.zero_le _⟩

theorem row_int (x y z : Int) (h1 : 0 ≤ x ∧ x < 64) (h2 : 0 ≤ y ∧ y < 64) (h3 : 1 ≤ z ∧ z < 64) (w : World) :
    Calls Tryd.prog 43 #[.int .i64 x, .int .i64 y, .int .i64 z] w fun e w' => e = .returned (.int .u64 (rowV x.toNat y.toNat z.toNat)) ∧ w = w' := by
  obtain ⟨a, rfl⟩ := Int.eq_ofNat_of_zero_le h1.1
  obtain ⟨b, rfl⟩ := Int.eq_ofNat_of_zero_le h2.1
  obtain ⟨c, rfl⟩ := Int.eq_ofNat_of_zero_le (show 0 ≤ z by omega)
  exact row_any a b c (by omega) (by omega) (by omega) (by omega) w
theorem hiF_ge (f : Nat) : 6 ≤ hiF f := by
  unfold hiF
  split
  · omega
  · split
    · omega
    · split
      · omega
      · split <;> omega

/-- the numbers, by their ends and their step -/
def tailV (lo hi : Nat) (fr to st : Int) : Nat × Int := if fr < lo ∨ hi < to ∨ to < fr ∨ st < 1 ∨ 59 < st then (0, 30) else (rowV fr.toNat to.toNat st.toNat, 0)
/-- of one that is no star with a step -/
def pairV (lo hi : Nat) (st : Option Int) (q : List UInt8 × List UInt8 × Bool) : Nat × Int :=
  let fr := numV q.1
  let to := if q.2.2 then numV q.2.1 else fr
  if fr < 0 ∨ to < 0 ∨ (st.isSome && !q.2.2) = true then (0, 20) else tailV lo hi fr to (st.getD 1)
def spanV (lo hi : Nat) (st : Option Int) (sp : List UInt8) : Nat × Int :=
  if sp = [42] ∧ st.isSome = true then tailV lo hi lo hi (st.getD 1) else pairV lo hi st (Lib.cut sp [45])
/-- what an item of a field comes to: its set, its error -/
def itemV (f : Nat) (s : List UInt8) : Nat × Int :=
  let q := Lib.cut s [47]
  if q.2.2 = true then (if numV q.2.1 < 0 then (0, 20) else spanV (loF f) (hiF f) (some (numV q.2.1)) q.1) else spanV (loF f) (hiF f) none q.1

set_option maxRecDepth 100000 in
set_option maxHeartbeats 12800000 in
theorem item_any (f : Nat) (hf : f < 5) (s : List UInt8) (hs : s.length ≤ 100000) (w : World) (hG : Gc w) :
    Calls Tryd.prog 25 #[.int .i64 f, .string (S s)] w fun e w' => e = .returned (.tuple #[.int .u64 ((itemV f s).1 : Nat), .int .i64 (itemV f s).2]) ∧ Touch [] w w' := by
  have hc1 := hG.lo f hf
  have hc2 := hG.hi f hf
  have hll := loF_lt f
  have hhh := hiF_lt f
  have hi1 : (0 : Int) ≤ (f : Int) := by omega
  have hi2 : (f : Int) < 5 := by omega
  have hcut := fun w' h => cutC_any s [47] (by omega) w' h
  have hle := cut_le s [47]
  have hiv : itemV f s = (if (Lib.cut s [47]).2.2 = true then (if numV (Lib.cut s [47]).2.1 < 0 then (0, 20) else spanV (loF f) (hiF f) (some (numV (Lib.cut s [47]).2.1)) (Lib.cut s [47]).1) else spanV (loF f) (hiF f) none (Lib.cut s [47]).1) := rfl
  obtain ⟨⟨sp, by', st⟩, hq⟩ : ∃ q, q = Lib.cut s [47] := ⟨_, rfl⟩
  rw [← hq] at hcut hle hiv
  simp only at hcut hle hiv
  obtain ⟨lo, hlo⟩ : ∃ lo, lo = loF f := ⟨_, rfl⟩
  obtain ⟨hi, hhi⟩ : ∃ hi, hi = hiF f := ⟨_, rfl⟩
  rw [← hlo] at hc1 hiv hll
  have hh6 := hiF_ge f
  rw [← hhi] at hc2 hiv hhh hh6
  have hsl : sp.length ≤ 100000 := by omega
  have hbl : by'.length ≤ 100000 := by omega
  have hcut2 := fun w' h => cutC_any sp [45] (by omega) w' h
  have hle2 := cut_le sp [45]
  have hsv1 : ∀ x : Option Int, sp ≠ [42] → spanV lo hi x sp = pairV lo hi x (Lib.cut sp [45]) := fun x h => if_neg (fun h2 => h h2.1)
  have hsv2 : spanV lo hi none sp = pairV lo hi none (Lib.cut sp [45]) := if_neg (fun h2 => by cases h2.2)
  have hsv3 : ∀ x : Int, sp = [42] → spanV lo hi (some x) sp = tailV lo hi lo hi x := fun x h => if_pos ⟨h, rfl⟩
  obtain ⟨⟨a, b, rg⟩, hq2⟩ : ∃ q, q = Lib.cut sp [45] := ⟨_, rfl⟩
  rw [← hq2] at hcut2 hle2 hsv1 hsv2
  simp only at hcut2 hle2
  have ha := numV_bd a
  have hb := numV_bd b
  have hy := numV_bd by'
  have Hna := Lib.hid (fun w' => number_any a (by omega) w')
  have Hnb := Lib.hid (fun w' => number_any b (by omega) w')
  have Hny := Lib.hid (fun w' => number_any by' (by omega) w')
  have hpv : ∀ x : Option Int, pairV lo hi x (a, b, rg) = (if numV a < 0 ∨ (if rg = true then numV b else numV a) < 0 ∨ (x.isSome && !rg) = true then (0, 20) else tailV lo hi (numV a) (if rg = true then numV b else numV a) (x.getD 1)) := fun _ => rfl
  obtain ⟨na, hna⟩ : ∃ n, n = numV a := ⟨_, rfl⟩
  obtain ⟨nb, hnb⟩ : ∃ n, n = numV b := ⟨_, rfl⟩
  obtain ⟨ny, hny⟩ : ∃ n, n = numV by' := ⟨_, rfl⟩
  rw [← hna] at ha Hna hpv
  rw [← hnb] at hb Hnb hpv
  rw [← hny] at hy Hny hiv
  have Hc := Lib.hid hcut; have Hc2 := Lib.hid hcut2; have Hiv := Lib.hid hiv; have Hs1 := Lib.hid hsv1; have Hs2 := Lib.hid hsv2; have Hs3 := Lib.hid hsv3; have Hpv := Lib.hid hpv
  have HG := Lib.hid hG
  have hrow := row_int
  have Hrow := Lib.hid hrow
  clear hcut hcut2 hiv hsv1 hsv2 hsv3 hpv hle hle2 hq hq2 hna hnb hny hlo hhi hG hrow
  go_enter Tryd.func25, Tryd.ntmps25
  go_wp2_with fail
  go_quiet (fail)
  have hc1' := True.intro
  clear hc1 hc2
  go_wp2_with fail
  refine (Hc.out _ (HG.out.touch0 ((Touch.refl [] w).drewN _))).mono ?_
  rintro e w1 ⟨rfl, n1, rfl⟩
  have t1 : Touch [] w ((w.drewN nq).drewN n1) := ((Touch.refl [] w).drewN _).drewN _
  obtain ⟨w1, hw1⟩ : ∃ w1, w1 = (w.drewN nq).drewN n1 := ⟨_, rfl⟩
  rw [← hw1] at t1 ⊢
  clear hw1
  rcases st with _ | _
  · have hp : Hid (itemV f s = pairV lo hi none (a, b, rg)) := Lib.hid (by rw [Hiv.out, if_neg (by simp), Hs2.out])
    clear Hiv
    have Hiv := hp
    clear hp
    go_wp2_with fail
    refine (Hc2.out _ (HG.out.touch0 (t1))).mono ?_
    rintro e w3 ⟨rfl, n3, rfl⟩
    have t3 := t1.drewN n3
    by_cases hst : sp = [42]
    · subst hst
      have hsb2 : (S [42]).toList = [42] := S_list _
      go_wp2_with fail
      refine (Hna.out _).mono ?_
      rintro e w5 ⟨rfl, t5⟩
      rcases rg with _ | _
      · by_cases d1 : na < 0
        · have He : Hid (itemV f s = (0, 20)) := Lib.hid (by rw [Hiv.out]; skip; rw [Hpv.out, if_pos (.inl d1)])
          go_wp2_with fail
          go_ret2
          exact ⟨by rw [He.out]; rfl, (t3).trans0 t5⟩
        by_cases c1 : na < (lo : Int)
        · have He : Hid (itemV f s = (0, 30)) := Lib.hid (by rw [Hiv.out]; skip; rw [Hpv.out, if_neg (fun h => by rcases h with h | h | h; exact d1 h; exact d1 h; cases h)]; show tailV lo hi na na 1 = _; unfold tailV; rw [if_pos (.inl c1)])
          go_wp2_with fail
          go_ret2
          exact ⟨by rw [He.out]; rfl, (t3).trans0 t5⟩
        by_cases c2 : (hi : Int) < na
        · have He : Hid (itemV f s = (0, 30)) := Lib.hid (by rw [Hiv.out]; skip; rw [Hpv.out, if_neg (fun h => by rcases h with h | h | h; exact d1 h; exact d1 h; cases h)]; show tailV lo hi na na 1 = _; unfold tailV; rw [if_pos (.inr (.inl c2))])
          go_wp2_with fail
          go_ret2
          exact ⟨by rw [He.out]; rfl, (t3).trans0 t5⟩
        have He : Hid (itemV f s = (rowV (na : Int).toNat (na : Int).toNat (1 : Int).toNat, 0)) := Lib.hid (by rw [Hiv.out]; skip; rw [Hpv.out, if_neg (fun h => by rcases h with h | h | h; exact d1 h; exact d1 h; cases h)]; show tailV lo hi na na 1 = _; unfold tailV; rw [if_neg (by omega)])
        have Hr := Lib.hid (fun w' => Hrow.out (na) (na) (1) (by omega) (by omega) (by omega) w')
        go_wp2_with fail
        refine (Hr.out _).mono ?_
        rintro e w9 ⟨rfl, rfl⟩
        go_wp2_with fail
        go_ret2
        exact ⟨by rw [He.out]; rfl, (t3).trans0 t5⟩
      · go_wp2_with fail
        refine (Hnb.out _).mono ?_
        rintro e w6 ⟨rfl, t6⟩
        by_cases d1 : na < 0
        · have He : Hid (itemV f s = (0, 20)) := Lib.hid (by rw [Hiv.out]; skip; rw [Hpv.out, if_pos (.inl d1)])
          go_wp2_with fail
          go_ret2
          exact ⟨by rw [He.out]; rfl, ((t3).trans0 t5).trans0 t6⟩
        by_cases d2 : nb < 0
        · have He : Hid (itemV f s = (0, 20)) := Lib.hid (by rw [Hiv.out]; skip; rw [Hpv.out, if_pos (.inr (.inl d2))])
          go_wp2_with fail
          go_ret2
          exact ⟨by rw [He.out]; rfl, ((t3).trans0 t5).trans0 t6⟩
        by_cases c1 : na < (lo : Int)
        · have He : Hid (itemV f s = (0, 30)) := Lib.hid (by rw [Hiv.out]; skip; rw [Hpv.out, if_neg (fun h => by rcases h with h | h | h; exact d1 h; exact d2 h; simp at h)]; show tailV lo hi na nb 1 = _; unfold tailV; rw [if_pos (.inl c1)])
          go_wp2_with fail
          go_ret2
          exact ⟨by rw [He.out]; rfl, ((t3).trans0 t5).trans0 t6⟩
        by_cases c2 : (hi : Int) < nb
        · have He : Hid (itemV f s = (0, 30)) := Lib.hid (by rw [Hiv.out]; skip; rw [Hpv.out, if_neg (fun h => by rcases h with h | h | h; exact d1 h; exact d2 h; simp at h)]; show tailV lo hi na nb 1 = _; unfold tailV; rw [if_pos (.inr (.inl c2))])
          go_wp2_with fail
          go_ret2
          exact ⟨by rw [He.out]; rfl, ((t3).trans0 t5).trans0 t6⟩
        by_cases c3 : nb < na
        · have He : Hid (itemV f s = (0, 30)) := Lib.hid (by rw [Hiv.out]; skip; rw [Hpv.out, if_neg (fun h => by rcases h with h | h | h; exact d1 h; exact d2 h; simp at h)]; show tailV lo hi na nb 1 = _; unfold tailV; rw [if_pos (.inr (.inr (.inl c3)))])
          go_wp2_with fail
          go_ret2
          exact ⟨by rw [He.out]; rfl, ((t3).trans0 t5).trans0 t6⟩
        have He : Hid (itemV f s = (rowV (na : Int).toNat (nb : Int).toNat (1 : Int).toNat, 0)) := Lib.hid (by rw [Hiv.out]; skip; rw [Hpv.out, if_neg (fun h => by rcases h with h | h | h; exact d1 h; exact d2 h; simp at h)]; show tailV lo hi na nb 1 = _; unfold tailV; rw [if_neg (by omega)])
        have Hr := Lib.hid (fun w' => Hrow.out (na) (nb) (1) (by omega) (by omega) (by omega) w')
        go_wp2_with fail
        refine (Hr.out _).mono ?_
        rintro e w9 ⟨rfl, rfl⟩
        go_wp2_with fail
        go_ret2
        exact ⟨by rw [He.out]; rfl, ((t3).trans0 t5).trans0 t6⟩
    · have hsb2 : ((S sp).toList = [42]) = False := eq_false (by rw [S_list]; exact hst)
      clear hst
      go_wp2_with fail
      refine (Hna.out _).mono ?_
      rintro e w5 ⟨rfl, t5⟩
      rcases rg with _ | _
      · by_cases d1 : na < 0
        · have He : Hid (itemV f s = (0, 20)) := Lib.hid (by rw [Hiv.out]; skip; rw [Hpv.out, if_pos (.inl d1)])
          go_wp2_with fail
          go_ret2
          exact ⟨by rw [He.out]; rfl, (t3).trans0 t5⟩
        by_cases c1 : na < (lo : Int)
        · have He : Hid (itemV f s = (0, 30)) := Lib.hid (by rw [Hiv.out]; skip; rw [Hpv.out, if_neg (fun h => by rcases h with h | h | h; exact d1 h; exact d1 h; cases h)]; show tailV lo hi na na 1 = _; unfold tailV; rw [if_pos (.inl c1)])
          go_wp2_with fail
          go_ret2
          exact ⟨by rw [He.out]; rfl, (t3).trans0 t5⟩
        by_cases c2 : (hi : Int) < na
        · have He : Hid (itemV f s = (0, 30)) := Lib.hid (by rw [Hiv.out]; skip; rw [Hpv.out, if_neg (fun h => by rcases h with h | h | h; exact d1 h; exact d1 h; cases h)]; show tailV lo hi na na 1 = _; unfold tailV; rw [if_pos (.inr (.inl c2))])
          go_wp2_with fail
          go_ret2
          exact ⟨by rw [He.out]; rfl, (t3).trans0 t5⟩
        have He : Hid (itemV f s = (rowV (na : Int).toNat (na : Int).toNat (1 : Int).toNat, 0)) := Lib.hid (by rw [Hiv.out]; skip; rw [Hpv.out, if_neg (fun h => by rcases h with h | h | h; exact d1 h; exact d1 h; cases h)]; show tailV lo hi na na 1 = _; unfold tailV; rw [if_neg (by omega)])
        have Hr := Lib.hid (fun w' => Hrow.out (na) (na) (1) (by omega) (by omega) (by omega) w')
        go_wp2_with fail
        refine (Hr.out _).mono ?_
        rintro e w9 ⟨rfl, rfl⟩
        go_wp2_with fail
        go_ret2
        exact ⟨by rw [He.out]; rfl, (t3).trans0 t5⟩
      · go_wp2_with fail
        refine (Hnb.out _).mono ?_
        rintro e w6 ⟨rfl, t6⟩
        by_cases d1 : na < 0
        · have He : Hid (itemV f s = (0, 20)) := Lib.hid (by rw [Hiv.out]; skip; rw [Hpv.out, if_pos (.inl d1)])
          go_wp2_with fail
          go_ret2
          exact ⟨by rw [He.out]; rfl, ((t3).trans0 t5).trans0 t6⟩
        by_cases d2 : nb < 0
        · have He : Hid (itemV f s = (0, 20)) := Lib.hid (by rw [Hiv.out]; skip; rw [Hpv.out, if_pos (.inr (.inl d2))])
          go_wp2_with fail
          go_ret2
          exact ⟨by rw [He.out]; rfl, ((t3).trans0 t5).trans0 t6⟩
        by_cases c1 : na < (lo : Int)
        · have He : Hid (itemV f s = (0, 30)) := Lib.hid (by rw [Hiv.out]; skip; rw [Hpv.out, if_neg (fun h => by rcases h with h | h | h; exact d1 h; exact d2 h; simp at h)]; show tailV lo hi na nb 1 = _; unfold tailV; rw [if_pos (.inl c1)])
          go_wp2_with fail
          go_ret2
          exact ⟨by rw [He.out]; rfl, ((t3).trans0 t5).trans0 t6⟩
        by_cases c2 : (hi : Int) < nb
        · have He : Hid (itemV f s = (0, 30)) := Lib.hid (by rw [Hiv.out]; skip; rw [Hpv.out, if_neg (fun h => by rcases h with h | h | h; exact d1 h; exact d2 h; simp at h)]; show tailV lo hi na nb 1 = _; unfold tailV; rw [if_pos (.inr (.inl c2))])
          go_wp2_with fail
          go_ret2
          exact ⟨by rw [He.out]; rfl, ((t3).trans0 t5).trans0 t6⟩
        by_cases c3 : nb < na
        · have He : Hid (itemV f s = (0, 30)) := Lib.hid (by rw [Hiv.out]; skip; rw [Hpv.out, if_neg (fun h => by rcases h with h | h | h; exact d1 h; exact d2 h; simp at h)]; show tailV lo hi na nb 1 = _; unfold tailV; rw [if_pos (.inr (.inr (.inl c3)))])
          go_wp2_with fail
          go_ret2
          exact ⟨by rw [He.out]; rfl, ((t3).trans0 t5).trans0 t6⟩
        have He : Hid (itemV f s = (rowV (na : Int).toNat (nb : Int).toNat (1 : Int).toNat, 0)) := Lib.hid (by rw [Hiv.out]; skip; rw [Hpv.out, if_neg (fun h => by rcases h with h | h | h; exact d1 h; exact d2 h; simp at h)]; show tailV lo hi na nb 1 = _; unfold tailV; rw [if_neg (by omega)])
        have Hr := Lib.hid (fun w' => Hrow.out (na) (nb) (1) (by omega) (by omega) (by omega) w')
        go_wp2_with fail
        refine (Hr.out _).mono ?_
        rintro e w9 ⟨rfl, rfl⟩
        go_wp2_with fail
        go_ret2
        exact ⟨by rw [He.out]; rfl, ((t3).trans0 t5).trans0 t6⟩
  · go_wp2_with fail
    refine (Hny.out _).mono ?_
    rintro e w2 ⟨rfl, t2⟩
    have t12 := t1.trans0 t2
    by_cases hn : ny < 0
    · have He : Hid (itemV f s = (0, 20)) := Lib.hid (by rw [Hiv.out, if_pos (by first | rfl | trivial), if_pos hn])
      go_wp2_with fail
      go_ret2
      exact ⟨by rw [He.out]; rfl, t12⟩
    have hp : Hid (itemV f s = spanV lo hi (some ny) sp) := Lib.hid (by rw [Hiv.out, if_pos (by first | rfl | trivial), if_neg hn])
    clear Hiv
    have Hiv := hp
    clear hp
    go_wp2_with fail
    refine (Hc2.out _ (HG.out.touch0 (t12))).mono ?_
    rintro e w3 ⟨rfl, n3, rfl⟩
    have t3 := t12.drewN n3
    by_cases hst : sp = [42]
    · have hp : Hid (itemV f s = tailV lo hi lo hi ny) := Lib.hid (by rw [Hiv.out, Hs3.out _ hst])
      clear Hiv
      have Hiv := hp
      clear hp
      subst hst
      have hsb2 : (S [42]).toList = [42] := S_list _
      by_cases c4 : ny < 1
      · have He : Hid (itemV f s = (0, 30)) := Lib.hid (by rw [Hiv.out]; skip; unfold tailV; rw [if_pos (.inr (.inr (.inr (.inl c4))))])
        go_wp2_with fail
        go_ret2
        exact ⟨by rw [He.out]; rfl, t3⟩
      by_cases c5 : 59 < ny
      · have He : Hid (itemV f s = (0, 30)) := Lib.hid (by rw [Hiv.out]; skip; unfold tailV; rw [if_pos (.inr (.inr (.inr (.inr c5))))])
        go_wp2_with fail
        go_ret2
        exact ⟨by rw [He.out]; rfl, t3⟩
      have He : Hid (itemV f s = (rowV ((lo : Int) : Int).toNat ((hi : Int) : Int).toNat (ny : Int).toNat, 0)) := Lib.hid (by rw [Hiv.out]; skip; unfold tailV; rw [if_neg (by omega)])
      have Hr := Lib.hid (fun w' => Hrow.out ((lo : Int)) ((hi : Int)) (ny) (by omega) (by omega) (by omega) w')
      go_wp2_with fail
      refine (Hr.out _).mono ?_
      rintro e w9 ⟨rfl, rfl⟩
      go_wp2_with fail
      go_ret2
      exact ⟨by rw [He.out]; rfl, t3⟩
    · have hp : Hid (itemV f s = pairV lo hi (some ny) (a, b, rg)) := Lib.hid (by rw [Hiv.out, Hs1.out _ hst])
      clear Hiv
      have Hiv := hp
      clear hp
      have hsb2 : ((S sp).toList = [42]) = False := eq_false (by rw [S_list]; exact hst)
      clear hst
      go_wp2_with fail
      refine (Hna.out _).mono ?_
      rintro e w5 ⟨rfl, t5⟩
      rcases rg with _ | _
      · by_cases d1 : na < 0
        · have He : Hid (itemV f s = (0, 20)) := Lib.hid (by rw [Hiv.out]; skip; rw [Hpv.out, if_pos (.inl d1)])
          go_wp2_with fail
          go_ret2
          exact ⟨by rw [He.out]; rfl, (t3).trans0 t5⟩
        have He : Hid (itemV f s = (0, 20)) := Lib.hid (by rw [Hiv.out]; skip; rw [Hpv.out, if_pos (.inr (.inr rfl))])
        go_wp2_with fail
        go_ret2
        exact ⟨by rw [He.out]; rfl, (t3).trans0 t5⟩
      · go_wp2_with fail
        refine (Hnb.out _).mono ?_
        rintro e w6 ⟨rfl, t6⟩
        by_cases d1 : na < 0
        · have He : Hid (itemV f s = (0, 20)) := Lib.hid (by rw [Hiv.out]; skip; rw [Hpv.out, if_pos (.inl d1)])
          go_wp2_with fail
          go_ret2
          exact ⟨by rw [He.out]; rfl, ((t3).trans0 t5).trans0 t6⟩
        by_cases d2 : nb < 0
        · have He : Hid (itemV f s = (0, 20)) := Lib.hid (by rw [Hiv.out]; skip; rw [Hpv.out, if_pos (.inr (.inl d2))])
          go_wp2_with fail
          go_ret2
          exact ⟨by rw [He.out]; rfl, ((t3).trans0 t5).trans0 t6⟩
        by_cases c1 : na < (lo : Int)
        · have He : Hid (itemV f s = (0, 30)) := Lib.hid (by rw [Hiv.out]; skip; rw [Hpv.out, if_neg (fun h => by rcases h with h | h | h; exact d1 h; exact d2 h; simp at h)]; show tailV lo hi na nb ny = _; unfold tailV; rw [if_pos (.inl c1)])
          go_wp2_with fail
          go_ret2
          exact ⟨by rw [He.out]; rfl, ((t3).trans0 t5).trans0 t6⟩
        by_cases c2 : (hi : Int) < nb
        · have He : Hid (itemV f s = (0, 30)) := Lib.hid (by rw [Hiv.out]; skip; rw [Hpv.out, if_neg (fun h => by rcases h with h | h | h; exact d1 h; exact d2 h; simp at h)]; show tailV lo hi na nb ny = _; unfold tailV; rw [if_pos (.inr (.inl c2))])
          go_wp2_with fail
          go_ret2
          exact ⟨by rw [He.out]; rfl, ((t3).trans0 t5).trans0 t6⟩
        by_cases c3 : nb < na
        · have He : Hid (itemV f s = (0, 30)) := Lib.hid (by rw [Hiv.out]; skip; rw [Hpv.out, if_neg (fun h => by rcases h with h | h | h; exact d1 h; exact d2 h; simp at h)]; show tailV lo hi na nb ny = _; unfold tailV; rw [if_pos (.inr (.inr (.inl c3)))])
          go_wp2_with fail
          go_ret2
          exact ⟨by rw [He.out]; rfl, ((t3).trans0 t5).trans0 t6⟩
        by_cases c4 : ny < 1
        · have He : Hid (itemV f s = (0, 30)) := Lib.hid (by rw [Hiv.out]; skip; rw [Hpv.out, if_neg (fun h => by rcases h with h | h | h; exact d1 h; exact d2 h; simp at h)]; show tailV lo hi na nb ny = _; unfold tailV; rw [if_pos (.inr (.inr (.inr (.inl c4))))])
          go_wp2_with fail
          go_ret2
          exact ⟨by rw [He.out]; rfl, ((t3).trans0 t5).trans0 t6⟩
        by_cases c5 : 59 < ny
        · have He : Hid (itemV f s = (0, 30)) := Lib.hid (by rw [Hiv.out]; skip; rw [Hpv.out, if_neg (fun h => by rcases h with h | h | h; exact d1 h; exact d2 h; simp at h)]; show tailV lo hi na nb ny = _; unfold tailV; rw [if_pos (.inr (.inr (.inr (.inr c5))))])
          go_wp2_with fail
          go_ret2
          exact ⟨by rw [He.out]; rfl, ((t3).trans0 t5).trans0 t6⟩
        have He : Hid (itemV f s = (rowV (na : Int).toNat (nb : Int).toNat (ny : Int).toNat, 0)) := Lib.hid (by rw [Hiv.out]; skip; rw [Hpv.out, if_neg (fun h => by rcases h with h | h | h; exact d1 h; exact d2 h; simp at h)]; show tailV lo hi na nb ny = _; unfold tailV; rw [if_neg (by omega)])
        have Hr := Lib.hid (fun w' => Hrow.out (na) (nb) (ny) (by omega) (by omega) (by omega) w')
        go_wp2_with fail
        refine (Hr.out _).mono ?_
        rintro e w9 ⟨rfl, rfl⟩
        go_wp2_with fail
        go_ret2
        exact ⟨by rw [He.out]; rfl, ((t3).trans0 t5).trans0 t6⟩
end Go.Proofs.YtoabloeechphkaaDoor
