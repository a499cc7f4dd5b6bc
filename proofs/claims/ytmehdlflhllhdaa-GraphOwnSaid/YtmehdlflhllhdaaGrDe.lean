/- bywashref16.Depths: over and over, till they stand. For every right list of edges without a ring. -/
import Derived.Test.YtmehdlflhllhdaaGrOr
import Derived.Test.YtmehdlflhllhdaaGrF
namespace Go.Proofs.Ytmehdlflhllhdaa
open Go.RowKit

/-- the edges done: those of the rows ahead of i, and k of row i's -/
def EdB (ls : List (List Int)) (N i k : Nat) (De : Nat → Nat → Bool) : Prop := (∀ a b, a < i → b ∈ nsOf (nsL N ls) a → De a b = true) ∧ ∀ b : Nat, (b : Int) ∈ (ls.getD i []).take k → De i b = true
theorem EdB.next {ls : List (List Int)} {N i : Nat} {De : Nat → Nat → Bool} (hl : ls.length ≤ N) (ha : ∀ l ∈ ls, allN N l = true) (h : EdB ls N i (ls.getD i []).length De) : EdB ls N (i + 1) 0 De :=
  ⟨fun a b h1 h2 => by
    by_cases q : a = i
    · subst q
      rw [nsOf_nsL N ls hl, mem_rowU (allN_getD ha _)] at h2
      exact h.2 b (by rw [List.take_length]; exact h2)
    · exact h.1 a b (by omega) h2, fun b hb => by simp at hb⟩
theorem EdB.all {ls : List (List Int)} {N : Nat} {De : Nat → Nat → Bool} (hl : ls.length ≤ N) (h : EdB ls N ls.length 0 De) (k x : Nat) (hx : x ∈ nsOf (nsL N ls) k) : De k x = true := by
  by_cases q : k < ls.length
  · exact h.1 k x q hx
  · rw [nsOf_nsL N ls hl, List.getD_eq_getElem?_getD, List.getElem?_eq_none (by omega)] at hx
    simp [rowU_nil] at hx

/-- the depths so far -/
def DsS (w : World) (G N r i k : Nat) (ls : List (List Int)) (D d : Nat → Nat) (wr : World) : Prop :=
  RowF wr G N N d ∧ Touch [] w wr ∧ ∃ De, Dst (nsL N ls) D r De d ∧ EdB ls N i k De
theorem DsS.step {w : World} {G N r i k j : Nat} {ls : List (List Int)} {D d : Nat → Nat} {wr : World} (hD : Deep (nsL N ls) D) (hl : ls.length ≤ N) (ha : ∀ l ∈ ls, allN N l = true) (hi : i < ls.length) (hk : k < ls[i].length) (hj : ls[i][k] = (j : Int)) (h : DsS w G N r i k ls D d wr) :
    ∃ De, Dst (nsL N ls) D r De (fun y => if y = i then (if d i < d j + 1 then d j + 1 else d i) else d y) ∧ EdB ls N i (k + 1) De := by
  obtain ⟨_, _, De, h1, h2⟩ := h
  have e : ls.getD i [] = ls[i] := by simp [hi]
  have hm : j ∈ nsOf (nsL N ls) i := by
    rw [nsOf_nsL N ls hl, mem_rowU (allN_getD ha _), e, ← hj]
    exact List.getElem_mem hk
  refine ⟨_, h1.step hD hm, fun a b q1 q2 => ?_, fun b hb => ?_⟩
  · have z := h2.1 a b q1 q2
    simp only [z, Bool.true_or]
  · rw [e, List.take_succ_eq_append_getElem hk, hj] at hb
    rcases List.mem_append.1 hb with q | q
    · have z := h2.2 b (by rw [e]; exact q)
      simp only [z, Bool.true_or]
    · have : b = j := by have q' : (b : Int) = (j : Int) := by simpa using q
                         omega
      subst this
      simp

set_option maxRecDepth 20000 in
set_option maxHeartbeats 6400000 in
theorem refDepths_any (N : Nat) (hN : N ≤ 2000) (A : Option Addr) (c m : Nat) (ls : List (List Int)) (hm : ls.length = m) (hmN : m ≤ N) (w : World) (h : InR w A ls) (hb : ∀ l ∈ ls, l.length ≤ 2000) (ha : ∀ l ∈ ls, allN N l = true) (D : Nat → Nat) (hD : Deep (nsL N ls) D) (hDN : ∀ k, k < N → D k ≤ N) :
    Calls Try.prog 18 #[.int .i64 N, .slice A m c] w fun e w' => ∃ (G : Nat) (d : Nat → Nat), e = .returned (.slice (some ⟨G, 0, none⟩) N N) ∧ RowF w' G N N d ∧ (∀ k, k < N → d k = D k) ∧ Touch [] w w' ∧ w.heap.size ≤ G := by
  have Hb := Lib.hid hb
  have Ha := Lib.hid ha
  have HD := Lib.hid hD
  have HDN := Lib.hid hDN
  have Hm := Lib.hid hm
  clear hb ha hD hDN hm
  go_enter Try.func18, Try.ntmps18
  have hmk := fun w => run_mkI N (by omega) w
  go_wp2
  clear hmk
  obtain ⟨W1, hW1⟩ : ∃ W1, W1 = w.alloc (.cells (madeCells #[.int .i64 0] N) 3) := ⟨_, rfl⟩
  have hL := OwnK.made 3 (fun x : Nat => nV x) w N 0 (by unfold maxLen; omega)
  have hT1 : Touch [] w W1 := by rw [hW1]; exact (Touch.refl [] w).alloc _
  change OwnK _ _ _ (w.alloc (.cells (madeCells #[.int .i64 0] N) 3)) _ _ _ at hL
  rw [← hW1] at hL ⊢
  obtain ⟨G, hG⟩ : ∃ G, G = w.heap.size := ⟨_, rfl⟩
  rw [← hG] at hL ⊢
  have hGw : w.heap.size ≤ G := by omega
  have H0 : Hid (RowF W1 G N N (fun _ => 0) ∧ Touch [] w W1) := Lib.hid ⟨by
    unfold RowF
    rw [show (List.range N).map (fun _ => 0) = List.replicate N 0 by simp [List.map_const']]
    exact hL, hT1⟩
  clear hL hT1 hW1 hG
  go_wp2_with fail
  go_loopw [6] (fun y wr => ∃ (r : Nat) (d : Nat → Nat), r ≤ N ∧ y = .int .i64 r ∧ Hid (RowF wr G N N d ∧ Touch [] w wr ∧ ∃ De, Dst (nsL N ls) D r De d ∧ EdB ls N 0 0 De)) (fun y _ => N - (intOf y).toNat)
  case atStart => exact ⟨0, fun _ => 0, by omega, rfl, Lib.hid ⟨H0.out.1, H0.out.2, fun _ _ => false, ⟨fun _ => Nat.zero_le _, fun _ => by omega, fun _ _ _ e => by cases e⟩, fun _ _ q => absurd q (by omega), fun _ q => by simp at q⟩⟩
  case round =>
    clear H0
    obtain ⟨r, d, hr, rfl, HI⟩ := hrel
    by_cases hlr : r < N
    · go_wp2_with fail
      go_loopw [7] (fun y wr => ∃ (i : Nat) (d : Nat → Nat), i ≤ m ∧ y = .int .i64 i ∧ Hid (DsS w G N r i 0 ls D d wr)) (fun y _ => m - (intOf y).toNat)
      case atStart => exact ⟨0, d, by omega, rfl, HI⟩
      case round =>
        clear HI
        obtain ⟨i, d, hi, rfl, HI⟩ := hrel
        by_cases hli : i < m
        · obtain ⟨q, hq⟩ : ∃ q, q = (ls.getD i []).length := ⟨_, rfl⟩
          have Hq := Lib.hid hq
          clear hq
          go_wp2_with fail
          go_loopw [8] (fun y wr => ∃ (k : Nat) (d : Nat → Nat), k ≤ q ∧ y = .int .i64 k ∧ Hid (DsS w G N r i k ls D d wr)) (fun y _ => q - (intOf y).toNat)
          case atStart => exact ⟨0, d, by omega, rfl, HI⟩
          case round =>
            clear HI
            obtain ⟨k, d, hk, rfl, HI⟩ := hrel
            have hil : i < ls.length := by have := Hm.out; omega
            have Hget : Hid (ls.getD i [] = ls[i]) := Lib.hid (by simp [hil])
            obtain ⟨ad, A', c', rfl, hc, _, hrow⟩ := (h.touch0 HI.out.2.1).at_ i hil
            have hqq : ls[i].length = q := by rw [Hq.out, Hget.out]
            rw [hqq] at hc
            have Hqq := Lib.hid hqq
            have hq20 : q ≤ 2000 := by rw [← hqq]; exact Hb.out _ (List.getElem_mem hil)
            clear hqq
            by_cases hlk : k < q
            · have hkl : k < ls[i].length := by rw [Hqq.out]; exact hlk
              obtain ⟨ad2, rfl, hcx⟩ := hrow.at_ k hkl
              have hxn := nodeB_iff.1 (List.all_eq_true.1 (Ha.out _ (List.getElem_mem hil)) _ (List.getElem_mem hkl))
              obtain ⟨j, hj⟩ : ∃ j : Nat, ls[i][k] = (j : Int) := ⟨ls[i][k].toNat, by omega⟩
              rw [hj] at hcx hxn
              have hjN : j < N := by omega
              have cj := HI.out.1.cell j hjN
              have ci := HI.out.1.cell i (by omega)
              have fi := HI.out.1.free i
              have HI2 := HI.out
              obtain ⟨De', hd', he'⟩ := HI.out.step HD.out (by have := Hm.out; omega) Ha.out hil hkl hj
              have hdj : d j ≤ N := by
                obtain ⟨_, _, De, z, _⟩ := HI2
                exact Nat.le_trans (z.le j) (HDN.out j hjN)
              have hset : ∀ z, RowF ((wr.drewN z).setCell ⟨G, i, none⟩ (.int .i64 ((d j : Int) + 1))) G N N (upd d i (d j + 1)) := fun z => (HI2.1.touch0 ((Touch.refl [] wr).drewN z)).set i (d j + 1) (by omega)
              have htset := fun z => (HI2.2.1.drewN z).setCell (p := ⟨G, i, none⟩) (.inr hGw) (.int .i64 ((d j : Int) + 1))
              obtain ⟨x, hx⟩ : ∃ x, x = d j := ⟨_, rfl⟩
              obtain ⟨y, hy⟩ : ∃ y, y = d i := ⟨_, rfl⟩
              rw [← hx] at cj hd' hdj hset htset
              rw [← hy] at ci hd'
              have HE := Lib.hid (And.intro hd' he')
              have HS2 := Lib.hid (And.intro hset htset)
              have HR2 := Lib.hid (And.intro HI2.1 HI2.2.1)
              have Hy := Lib.hid hy
              have hiN : i < N := by omega
              clear hx hy HI hd' he' hset htset HI2 hj hxn hrow
              by_cases hxy : y < x + 1
              · have hxy2 : (y : Int) < (x : Int) + 1 := by omega
                go_wp2_with fail
                go_quiet (fail)
                go_wp2_with fail
                go_roundw
                case rel =>
                  refine ⟨k + 1, upd d i (x + 1), by omega, by go_num, Lib.hid ⟨HS2.out.1 _, HS2.out.2 _, De', ?_, HE.out.2⟩⟩
                  have hd' := HE.out.1
                  rw [show (fun z => if z = i then (if y < x + 1 then x + 1 else y) else d z) = upd d i (x + 1) from funext fun z => by
                    unfold upd
                    rw [if_pos hxy]] at hd'
                  exact hd'
                case measure => simp [intOf]; omega
              · have hxy2 : ((y : Int) < (x : Int) + 1) = False := by simp; omega
                go_wp2_with fail
                go_quiet (fail)
                go_wp2_with fail
                go_roundw
                case rel =>
                  refine ⟨k + 1, d, by omega, by go_num, Lib.hid ⟨HR2.out.1.touch0 ((Touch.refl [] _).drewN _), HR2.out.2.drewN _, De', ?_, HE.out.2⟩⟩
                  have hd' := HE.out.1
                  rw [show (fun z => if z = i then (if y < x + 1 then x + 1 else y) else d z) = d from funext fun z => by
                    by_cases q : z = i
                    · subst q; rw [if_pos rfl, if_neg hxy, Hy.out]
                    · rw [if_neg q]] at hd'
                  exact hd'
                case measure => simp [intOf]; omega
            · obtain rfl : k = q := by omega
              go_wp2_with fail
              go_roundw
              case rel => exact ⟨i + 1, d, by omega, by go_num, Lib.hid ⟨HI.out.1, HI.out.2.1, by
                obtain ⟨De, z1, z2⟩ := HI.out.2.2
                rw [Hq.out] at z2
                exact ⟨De, z1, z2.next (by have := Hm.out; omega) Ha.out⟩⟩⟩
              case measure => simp [intOf]; omega
        · obtain rfl : i = m := by omega
          go_wp2_with fail
          go_roundw
          case rel =>
            refine ⟨r + 1, d, by omega, by go_num, Lib.hid ⟨HI.out.1, HI.out.2.1, fun _ _ => false, ?_, fun _ _ q => absurd q (by omega), fun _ q => by simp at q⟩⟩
            obtain ⟨De, z1, z2⟩ := HI.out.2.2
            rw [← Hm.out] at z2
            exact z1.next HD.out (z2.all (by have := Hm.out; omega))
          case measure => simp [intOf]; omega
    · obtain rfl : r = N := by omega
      go_wp2_with fail
      go_ret
      obtain ⟨z1, z2, De, z3, _⟩ := HI.out
      have hn := nsL_length r ls
      exact ⟨G, d, rfl, z1, fun k hk => Dst.last HD.out (by rw [hn]; exact z3) (nsL_lt (by have := Hm.out; omega) Ha.out) k (by rw [hn]; exact hk), z2, hGw⟩
end Go.Proofs.Ytmehdlflhllhdaa
