/- Part 2 of the texts of this proof, one behind the other; each begins with its own sentence. No condition beyond those that its theorems state. -/
import Derived.Test.YtlcpljpeljoboaaDoorSc1
import Derived.Deep.RegionWith
import Derived.IntWalk
/- frame.In.Int: the next number. -/
namespace Go.Proofs.YtlcpljpeljoboaaDoor
open Go.RowKit Go.Shelf

attribute [local go_sem] Oper.semAt_some

theorem cell_new_l (W : World) (v : Value) (t : TypeId) : (W.alloc (.cells #[v] t)).cell? ⟨W.heap.size, 0, none⟩ = some v ∧ (W.alloc (.cells #[v] t)).frozen? ⟨W.heap.size, 0, none⟩ = false :=
  ⟨cell_of_one (heap_alloc_new W _), free_of_one (heap_alloc_new W _)⟩
theorem cell_alloc_l {W : World} {a : Addr} {v : Value} (o : Obj) (h : W.cell? a = some v) : (W.alloc o).cell? a = some v := cell_kept h (World.grownBy_alloc W o none) (fun r e => by cases e)
theorem frozen_alloc_l {W : World} {a : Addr} {v : Value} (o : Obj) (h : W.cell? a = some v) (hf : W.frozen? a = false) : (W.alloc o).frozen? a = false := (frozen_kept h (World.grownBy_alloc W o none) (fun r e => by cases e)).trans hf
theorem or256 (N x : Nat) (hN : N < 72057594037927936) (hx : x < 256) : bits BinOp.or IntKind.u64 ((N : Int) * 256) (x : Int) = ((N * 256 + x : Nat) : Int) := by
  have h := u64_or_nat (N * 256) x (by omega) (by omega)
  have e : ((N * 256 : Nat) : Int) = (N : Int) * 256 := by simp
  rw [e] at h
  rw [h, Nat.mul_comm N 256]
  exact congrArg (Nat.cast) (Nat.two_pow_add_eq_or_of_lt (i := 8) hx N).symm

def leV (bs : List UInt8) : Nat := bs.foldr (fun x n => x.toNat + 256 * n) 0
def backV (ps : List (Nat × UInt8)) : Nat := ps.foldl (fun n x => n * 256 + x.2.toNat) 0
theorem backV_lt (ps : List (Nat × UInt8)) : backV ps < 256 ^ ps.length := by
  suffices ∀ (ps : List (Nat × UInt8)) n, ps.foldl (fun n x => n * 256 + x.2.toNat) n < (n + 1) * 256 ^ ps.length by simpa [backV] using this ps 0
  intro ps
  induction ps with
  | nil => intro n; simp
  | cons x ps ih =>
    intro n
    have hx := x.2.toNat_lt
    refine Nat.lt_of_lt_of_le (ih (n * 256 + x.2.toNat)) ?_
    rw [List.length_cons, Nat.pow_succ, Nat.mul_comm (256 ^ ps.length) 256, ← Nat.mul_assoc]
    exact Nat.mul_le_mul_right _ (by omega)

theorem backV_snoc (ps : List (Nat × UInt8)) (x : Nat × UInt8) : backV (ps ++ [x]) = backV ps * 256 + x.2.toNat := by simp [backV]
theorem backV_upto (zs : List UInt8) (k : Nat) (hk : k ≤ zs.length) : backV (upto (backAt zs) k) = leV (zs.drop (zs.length - k)) := by
  induction k with
  | zero => simp [upto, backV, leV]
  | succ k ih =>
    rw [upto_succ, backV_snoc, ih (by omega)]
    have hlt : zs.length - (k + 1) < zs.length := by omega
    rw [List.drop_eq_getElem_cons hlt, show zs.length - (k + 1) + 1 = zs.length - k by omega]
    have h2 : zs.length - 1 - k = zs.length - (k + 1) := by omega
    simp only [backAt, h2, List.getElem?_eq_getElem hlt, Option.getD_some]
    show _ = zs[zs.length - (k + 1)].toNat + 256 * leV _
    omega
theorem leV_lt (bs : List UInt8) : leV bs < 256 ^ bs.length := by
  induction bs with
  | nil => simp [leV]
  | cons x bs ih =>
    have hx := x.toNat_lt
    show x.toNat + 256 * leV bs < 256 ^ (bs.length + 1)
    rw [Nat.pow_succ]; omega

/-- the next number, and what is left; none: it is none -/
def rdI (l : List UInt8) : Option (Int × List UInt8) :=
  match l with
  | [] => none
  | h :: t =>
    let s := if 16 ≤ h.toNat then h.toNat - 16 else h.toNat
    if 8 < s ∨ t.length < s ∨ (0 < s ∧ t[s - 1]? = some 0) ∨ 9223372036854775808 ≤ leV (t.take s) then none
    else some (if 16 ≤ h.toNat then -1 - (leV (t.take s) : Int) else (leV (t.take s) : Int), t.drop s)

/-- the outcome of In.Int -/
def IntPost (g : Nat) (A : Option Addr) (l : List UInt8) (w : World) (e : Ending) (w' : World) : Prop :=
  match rdI l with
  | some (n, l') => e = .returned (.int .i64 n) ∧ InPost g A l' false w w'
  | none => e = .returned (.int .i64 0) ∧ ∃ l', InPost g A l' true w w'

theorem InPost.trans {g : Nat} {A A1 : Option Addr} {l : List UInt8} {bad : Bool} {w w1 w2 : World} (ht : Touch [g] w w1) (hf : ∀ b ∈ fpo A1, b ∈ fpo A) (h : InPost g A1 l bad w1 w2) : InPost g A l bad w w2 := by
  obtain ⟨A2, hi, ht2, hf2⟩ := h
  exact ⟨A2, hi, ht.trans ht2 (fun b hb => .inl hb), fun b hb => hf b (hf2 b hb)⟩

set_option maxHeartbeats 800000 in
theorem inInt_bad (g : Nat) (A : Option Addr) (l : List UInt8) (w : World) (hi : InAt w g A l true) :
    Calls Tryd.prog 70 #[.pointer (some ⟨g, 0, none⟩)] w fun e w' => e = .returned (.int .i64 0) ∧ InPost g A l true w w' := by
  go_enter Tryd.func70, Tryd.ntmps70
  go_wp2_with fail
  refine (take_no g A l true 1 (by omega) (by omega) w hi (.inl rfl)).mono ?_
  rintro e w1 ⟨rfl, A1, hi1, ht1, hf1⟩
  obtain ⟨c1, hc1, hg1, hgl1, hc01, hc11, hfr1, hfr11⟩ := hi1.mk'
  clear hg1
  go_wp2_with fail
  go_ret
  exact ⟨rfl, A1, hi1, ht1, hf1⟩

/-- take, of whatever number -/
theorem take_both (g : Nat) (A : Option Addr) (l : List UInt8) (s : Nat) (hs : s ≤ 100) (w : World) (hi : InAt w g A l false) :
    Calls Tryd.prog 66 #[.pointer (some ⟨g, 0, none⟩), .int .i64 s] w fun e w' => ∃ zs A0 bad' l', e = .returned (.slice A0 zs.length zs.length) ∧ RdB w' A0 zs ∧ (∀ b ∈ fpo A0, b ∈ fpo A) ∧ InPost g A l' bad' w w' ∧
      ((s ≤ l.length ∧ zs = l.take s ∧ bad' = false ∧ l' = l.drop s) ∨ (l.length < s ∧ zs = [] ∧ bad' = true ∧ l' = l)) := by
  have hne := hi.ne
  by_cases h : s ≤ l.length
  · refine (take_ok g A l s h w hi).mono ?_
    rintro e w1 ⟨⟨A0, rfl, hr0, hf0⟩, hp⟩
    have ht := hp
    obtain ⟨_, _, ht1, _⟩ := ht
    exact ⟨l.take s, A0, false, l.drop s, by rw [List.length_take, Nat.min_eq_left h], hr0.touch ht1 (fun b hb hm => hne ((by simpa using hm : b = g) ▸ hf0 b hb)), hf0, hp, .inl ⟨h, rfl, rfl, rfl⟩⟩
  · refine (take_no g A l false s (by omega) (by omega) w hi (.inr (.inr (by omega)))).mono ?_
    rintro e w1 ⟨rfl, hp⟩
    exact ⟨[], none, true, l, rfl, Rd.nil _ _, by simp [fpo], hp, .inr ⟨by omega, rfl, rfl, rfl⟩⟩

theorem InPost.put {g : Nat} {A : Option Addr} {l : List UInt8} {bad : Bool} {w W : World} (h : InPost g A l bad w W) {D : Nat} (hD : w.heap.size ≤ D) {d : Option (List Deferred)} {o : Obj} (hK : W.heap[D]? = some (.deferred d)) : InPost g A l bad w (W.putObj D o) := by
  obtain ⟨A2, ⟨⟨c, hc, hb⟩, hr, hn, hs⟩, ht, hf⟩ := h
  have hoth : ∀ k, k ≠ D → (W.putObj D o).heap[k]? = W.heap[k]? := fun k hk => by simp [World.putObj, Ne.symm hk]
  have hgD : g ≠ D := fun e => by subst e; rw [hK] at hb; cases hb
  refine ⟨A2, ⟨⟨c, hc, (hoth g hgD).trans hb⟩, fun h0 => ?_, hn, hs⟩, ⟨ht.os, ht.tape, ht.output, by have := ht.size; simpa [World.putObj] using this, fun k hk hm => (hoth k (by omega)).trans (ht.block k hk hm)⟩, hf⟩
  obtain ⟨ad, e, hcell⟩ := hr h0
  refine ⟨ad, e, fun j u hu => ?_⟩
  have h1 := hcell j u hu
  exact cell_kept h1 (grownBy_putObj' W D o) (fun r e => by cases e; exact ⟨_, hK, rfl⟩)

set_option maxRecDepth 20000 in
set_option maxHeartbeats 800000 in
theorem inInt_ok (g : Nat) (A : Option Addr) (l : List UInt8) (w : World) (hi : InAt w g A l false) :
    Calls Tryd.prog 70 #[.pointer (some ⟨g, 0, none⟩)] w fun e w' => IntPost g A l w e w' := by
  rcases l with _ | ⟨h, t⟩
  · go_enter Tryd.func70, Tryd.ntmps70
    go_wp2_with fail
    refine (take_no g A [] false 1 (by omega) (by omega) w hi (.inr (.inr (by simp)))).mono ?_
    rintro e w1 ⟨rfl, A1, hi1, ht1, hf1⟩
    obtain ⟨c1, hc1, hg1, hgl1, hc01, hc11, hfr1, hfr11⟩ := hi1.mk'
    clear hg1
    go_wp2_with fail
    go_ret
    exact ⟨rfl, [], A1, hi1, ht1, hf1⟩
  · refine (callsIn_wide (n := 3)).1 ?_
    refine callsIn_of_wp_marks Tryd.func70 rfl trivial ?_ rfl
    simp only [Tryd.ntmps70, List.size_toArray, List.length_cons, List.length_nil, Nat.reduceAdd, Nat.reduceSub, Array.replicate_succ, Array.replicate_zero, List.push_toArray, List.append_toArray, List.nil_append, List.cons_append]
    have hne := hi.ne
    have hlen : 1 ≤ (h :: t).length := by simp
    have hCall1 := take_ok g A (h :: t) 1 hlen w hi
    by_cases hq : 16 ≤ h.toNat
    · obtain ⟨s, hs⟩ : ∃ s, h.toNat = 16 + s := ⟨h.toNat - 16, by omega⟩
      by_cases h8 : 8 < s
      · have hp : ∀ w w' e, (e = .returned (.int .i64 0) ∧ ∃ l', InPost g A l' true w w') → IntPost g A (h :: t) w e w' := fun w w' e he => by
          have : rdI (h :: t) = none := by simp [rdI, hs, h8]
          unfold IntPost; rw [this]; exact he
        have Hp := Lib.hid hp; clear hp
        clear hq
        gi_wp2_with fail
        refine ⟨trivial, ?_⟩
        gi_at_call 66
        refine (callsIn_wide.2 hCall1).mono ?_
        clear hCall1
        rintro e w1 ⟨⟨A0, rfl, hr0, hf0⟩, A1, hi1, ht1, hf1⟩
        obtain ⟨c1, hc1, hg1, hgl1, hc01, hc11, hfr1, hfr11⟩ := hi1.mk'
        clear hg1
        have hr1 : RdB w1 A0 [h] := Rd.touch hr0 ht1 (fun b hb hm => hne ((by simpa using hm : b = g) ▸ hf0 b hb))
        obtain ⟨a0, rfl, hcell⟩ := hr1.at_ 0 (by simp)
        have hcell0 : w1.cell? a0 = some (.int .u8 (16 + (s : Int))) := by
          have e0 : a0.add 0 = a0 := by unfold Addr.add; split <;> simp_all
          rw [e0] at hcell
          rw [hcell]; simp [hs]
        clear hcell
        have hsl : s < 240 := by have := h.toNat_lt; omega
        have e16 : (16 + (s : Int) - 16) = (s : Int) := by omega
        have P1 := hi1.spoil
        gi_wp2
        exact ⟨_, results_tmp rfl _ _ _, Hp.out _ _ _ ⟨rfl, _, P1.trans ht1 hf1⟩⟩
      · gi_wp2_with fail
        refine ⟨trivial, ?_⟩
        gi_at_call 66
        refine (callsIn_wide.2 hCall1).mono ?_
        clear hCall1
        rintro e w1 ⟨⟨A0, rfl, hr0, hf0⟩, A1, hi1, ht1, hf1⟩
        obtain ⟨c1, hc1, hg1, hgl1, hc01, hc11, hfr1, hfr11⟩ := hi1.mk'
        clear hg1
        have hr1 : RdB w1 A0 [h] := Rd.touch hr0 ht1 (fun b hb hm => hne ((by simpa using hm : b = g) ▸ hf0 b hb))
        obtain ⟨a0, rfl, hcell⟩ := hr1.at_ 0 (by simp)
        have hcell0 : w1.cell? a0 = some (.int .u8 (16 + (s : Int))) := by
          have e0 : a0.add 0 = a0 := by unfold Addr.add; split <;> simp_all
          rw [e0] at hcell
          rw [hcell]; simp [hs]
        clear hcell
        have e16 : (16 + (s : Int) - 16) = (s : Int) := by omega
        gi_wp2_with fail
        refine ⟨trivial, ?_⟩
        refine (callsIn_wide.2 (take_both g A1 t s (by omega) w1 hi1)).mono ?_
        rintro e w2 ⟨zs, A2, bad2, l2, rfl, hr2, hf2, ⟨A3, hi3, ht2, hf3⟩, hcase⟩
        obtain ⟨c3, hc3, hg3, hgl3, hc03, hc13, hfr3, hfr13⟩ := hi3.mk'
        gi_wp2_with fail
        refine ⟨trivial, ?_⟩
        refine (back_in Fence.wide 2 trivial rfl A2 zs.length zs.length _).mono ?_
        rintro e w3 ⟨rfl, rfl⟩
        gi_wp2_with fail
        have hbs := cell_new_l (w2.alloc (.cells #[.int .u64 0] 111)) (.slice A2 zs.length zs.length) 22
        have hns := cell_new_l w2 (.int .u64 0) 111
        rw [World.size_alloc] at hbs
        have tw := ((Touch.refl [] w2).alloc (.cells #[.int .u64 0] 111)).alloc (.cells #[.slice A2 zs.length zs.length] 22)
        have hz8 : zs.length ≤ 8 := by rcases hcase with ⟨h1, rfl, _⟩ | ⟨_, rfl, _⟩ <;> simp <;> omega
        have hA2 : ∀ b ∈ fpo A2, 0 < zs.length → b < w2.heap.size := fun b hb h0 => hr2.lt (by simpa using h0) b hb
        refine wpIn_rangeFunc_ownF rfl (by omega) (gf := 77) (lb := #[.pointer (some ⟨w2.heap.size + 1, 0, none⟩)]) rfl trivial (enters_of Tryd.func77 (by kernel_rfl) rfl)
          (back_stops Fence.wide 2 trivial rfl (by omega) (w2.heap.size + 1) A2 zs.length zs (by omega) _ hbs.1 (hr2.touch0 tw)) KpB.trans (KpB.put ?bs) (Below.refl _ _) (fun _ => rfl)
          (fun pre W => (W.cell? ⟨w2.heap.size, 0, none⟩ = some (.int .u64 (backV pre : Nat)) ∧ W.frozen? ⟨w2.heap.size, 0, none⟩ = false) ∧ Below w2.heap.size w2 W)
          (fun _ _ _ => False)
          (OwnFrom.and (Own.from (fun st A B row hs hg hr => ⟨cell_kept hs.1 hg hr, (frozen_kept hs.1 hg hr).trans hs.2⟩) _) (ownFrom_below (Nat.le_refl _) (by simp; omega)))
          (fun _ _ _ _ _ hs _ _ => hs)
          ⟨⟨cell_alloc_l _ hns.1, frozen_alloc_l _ hns.1 hns.2⟩, ((Below.refl _ w2).alloc (Nat.le_refl _) _).alloc (by simp) _⟩
          ?a1 ?assign ?body ?done ?stop
        case bs =>
          intro k hk
          rw [World.size_alloc, World.size_alloc]
          unfold backs at hk
          split at hk
          · simp at hk; omega
          · rcases List.mem_cons.1 hk with h | h
            · omega
            · have := hA2 k h (by omega); omega
        case a1 => exact fun x => { tmps := #[.pointer (some ⟨g, 0, none⟩), undef, .int .i64 0, .slice (some a0) 1 1, .int .i64 s, .bool true, .slice A2 zs.length zs.length, .pointer (some ⟨w2.heap.size, 0, none⟩), undef, .int .u8 x.2.toNat, .pointer (some ⟨g, 0, none⟩), .slice (some a0) 1 1, .pointer (some ⟨g, 0, none⟩), .pointer (some ⟨g, 0, none⟩), .pointer (some ⟨g, 1, none⟩), .bool false, .slice (some a0) 1 1, .pointer (some a0), .int .u8 (16 + (s : Int)), .int .i64 (16 + (s : Int)), .int .i64 (16 + (s : Int)), .bool true, .int .i64 (16 + (s : Int)), .int .i64 s, .int .i64 s, .bool (decide (8 < (s : Int))), undef, undef, undef, .pointer (some ⟨g, 0, none⟩), .int .i64 s, .slice A2 zs.length zs.length, .slice A2 zs.length zs.length, .func (.func 77) #[] #[.pointer (some ⟨w2.heap.size + 1, 0, none⟩)], .int .i64 x.1, .int .u8 x.2.toNat, undef, undef, undef, undef, undef, undef, undef, undef, undef, undef, undef, undef, undef, undef, undef, undef, undef, undef, undef, undef, undef, undef, undef, undef, undef, undef, undef, undef, undef, undef, undef, undef, undef, undef, undef], defers := [] }
        case assign =>
          intro l x W K hK
          gi_wp2
          exact hK
        case stop =>
          rintro D c pre W _ _ h _
          exact h.elim
        case body =>
          rintro l pre ⟨x1, x2⟩ W ⟨⟨hc, hf⟩, hB⟩ hlen
          have hv := backV_lt pre
          have hv2 : backV pre < 72057594037927936 := Nat.lt_of_lt_of_le hv (Nat.pow_le_pow_right (by omega) (by omega : pre.length ≤ 7))
          have hx2 := x2.toNat_lt
          have hor := Lib.hid (or256 (backV pre) x2.toNat hv2 hx2)
          have hnk : w2.heap.size ∉ backs (w2.heap.size + 1) A2 zs := by
            intro hk
            unfold backs at hk
            split at hk
            · simp at hk
            · rcases List.mem_cons.1 hk with h | h
              · omega
              · have := hA2 _ h (by omega); omega
          gi_wp2
          refine ⟨KeepsOthers.setCell _ _ _, KpB.setCell W _ _ hnk, ⟨?_, by rw [World.frozen?_setCell]; exact hf⟩, hB.trans ((Below.refl w2.heap.size W).setCell (p := ⟨w2.heap.size, 0, none⟩) (Nat.le_refl _) _)⟩
          rw [hor.out, backV_snoc]
          exact World.cell?_setCell_same' _ _ _ (by rw [hc]; rfl)
        case done =>
          rintro D ys W hD rfl ⟨⟨hc, hf⟩, hB⟩ hK
          rw [backV_upto zs _ (Nat.le_refl _), Nat.sub_self, List.drop_zero] at hc
          have hv : leV zs < 18446744073709551616 := Nat.lt_of_lt_of_le (leV_lt zs) (Nat.pow_le_pow_right (by omega) hz8)
          have tW := Touch.of_below hB []
          have hiW := hi3.touch tW (by simp) (by simp)
          have hrW := hr2.touch0 tW
          have TT : Touch [g] w W := (ht1.trans ht2 (fun b hb => .inl hb)).trans0 tW
          have PB := hiW.spoil
          obtain ⟨c4, hc4, hg4, hgl4, hc04, hc14, hfr4, hfr14⟩ := hiW.mk'
          clear hg4
          rcases hcase with ⟨hsl, hz, rfl, hl2⟩ | ⟨hsl, rfl, rfl, hl2⟩
          · have hzl : zs.length = s := by rw [hz, List.length_take]; omega
            have PG : InPost g A l2 false w W := ⟨A3, hiW, TT, fun b hb => hf1 b (hf3 b hb)⟩
            by_cases hs0 : s = 0
            · subst hs0
              obtain rfl := List.eq_nil_of_length_eq_zero hzl
              have hyes : rdI (h :: t) = some (-1, l2) := by rw [hl2]; simp [rdI, hs, leV]
              clear hz hl2 hs
              have hc' : W.cell? ⟨w2.heap.size, 0, none⟩ = some (.int .u64 0) := hc
              clear hc
              gi_wp2
              refine ⟨by simp, .inl ⟨_, _, rfl, run_takeDeferred hK, ?_⟩⟩
              refine ⟨_, results_tmp rfl _ _ _, ?_⟩
              unfold IntPost
              rw [hyes]
              exact ⟨rfl, InPost.put PG (by have := ht2.size; have := ht1.size; simp at hD; omega) hK⟩
            · obtain ⟨j, rfl⟩ : ∃ j, s = j + 1 := ⟨s - 1, by omega⟩
              have hj : j < zs.length := by omega
              obtain ⟨a2, rfl, hcl⟩ := RdB.at_ hrW j hj
              obtain ⟨x, hx⟩ : ∃ x, x = zs[j] := ⟨_, rfl⟩
              rw [← hx] at hcl
              have htx : t[j]? = some x := by
                rw [hx, List.getElem?_eq_getElem (by omega)]
                congr 1
                simp only [hz, List.getElem_take]
              obtain ⟨N, hN⟩ : ∃ N, N = leV zs := ⟨_, rfl⟩
              rw [← hN] at hc hv
              have hNt : leV (t.take (j + 1)) = N := by rw [hN, hz]
              by_cases hx0 : x.toNat = 0
              · have hno : rdI (h :: t) = none := by
                  have : x = 0 := UInt8.toNat_inj.1 (by simpa using hx0)
                  subst this
                  simp [rdI, hs, htx]
                rw [hx0] at hcl
                clear hz hl2 hs hx hN hNt htx hx0
                gi_wp2
                refine ⟨by simp, .inl ⟨_, _, rfl, run_takeDeferred ((KeepsOthers.setCell W ⟨g, 1, none⟩ (.bool true)).same D _ hK rfl), ?_⟩⟩
                refine ⟨_, results_tmp rfl _ _ _, ?_⟩
                unfold IntPost
                rw [hno]
                refine ⟨rfl, l2, InPost.put ?_ (by have := TT.size; have := ht2.size; have := ht1.size; simp at hD; omega) ((KeepsOthers.setCell W ⟨g, 1, none⟩ (.bool true)).same D _ hK rfl)⟩
                exact PB.trans TT (fun b hb => hf1 b (hf3 b hb))
              · have hxb : (((x.toNat : Int)) == 0) = false := by rw [beq_eq_false_iff_ne]; omega
                have hxl := x.toNat_lt
                have hxne : x ≠ 0 := fun e => hx0 (by rw [e]; rfl)
                by_cases hbig : 9223372036854775808 ≤ N
                · have hno : rdI (h :: t) = none := by simp [rdI, hs, hNt, hbig]
                  clear hz hl2 hs hx hN hNt htx hxne
                  gi_wp2
                  refine ⟨by simp, .inl ⟨_, _, rfl, run_takeDeferred ((KeepsOthers.setCell W ⟨g, 1, none⟩ (.bool true)).same D _ hK rfl), ?_⟩⟩
                  refine ⟨_, results_tmp rfl _ _ _, ?_⟩
                  unfold IntPost
                  rw [hno]
                  refine ⟨rfl, l2, InPost.put ?_ (by have := TT.size; have := ht2.size; have := ht1.size; simp at hD; omega) ((KeepsOthers.setCell W ⟨g, 1, none⟩ (.bool true)).same D _ hK rfl)⟩
                  exact PB.trans TT (fun b hb => hf1 b (hf3 b hb))
                · have hyes : rdI (h :: t) = some (-1 - (N : Int), l2) := by
                    rw [hl2]
                    simp only [rdI, hs]
                    simp [hNt, htx, hxne]
                    omega
                  clear hz hl2 hs hx hN hNt htx hxne
                  gi_wp2
                  refine ⟨by simp, .inl ⟨_, _, rfl, run_takeDeferred hK, ?_⟩⟩
                  refine ⟨_, results_tmp rfl _ _ _, ?_⟩
                  unfold IntPost
                  rw [hyes]
                  exact ⟨rfl, InPost.put PG (by have := ht2.size; have := ht1.size; simp at hD; omega) hK⟩
          · have hno : rdI (h :: t) = none := by simp [rdI, hs, hsl]
            gi_wp2
            refine ⟨by simp, .inl ⟨_, _, rfl, run_takeDeferred ((KeepsOthers.setCell W ⟨g, 1, none⟩ (.bool true)).same D _ hK rfl), ?_⟩⟩
            refine ⟨_, results_tmp rfl _ _ _, ?_⟩
            unfold IntPost
            rw [hno]
            refine ⟨rfl, l2, InPost.put ?_ (by have := TT.size; have := ht2.size; have := ht1.size; simp at hD; omega) ((KeepsOthers.setCell W ⟨g, 1, none⟩ (.bool true)).same D _ hK rfl)⟩
            exact PB.trans TT (fun b hb => hf1 b (hf3 b hb))
    · obtain ⟨s, hs⟩ : ∃ s, h.toNat = s := ⟨_, rfl⟩
      have hq16 : s < 16 := by omega
      have hnq : ¬ 16 ≤ s := by omega
      by_cases h8 : 8 < s
      · have hp : ∀ w w' e, (e = .returned (.int .i64 0) ∧ ∃ l', InPost g A l' true w w') → IntPost g A (h :: t) w e w' := fun w w' e he => by
          have : rdI (h :: t) = none := by simp [rdI, hs, h8, hnq]
          unfold IntPost; rw [this]; exact he
        have Hp := Lib.hid hp; clear hp
        clear hq
        gi_wp2_with fail
        refine ⟨trivial, ?_⟩
        gi_at_call 66
        refine (callsIn_wide.2 hCall1).mono ?_
        clear hCall1
        rintro e w1 ⟨⟨A0, rfl, hr0, hf0⟩, A1, hi1, ht1, hf1⟩
        obtain ⟨c1, hc1, hg1, hgl1, hc01, hc11, hfr1, hfr11⟩ := hi1.mk'
        clear hg1
        have hr1 : RdB w1 A0 [h] := Rd.touch hr0 ht1 (fun b hb hm => hne ((by simpa using hm : b = g) ▸ hf0 b hb))
        obtain ⟨a0, rfl, hcell⟩ := hr1.at_ 0 (by simp)
        have hcell0 : w1.cell? a0 = some (.int .u8 (s : Int)) := by
          have e0 : a0.add 0 = a0 := by unfold Addr.add; split <;> simp_all
          rw [e0] at hcell
          rw [hcell]; simp [hs]
        clear hcell
        have hsl : s < 240 := by have := h.toNat_lt; omega
        have P1 := hi1.spoil
        gi_wp2
        exact ⟨_, results_tmp rfl _ _ _, Hp.out _ _ _ ⟨rfl, _, P1.trans ht1 hf1⟩⟩
      · gi_wp2_with fail
        refine ⟨trivial, ?_⟩
        gi_at_call 66
        refine (callsIn_wide.2 hCall1).mono ?_
        clear hCall1
        rintro e w1 ⟨⟨A0, rfl, hr0, hf0⟩, A1, hi1, ht1, hf1⟩
        obtain ⟨c1, hc1, hg1, hgl1, hc01, hc11, hfr1, hfr11⟩ := hi1.mk'
        clear hg1
        have hr1 : RdB w1 A0 [h] := Rd.touch hr0 ht1 (fun b hb hm => hne ((by simpa using hm : b = g) ▸ hf0 b hb))
        obtain ⟨a0, rfl, hcell⟩ := hr1.at_ 0 (by simp)
        have hcell0 : w1.cell? a0 = some (.int .u8 (s : Int)) := by
          have e0 : a0.add 0 = a0 := by unfold Addr.add; split <;> simp_all
          rw [e0] at hcell
          rw [hcell]; simp [hs]
        clear hcell
        gi_wp2_with fail
        refine ⟨trivial, ?_⟩
        refine (callsIn_wide.2 (take_both g A1 t s (by omega) w1 hi1)).mono ?_
        rintro e w2 ⟨zs, A2, bad2, l2, rfl, hr2, hf2, ⟨A3, hi3, ht2, hf3⟩, hcase⟩
        obtain ⟨c3, hc3, hg3, hgl3, hc03, hc13, hfr3, hfr13⟩ := hi3.mk'
        gi_wp2_with fail
        refine ⟨trivial, ?_⟩
        refine (back_in Fence.wide 2 trivial rfl A2 zs.length zs.length _).mono ?_
        rintro e w3 ⟨rfl, rfl⟩
        gi_wp2_with fail
        have hbs := cell_new_l (w2.alloc (.cells #[.int .u64 0] 111)) (.slice A2 zs.length zs.length) 22
        have hns := cell_new_l w2 (.int .u64 0) 111
        rw [World.size_alloc] at hbs
        have tw := ((Touch.refl [] w2).alloc (.cells #[.int .u64 0] 111)).alloc (.cells #[.slice A2 zs.length zs.length] 22)
        have hz8 : zs.length ≤ 8 := by rcases hcase with ⟨h1, rfl, _⟩ | ⟨_, rfl, _⟩ <;> simp <;> omega
        have hA2 : ∀ b ∈ fpo A2, 0 < zs.length → b < w2.heap.size := fun b hb h0 => hr2.lt (by simpa using h0) b hb
        refine wpIn_rangeFunc_ownF rfl (by omega) (gf := 77) (lb := #[.pointer (some ⟨w2.heap.size + 1, 0, none⟩)]) rfl trivial (enters_of Tryd.func77 (by kernel_rfl) rfl)
          (back_stops Fence.wide 2 trivial rfl (by omega) (w2.heap.size + 1) A2 zs.length zs (by omega) _ hbs.1 (hr2.touch0 tw)) KpB.trans (KpB.put ?bs) (Below.refl _ _) (fun _ => rfl)
          (fun pre W => (W.cell? ⟨w2.heap.size, 0, none⟩ = some (.int .u64 (backV pre : Nat)) ∧ W.frozen? ⟨w2.heap.size, 0, none⟩ = false) ∧ Below w2.heap.size w2 W)
          (fun _ _ _ => False)
          (OwnFrom.and (Own.from (fun st A B row hs hg hr => ⟨cell_kept hs.1 hg hr, (frozen_kept hs.1 hg hr).trans hs.2⟩) _) (ownFrom_below (Nat.le_refl _) (by simp; omega)))
          (fun _ _ _ _ _ hs _ _ => hs)
          ⟨⟨cell_alloc_l _ hns.1, frozen_alloc_l _ hns.1 hns.2⟩, ((Below.refl _ w2).alloc (Nat.le_refl _) _).alloc (by simp) _⟩
          ?a1 ?assign ?body ?done ?stop
        case bs =>
          intro k hk
          rw [World.size_alloc, World.size_alloc]
          unfold backs at hk
          split at hk
          · simp at hk; omega
          · rcases List.mem_cons.1 hk with h | h
            · omega
            · have := hA2 k h (by omega); omega
        case a1 => exact fun x => { tmps := #[.pointer (some ⟨g, 0, none⟩), undef, .int .i64 0, .slice (some a0) 1 1, .int .i64 s, .bool false, .slice A2 zs.length zs.length, .pointer (some ⟨w2.heap.size, 0, none⟩), undef, .int .u8 x.2.toNat, .pointer (some ⟨g, 0, none⟩), .slice (some a0) 1 1, .pointer (some ⟨g, 0, none⟩), .pointer (some ⟨g, 0, none⟩), .pointer (some ⟨g, 1, none⟩), .bool false, .slice (some a0) 1 1, .pointer (some a0), .int .u8 (s : Int), .int .i64 s, .int .i64 s, .bool (decide (16 ≤ (s : Int))), undef, undef, .int .i64 s, .bool (decide (8 < (s : Int))), undef, undef, undef, .pointer (some ⟨g, 0, none⟩), .int .i64 s, .slice A2 zs.length zs.length, .slice A2 zs.length zs.length, .func (.func 77) #[] #[.pointer (some ⟨w2.heap.size + 1, 0, none⟩)], .int .i64 x.1, .int .u8 x.2.toNat, undef, undef, undef, undef, undef, undef, undef, undef, undef, undef, undef, undef, undef, undef, undef, undef, undef, undef, undef, undef, undef, undef, undef, undef, undef, undef, undef, undef, undef, undef, undef, undef, undef, undef, undef], defers := [] }
        case assign =>
          intro l x W K hK
          gi_wp2
          exact hK
        case stop =>
          rintro D c pre W _ _ h _
          exact h.elim
        case body =>
          rintro l pre ⟨x1, x2⟩ W ⟨⟨hc, hf⟩, hB⟩ hlen
          have hv := backV_lt pre
          have hv2 : backV pre < 72057594037927936 := Nat.lt_of_lt_of_le hv (Nat.pow_le_pow_right (by omega) (by omega : pre.length ≤ 7))
          have hx2 := x2.toNat_lt
          have hor := Lib.hid (or256 (backV pre) x2.toNat hv2 hx2)
          have hnk : w2.heap.size ∉ backs (w2.heap.size + 1) A2 zs := by
            intro hk
            unfold backs at hk
            split at hk
            · simp at hk
            · rcases List.mem_cons.1 hk with h | h
              · omega
              · have := hA2 _ h (by omega); omega
          gi_wp2
          refine ⟨KeepsOthers.setCell _ _ _, KpB.setCell W _ _ hnk, ⟨?_, by rw [World.frozen?_setCell]; exact hf⟩, hB.trans ((Below.refl w2.heap.size W).setCell (p := ⟨w2.heap.size, 0, none⟩) (Nat.le_refl _) _)⟩
          rw [hor.out, backV_snoc]
          exact World.cell?_setCell_same' _ _ _ (by rw [hc]; rfl)
        case done =>
          rintro D ys W hD rfl ⟨⟨hc, hf⟩, hB⟩ hK
          rw [backV_upto zs _ (Nat.le_refl _), Nat.sub_self, List.drop_zero] at hc
          have hv : leV zs < 18446744073709551616 := Nat.lt_of_lt_of_le (leV_lt zs) (Nat.pow_le_pow_right (by omega) hz8)
          have tW := Touch.of_below hB []
          have hiW := hi3.touch tW (by simp) (by simp)
          have hrW := hr2.touch0 tW
          have TT : Touch [g] w W := (ht1.trans ht2 (fun b hb => .inl hb)).trans0 tW
          have PB := hiW.spoil
          obtain ⟨c4, hc4, hg4, hgl4, hc04, hc14, hfr4, hfr14⟩ := hiW.mk'
          clear hg4
          rcases hcase with ⟨hsl, hz, rfl, hl2⟩ | ⟨hsl, rfl, rfl, hl2⟩
          · have hzl : zs.length = s := by rw [hz, List.length_take]; omega
            have PG : InPost g A l2 false w W := ⟨A3, hiW, TT, fun b hb => hf1 b (hf3 b hb)⟩
            by_cases hs0 : s = 0
            · subst hs0
              obtain rfl := List.eq_nil_of_length_eq_zero hzl
              have hyes : rdI (h :: t) = some (0, l2) := by rw [hl2]; simp [rdI, hs, leV]
              clear hz hl2 hs
              have hc' : W.cell? ⟨w2.heap.size, 0, none⟩ = some (.int .u64 0) := hc
              clear hc
              gi_wp2
              refine ⟨by simp, .inl ⟨_, _, rfl, run_takeDeferred hK, ?_⟩⟩
              refine ⟨_, results_tmp rfl _ _ _, ?_⟩
              unfold IntPost
              rw [hyes]
              exact ⟨rfl, InPost.put PG (by have := ht2.size; have := ht1.size; simp at hD; omega) hK⟩
            · obtain ⟨j, rfl⟩ : ∃ j, s = j + 1 := ⟨s - 1, by omega⟩
              have hj : j < zs.length := by omega
              obtain ⟨a2, rfl, hcl⟩ := RdB.at_ hrW j hj
              obtain ⟨x, hx⟩ : ∃ x, x = zs[j] := ⟨_, rfl⟩
              rw [← hx] at hcl
              have htx : t[j]? = some x := by
                rw [hx, List.getElem?_eq_getElem (by omega)]
                congr 1
                simp only [hz, List.getElem_take]
              obtain ⟨N, hN⟩ : ∃ N, N = leV zs := ⟨_, rfl⟩
              rw [← hN] at hc hv
              have hNt : leV (t.take (j + 1)) = N := by rw [hN, hz]
              by_cases hx0 : x.toNat = 0
              · have hno : rdI (h :: t) = none := by
                  have : x = 0 := UInt8.toNat_inj.1 (by simpa using hx0)
                  subst this
                  simp [rdI, hs, htx, hnq]
                rw [hx0] at hcl
                clear hz hl2 hs hx hN hNt htx hx0
                gi_wp2
                refine ⟨by simp, .inl ⟨_, _, rfl, run_takeDeferred ((KeepsOthers.setCell W ⟨g, 1, none⟩ (.bool true)).same D _ hK rfl), ?_⟩⟩
                refine ⟨_, results_tmp rfl _ _ _, ?_⟩
                unfold IntPost
                rw [hno]
                refine ⟨rfl, l2, InPost.put ?_ (by have := TT.size; have := ht2.size; have := ht1.size; simp at hD; omega) ((KeepsOthers.setCell W ⟨g, 1, none⟩ (.bool true)).same D _ hK rfl)⟩
                exact PB.trans TT (fun b hb => hf1 b (hf3 b hb))
              · have hxb : (((x.toNat : Int)) == 0) = false := by rw [beq_eq_false_iff_ne]; omega
                have hxl := x.toNat_lt
                have hxne : x ≠ 0 := fun e => hx0 (by rw [e]; rfl)
                by_cases hbig : 9223372036854775808 ≤ N
                · have hno : rdI (h :: t) = none := by simp [rdI, hs, hNt, hbig, hnq]
                  clear hz hl2 hs hx hN hNt htx hxne
                  gi_wp2
                  refine ⟨by simp, .inl ⟨_, _, rfl, run_takeDeferred ((KeepsOthers.setCell W ⟨g, 1, none⟩ (.bool true)).same D _ hK rfl), ?_⟩⟩
                  refine ⟨_, results_tmp rfl _ _ _, ?_⟩
                  unfold IntPost
                  rw [hno]
                  refine ⟨rfl, l2, InPost.put ?_ (by have := TT.size; have := ht2.size; have := ht1.size; simp at hD; omega) ((KeepsOthers.setCell W ⟨g, 1, none⟩ (.bool true)).same D _ hK rfl)⟩
                  exact PB.trans TT (fun b hb => hf1 b (hf3 b hb))
                · have hyes : rdI (h :: t) = some ((N : Int), l2) := by
                    rw [hl2]
                    simp only [rdI, hs, if_neg hnq]
                    simp [hNt, htx, hxne]
                    omega
                  clear hz hl2 hs hx hN hNt htx hxne
                  gi_wp2
                  refine ⟨by simp, .inl ⟨_, _, rfl, run_takeDeferred hK, ?_⟩⟩
                  refine ⟨_, results_tmp rfl _ _ _, ?_⟩
                  unfold IntPost
                  rw [hyes]
                  exact ⟨rfl, InPost.put PG (by have := ht2.size; have := ht1.size; simp at hD; omega) hK⟩
          · have hno : rdI (h :: t) = none := by simp [rdI, hs, hsl, hnq]
            gi_wp2
            refine ⟨by simp, .inl ⟨_, _, rfl, run_takeDeferred ((KeepsOthers.setCell W ⟨g, 1, none⟩ (.bool true)).same D _ hK rfl), ?_⟩⟩
            refine ⟨_, results_tmp rfl _ _ _, ?_⟩
            unfold IntPost
            rw [hno]
            refine ⟨rfl, l2, InPost.put ?_ (by have := TT.size; have := ht2.size; have := ht1.size; simp at hD; omega) ((KeepsOthers.setCell W ⟨g, 1, none⟩ (.bool true)).same D _ hK rfl)⟩
            exact PB.trans TT (fun b hb => hf1 b (hf3 b hb))
end Go.Proofs.YtlcpljpeljoboaaDoor

/- frame.In.Text: the next text.  -/
namespace Go.Proofs.YtlcpljpeljoboaaDoor
open Go.RowKit

/-- the next text, and what is left -/
def rdT (l : List UInt8) : Option (List UInt8 × List UInt8) :=
  match rdI l with
  | none => none
  | some (n, l') => if n < 0 ∨ (l'.length : Int) < n then none else some (l'.take n.toNat, l'.drop n.toNat)

set_option maxHeartbeats 400000 in
theorem inText_bad (g : Nat) (A : Option Addr) (l : List UInt8) (w : World) (hi : InAt w g A l true) :
    Calls Tryd.prog 65 #[.pointer (some ⟨g, 0, none⟩)] w fun e w' => e = .returned (.string (S [])) ∧ InPost g A l true w w' := by
  go_enter Tryd.func65, Tryd.ntmps65
  go_wp2_with fail
  refine (inInt_bad g A l w hi).mono ?_
  rintro e w1 ⟨rfl, A1, hi1, ht1, hf1⟩
  go_wp2_with fail
  refine (take_no g A1 l true 0 (by omega) (by omega) w1 hi1 (.inl rfl)).mono ?_
  rintro e w2 ⟨rfl, hp⟩
  have hrun := run_str_of (w := w2) (A := none) (n := 0) 0 (l := []) rfl (Rd.nil _ _)
  go_wp2
  go_ret
  exact ⟨rfl, hp.trans ht1 hf1⟩

theorem rdI_bounds {l l' : List UInt8} {n : Int} (h : rdI l = some (n, l')) : -9223372036854775808 ≤ n ∧ n ≤ 9223372036854775807 := by
  unfold rdI at h
  split at h
  · cases h
  · dsimp only at h
    split at h <;> split at h <;> first | (cases h; omega) | cases h

/-- the outcome of In.Text -/
def TextPost (g : Nat) (A : Option Addr) (l : List UInt8) (w : World) (e : Ending) (w' : World) : Prop :=
  match rdT l with
  | some (t, l') => e = .returned (.string (S t)) ∧ InPost g A l' false w w'
  | none => e = .returned (.string (S [])) ∧ ∃ l', InPost g A l' true w w'

set_option maxHeartbeats 400000 in
theorem inText_ok (g : Nat) (A : Option Addr) (l : List UInt8) (w : World) (hi : InAt w g A l false) :
    Calls Tryd.prog 65 #[.pointer (some ⟨g, 0, none⟩)] w fun e w' => TextPost g A l w e w' := by
  have hI := inInt_ok g A l w hi
  rcases hr : rdI l with _ | ⟨n, l1⟩
  · have ht : rdT l = none := by simp [rdT, hr]
    unfold IntPost at hI
    rw [hr] at hI
    unfold TextPost
    rw [ht]
    clear hr ht
    go_enter Tryd.func65, Tryd.ntmps65
    go_wp2_with fail
    refine hI.mono ?_
    rintro e w1 ⟨rfl, l1, A1, hi1, ht1, hf1⟩
    go_wp2_with fail
    refine (take_no g A1 l1 true 0 (by omega) (by omega) w1 hi1 (.inl rfl)).mono ?_
    rintro e w2 ⟨rfl, hp⟩
    have hrun := run_str_of (w := w2) (A := none) (n := 0) 0 (l := []) rfl (Rd.nil _ _)
    go_wp2
    go_ret
    exact ⟨rfl, l1, hp.trans ht1 hf1⟩
  · obtain ⟨b1, b2⟩ := rdI_bounds hr
    unfold IntPost at hI
    rw [hr] at hI
    by_cases hn : n < 0 ∨ (l1.length : Int) < n
    · have ht : rdT l = none := by simp [rdT, hr, hn]
      unfold TextPost
      rw [ht]
      clear hr ht
      go_enter Tryd.func65, Tryd.ntmps65
      go_wp2_with fail
      refine hI.mono ?_
      rintro e w1 ⟨rfl, A1, hi1, ht1, hf1⟩
      go_wp2_with fail
      refine (take_no g A1 l1 false n b1 b2 w1 hi1 (.inr hn)).mono ?_
      rintro e w2 ⟨rfl, hp⟩
      have hrun := run_str_of (w := w2) (A := none) (n := 0) 0 (l := []) rfl (Rd.nil _ _)
      go_wp2
      go_ret
      exact ⟨rfl, l1, hp.trans ht1 hf1⟩
    · obtain ⟨k, rfl⟩ : ∃ k : Nat, n = (k : Int) := ⟨n.toNat, by omega⟩
      have hk : k ≤ l1.length := by omega
      have ht : rdT l = some (l1.take k, l1.drop k) := by simp only [rdT, hr, if_neg hn]; rfl
      unfold TextPost
      rw [ht]
      have hne := hi.ne
      clear hr ht hn
      go_enter Tryd.func65, Tryd.ntmps65
      go_wp2_with fail
      refine hI.mono ?_
      rintro e w1 ⟨rfl, A1, hi1, ht1, hf1⟩
      go_wp2_with fail
      refine (take_ok g A1 l1 k hk w1 hi1).mono ?_
      rintro e w2 ⟨⟨A0, rfl, hr0, hf0⟩, hp⟩
      obtain ⟨_, _, ht2, _⟩ := id hp
      have hr2 : RdB w2 A0 (l1.take k) := Rd.touch hr0 ht2 (fun b hb hm => hi1.ne ((by simpa using hm : b = g) ▸ hf0 b hb))
      have hrun := run_str_of (w := w2) (A := A0) (n := k) k (l := l1.take k) (by rw [List.length_take]; omega) hr2
      go_wp2
      go_ret
      exact ⟨rfl, hp.trans ht1 hf1⟩
end Go.Proofs.YtlcpljpeljoboaaDoor

/- frame.In.Count: the next number, within bounds. -/
namespace Go.Proofs.YtlcpljpeljoboaaDoor
open Go.RowKit

/-- the next count, and what is left -/
def rdC (most : Int) (l : List UInt8) : Option (Int × List UInt8) :=
  match rdI l with
  | none => none
  | some (n, l') => if n < 0 ∨ most < n then none else some (n, l')

/-- the outcome of In.Count -/
def CountPost (g : Nat) (A : Option Addr) (most : Int) (l : List UInt8) (w : World) (e : Ending) (w' : World) : Prop :=
  match rdC most l with
  | some (n, l') => e = .returned (.int .i64 n) ∧ InPost g A l' false w w'
  | none => e = .returned (.int .i64 0) ∧ ∃ l', InPost g A l' true w w'

set_option maxHeartbeats 400000 in
theorem inCount_bad (g : Nat) (A : Option Addr) (l : List UInt8) (most : Int) (w : World) (hi : InAt w g A l true) :
    Calls Tryd.prog 72 #[.pointer (some ⟨g, 0, none⟩), .int .i64 most] w fun e w' => e = .returned (.int .i64 0) ∧ InPost g A l true w w' := by
  go_enter Tryd.func72, Tryd.ntmps72
  go_wp2_with fail
  refine (inInt_bad g A l w hi).mono ?_
  rintro e w1 ⟨rfl, A1, hi1, ht1, hf1⟩
  by_cases hm : most < 0
  · obtain ⟨c1, hc1, hg1, hgl1, hc01, hc11, hfr1, hfr11⟩ := hi1.mk'
    have PB := hi1.spoil
    clear hg1
    go_wp2
    go_ret
    exact ⟨rfl, PB.trans ht1 hf1⟩
  · go_wp2
    go_ret
    exact ⟨rfl, A1, hi1, ht1, hf1⟩

set_option maxHeartbeats 400000 in
theorem inCount_ok (g : Nat) (A : Option Addr) (l : List UInt8) (most : Int) (w : World) (hi : InAt w g A l false) :
    Calls Tryd.prog 72 #[.pointer (some ⟨g, 0, none⟩), .int .i64 most] w fun e w' => CountPost g A most l w e w' := by
  have hI := inInt_ok g A l w hi
  rcases hr : rdI l with _ | ⟨n, l1⟩
  · have ht : rdC most l = none := by simp [rdC, hr]
    unfold IntPost at hI
    rw [hr] at hI
    unfold CountPost
    rw [ht]
    clear hr ht
    go_enter Tryd.func72, Tryd.ntmps72
    go_wp2_with fail
    refine hI.mono ?_
    rintro e w1 ⟨rfl, l1, A1, hi1, ht1, hf1⟩
    by_cases hm : most < 0
    · obtain ⟨c1, hc1, hg1, hgl1, hc01, hc11, hfr1, hfr11⟩ := hi1.mk'
      have PB := hi1.spoil
      clear hg1
      go_wp2
      go_ret
      exact ⟨rfl, l1, PB.trans ht1 hf1⟩
    · go_wp2
      go_ret
      exact ⟨rfl, l1, A1, hi1, ht1, hf1⟩
  · unfold IntPost at hI
    rw [hr] at hI
    by_cases hn : n < 0 ∨ most < n
    · have ht : rdC most l = none := by simp [rdC, hr, hn]
      unfold CountPost
      rw [ht]
      clear hr ht
      go_enter Tryd.func72, Tryd.ntmps72
      go_wp2_with fail
      refine hI.mono ?_
      rintro e w1 ⟨rfl, A1, hi1, ht1, hf1⟩
      obtain ⟨c1, hc1, hg1, hgl1, hc01, hc11, hfr1, hfr11⟩ := hi1.mk'
      have PB := hi1.spoil
      clear hg1
      by_cases hn0 : n < 0
      · clear hn
        go_wp2
        go_ret
        exact ⟨rfl, l1, PB.trans ht1 hf1⟩
      · have hn1 : most < n := by omega
        clear hn
        go_wp2
        go_ret
        exact ⟨rfl, l1, PB.trans ht1 hf1⟩
    · have ht : rdC most l = some (n, l1) := by simp only [rdC, hr, if_neg hn]
      unfold CountPost
      rw [ht]
      have hn0 : 0 ≤ n := by omega
      have hn1 : n ≤ most := by omega
      clear hr ht hn
      go_enter Tryd.func72, Tryd.ntmps72
      go_wp2_with fail
      refine hI.mono ?_
      rintro e w1 ⟨rfl, A1, hi1, ht1, hf1⟩
      go_wp2
      go_ret
      exact ⟨rfl, A1, hi1, ht1, hf1⟩
end Go.Proofs.YtlcpljpeljoboaaDoor

/- the plain law: a number's lowest bytes and the number that they make. No program in sight. -/
namespace Go.Proofs.YtlcpljpeljoboaaDoor
open Go.RowKit

theorem le_len (f N k : Nat) (h : N < 256 ^ k) : (le f N).length ≤ k := by
  induction f generalizing N k with
  | zero => simp [le]
  | succ f ih =>
    unfold le
    split
    · simp
    · rename_i h0
      cases k with
      | zero => simp at h; omega
      | succ k =>
        have := ih (N / 256) k (by rw [Nat.pow_succ] at h; exact Nat.div_lt_of_lt_mul (by rw [Nat.mul_comm]; exact h))
        simpa using this

theorem leV_cons (x : UInt8) (r : List UInt8) : leV (x :: r) = x.toNat + 256 * leV r := rfl

theorem leV_pos (zs : List UInt8) (h0 : zs ≠ []) (hl : zs.getLast? ≠ some 0) : 0 < leV zs := by
  induction zs with
  | nil => exact absurd rfl h0
  | cons x r ih =>
    rw [leV_cons]
    by_cases hr : r = []
    · subst hr
      have hx : x ≠ 0 := fun e => hl (by simp [e])
      have : x.toNat ≠ 0 := fun e => hx (UInt8.toNat_inj.1 (by simpa using e))
      omega
    · have := ih hr (by
        rw [List.getLast?_cons] at hl
        cases hg : r.getLast? with
        | none => exact fun e => by cases e
        | some v => rw [hg] at hl; simpa using hl)
      omega

theorem le_leV (f : Nat) (zs : List UInt8) (hf : zs.length ≤ f) (hl : zs.getLast? ≠ some 0) : le f (leV zs) = zs := by
  induction zs generalizing f with
  | nil => cases f <;> simp [le, leV]
  | cons x r ih =>
    obtain ⟨f, rfl⟩ : ∃ f', f = f' + 1 := ⟨f - 1, by simp at hf; omega⟩
    have hp := leV_pos (x :: r) (by simp) hl
    have hx := x.toNat_lt
    rw [leV_cons] at hp ⊢
    unfold le
    rw [if_neg (by omega)]
    have e1 : UInt8.ofNat (x.toNat + 256 * leV r) = x := by
      apply UInt8.toNat_inj.1
      simp
    have e2 : (x.toNat + 256 * leV r) / 256 = leV r := by omega
    rw [e1, e2, ih f (by simpa using hf)]
    by_cases hr : r = []
    · subst hr; simp
    · rw [List.getLast?_cons] at hl
      cases hg : r.getLast? with
      | none => exact fun e => by cases e
      | some v => rw [hg] at hl; simpa using hl

theorem leV_append (a b : List UInt8) : leV (a ++ b) = leV a + 256 ^ a.length * leV b := by
  induction a with
  | nil => simp [leV]
  | cons x r ih => rw [List.cons_append, leV_cons, ih, leV_cons, List.length_cons, Nat.pow_succ, Nat.mul_add, ← Nat.mul_assoc, Nat.mul_comm 256 (256 ^ r.length), Nat.add_assoc]

/-- a last byte that is none makes the number shorter -/
theorem le_short (f : Nat) (zs : List UInt8) (hl : zs.getLast? = some 0) : (le f (leV zs)).length < zs.length := by
  rcases List.eq_nil_or_concat zs with rfl | ⟨m, b, rfl⟩
  · cases hl
  · simp at hl
    subst hl
    have : leV (m ++ [0]) = leV m := by rw [leV_append]; simp [leV]
    rw [List.concat_eq_append, this]
    have := le_len f (leV m) m.length (leV_lt m)
    simp; omega
end Go.Proofs.YtlcpljpeljoboaaDoor

/- bywashref07.Read: the number at a place, as the document says. For every slice of bytes and every place. -/
namespace Go.Proofs.YtlcpljpeljoboaaDoor
open Go.RowKit Go.Shelf

/-- the number at a place, and where it ends -/
def refRd (l : List UInt8) (at_ : Nat) : Int × Int :=
  match rdI (l.drop at_) with
  | some (n, r) => (n, (l.length : Int) - r.length)
  | none => (0, -1)

def bk (zs : List UInt8) (k : Nat) : Nat := backV (upto (backAt zs) k)
theorem bk_zero (zs : List UInt8) : bk zs 0 = 0 := rfl
theorem bk_succ (zs : List UInt8) (k : Nat) (hk : k < zs.length) : bk zs (k + 1) = bk zs k * 256 + (zs[zs.length - 1 - k]'(by omega)).toNat := by
  unfold bk
  rw [upto_succ, backV_snoc]
  simp [backAt, List.getElem?_eq_getElem (show zs.length - 1 - k < zs.length by omega)]
theorem bk_all (zs : List UInt8) : bk zs zs.length = leV zs := by
  unfold bk
  rw [backV_upto zs _ (Nat.le_refl _), Nat.sub_self, List.drop_zero]
theorem bk_big (zs : List UInt8) (k : Nat) (hk : k < zs.length) (h : 36028797018963968 ≤ bk zs k) : 9223372036854775808 ≤ leV zs := by
  have : ∀ j, k < j → j ≤ zs.length → 9223372036854775808 ≤ bk zs j := by
    intro j
    induction j with
    | zero => intro h; omega
    | succ j ih =>
      intro h1 h2
      rw [bk_succ zs j (by omega)]
      by_cases e : j = k
      · subst e; omega
      · have := ih (by omega) (by omega); omega
  rw [← bk_all]
  exact this _ hk (Nat.le_refl _)

theorem rdI_cons (h : UInt8) (t : List UInt8) (s : Nat) (hs : s = h.toNat % 16) (h31 : h.toNat ≤ 31) (h8 : s ≤ 8) (hl : s ≤ t.length) (hN : leV (t.take s) < 9223372036854775808) (h0 : (t.take s).getLast? ≠ some 0) :
    rdI (h :: t) = some (if 16 ≤ h.toNat then -1 - (leV (t.take s) : Int) else (leV (t.take s) : Int), t.drop s) := by
  have e : (if 16 ≤ h.toNat then h.toNat - 16 else h.toNat) = s := by split <;> omega
  unfold rdI
  dsimp only
  rw [e, if_neg]
  rintro (h1 | h1 | ⟨h1, h2⟩ | h1)
  · omega
  · omega
  · apply h0
    rw [List.getLast?_eq_getElem?, List.length_take, Nat.min_eq_left hl, List.getElem?_take]
    rw [if_pos (by omega)]; exact h2
  · omega
theorem rdI_none (h : UInt8) (t : List UInt8) (s : Nat) (hs : s = h.toNat % 16) (hno : 31 < h.toNat ∨ 8 < s ∨ t.length < s ∨ 9223372036854775808 ≤ leV (t.take s) ∨ (t.take s).getLast? = some 0) : rdI (h :: t) = none := by
  unfold rdI
  dsimp only
  rw [if_pos]
  by_cases h31 : 31 < h.toNat
  · left; split <;> omega
  · have e : (if 16 ≤ h.toNat then h.toNat - 16 else h.toNat) = s := by split <;> omega
    rw [e]
    rcases hno with h1 | h1 | h1 | h1 | h1
    · omega
    · exact .inl h1
    · exact .inr (.inl h1)
    · exact .inr (.inr (.inr h1))
    · by_cases hl : t.length < s
      · exact .inr (.inl hl)
      · right; right; left
        rw [List.getLast?_eq_getElem?, List.length_take, Nat.min_eq_left (by omega), List.getElem?_take] at h1
        split at h1
        · exact ⟨by omega, h1⟩
        · cases h1

/-- the bytes of what was read are those that were read, just if the last one is none -/
theorem encI_back (h : UInt8) (zs : List UInt8) (h31 : h.toNat ≤ 31) (hs : zs.length = h.toNat % 16) (h8 : zs.length ≤ 8) :
    (encI (if 16 ≤ h.toNat then -1 - (leV zs : Int) else (leV zs : Int)) = h :: zs) ↔ zs.getLast? ≠ some 0 := by
  have key : encI (if 16 ≤ h.toNat then -1 - (leV zs : Int) else (leV zs : Int)) = UInt8.ofNat ((le 8 (leV zs)).length + if 16 ≤ h.toNat then 16 else 0) :: le 8 (leV zs) := by
    split
    · rw [encI_neg (M := leV zs) (by omega) (by omega)]
    · rw [encI_pos]; simp
  rw [key]
  constructor
  · intro e h0
    have := le_short 8 zs h0
    injection e with _ e2
    rw [e2] at this; omega
  · intro h0
    rw [le_leV 8 zs h8 h0]
    congr 1
    apply UInt8.toNat_inj.1
    split <;> simp <;> omega

theorem ret_two {a b c d : Int} (h1 : a = c) (h2 : b = d) : Ending.returned (.tuple #[.int .i64 a, .int .i64 b]) = .returned (.tuple #[.int .i64 c, .int .i64 d]) := by rw [h1, h2]

/-- b[i:j] -/
theorem run_cutB (A : Option Addr) (n c i j : Nat) (k : Int) (hk : k = (j : Int)) (hij : i ≤ j) (hj : j ≤ c) (W : World) :
    (Instr.sliceAt 22 (.slice A n c) (some (.int .i64 (i : Int))) (some (.int .i64 k)) none).run Tryd.prog W = .ok (.slice (if c = i then A else A.map (fun x => x.add i)) (j - i) (c - i)) W := by
  subst hk
  obtain ⟨i0, hi0, hz0, hz1, hz2⟩ := info_parts info_u8
  simp only [Instr.sliceAt, Instr.slice, Sem.run_bind, run_underlying Tryd.underlying22, Result.andThen, Instr.sliceBounds, sizeOf, typeInfo]
  simp [run_sliceBound, hij, hj, go_sem, hi0, hz1]

set_option maxRecDepth 100000 in
set_option maxHeartbeats 1600000 in
theorem refRead_any (A : Option Addr) (c : Nat) (l : List UInt8) (at_ : Nat) (hl : l.length ≤ 140737488000000) (hc : l.length ≤ c) (ha : at_ ≤ 140737488000000) (w : World) (hr : RdB w A l) :
    Calls Tryd.prog 52 #[.slice A l.length c, .int .i64 at_] w fun e w' => e = .returned (.tuple #[.int .i64 (refRd l at_).1, .int .i64 (refRd l at_).2]) ∧ Touch [] w w' := by
  go_enter Tryd.func52, Tryd.ntmps52
  by_cases hal : l.length ≤ at_
  · have hx : refRd l at_ = (0, -1) := by unfold refRd; rw [List.drop_eq_nil_of_le hal]; rfl
    have Hx := Lib.hid hx; clear hx
    go_wp2
    go_ret2
    rw [Hx.out]
    exact ⟨rfl, Touch.refl _ _⟩
  have hlt : at_ < l.length := by omega
  obtain ⟨ad, rfl, hcell⟩ := hr.at_ at_ hlt
  obtain ⟨h, hh⟩ : ∃ h, h = l[at_] := ⟨_, rfl⟩
  obtain ⟨t, htt⟩ : ∃ t, t = l.drop (at_ + 1) := ⟨_, rfl⟩
  have hdrop : l.drop at_ = h :: t := by rw [hh, htt, List.drop_eq_getElem_cons hlt]
  have htl : t.length = l.length - at_ - 1 := by rw [htt]; simp; omega
  rw [← hh] at hcell
  have hhl := h.toNat_lt
  clear hal hh
  obtain ⟨s, hs⟩ : ∃ s, s = h.toNat % 16 := ⟨_, rfl⟩
  have hsI : ((h.toNat : Int) % 16) = (s : Int) := by omega
  have hs16 : s < 16 := by omega
  by_cases h31 : 31 < h.toNat
  · have hx : refRd l at_ = (0, -1) := by unfold refRd; rw [hdrop, rdI_none h t s hs (.inl h31)]
    have Hx := Lib.hid hx; clear hx
    clear hdrop htt htl hs
    go_wp2
    go_ret2
    rw [Hx.out]
    exact ⟨rfl, Touch.refl _ _⟩
  by_cases h8 : 8 < s
  · have hx : refRd l at_ = (0, -1) := by unfold refRd; rw [hdrop, rdI_none h t s hs (.inr (.inl h8))]
    have Hx := Lib.hid hx; clear hx
    clear hdrop htt htl hs
    go_wp2
    go_ret2
    rw [Hx.out]
    exact ⟨rfl, Touch.refl _ _⟩
  by_cases hsh : l.length < at_ + 1 + s
  · have hx : refRd l at_ = (0, -1) := by unfold refRd; rw [hdrop, rdI_none h t s hs (.inr (.inr (.inl (by omega))))]
    have Hx := Lib.hid hx; clear hx
    clear hdrop htt htl hs
    go_wp2
    go_ret2
    rw [Hx.out]
    exact ⟨rfl, Touch.refl _ _⟩
  obtain ⟨zs, hzs⟩ : ∃ zs, zs = t.take s := ⟨_, rfl⟩
  have hzl : zs.length = s := by rw [hzs, List.length_take]; omega
  have hz8 : zs.length ≤ 8 := by omega
  have hzc : ∀ j, (hj : j < s) → w.cell? (ad.add (at_ + (j + 1))) = some (.int .u8 (zs[j]'(by omega)).toNat) := by
    intro j hj
    obtain ⟨ad', e, h1⟩ := hr.at_ (at_ + (j + 1)) (by omega)
    obtain rfl : ad = ad' := by injection e
    rw [h1]
    have e2 : zs[j]'(by omega) = l[at_ + (j + 1)]'(by omega) := by
      simp only [hzs, htt, List.getElem_take, List.getElem_drop]
      simp only [Nat.add_assoc, Nat.add_comm 1 j]
    rw [e2]
  have hfin : refRd l at_ = if zs.getLast? = some 0 ∨ 9223372036854775808 ≤ leV zs then (0, -1) else (if 16 ≤ h.toNat then -1 - (leV zs : Int) else (leV zs : Int), (at_ : Int) + 1 + s) := by
    unfold refRd
    rw [hdrop]
    by_cases h0 : zs.getLast? = some 0 ∨ 9223372036854775808 ≤ leV zs
    · rw [if_pos h0]
      rw [rdI_none h t s hs (by rw [← hzs]; rcases h0 with h0 | h0; exact .inr (.inr (.inr (.inr h0))); exact .inr (.inr (.inr (.inl h0))))]
    · rw [if_neg h0]
      rw [rdI_cons h t s hs (by omega) (by omega) (by omega) (by rw [← hzs]; omega) (by rw [← hzs]; intro e; exact h0 (.inl e))]
      rw [← hzs]
      dsimp only
      rw [List.length_drop]
      congr 1
      omega
  have hrun : ∀ W, RdB W (some ad) l → RdB W (some (ad.add at_)) (h :: zs) := by
    intro W hW
    have h2 := (RdB.drop hW at_)
    have h3 := RdB.pre h2 (s + 1)
    rw [hdrop] at h3
    simpa [hzs] using h3
  have hback := encI_back h zs (by omega) (by omega) hz8
  have Hfin := Lib.hid hfin; clear hfin
  have Hback := Lib.hid hback; clear hback
  have Hrun := Lib.hid hrun; clear hrun
  have Hzc := Lib.hid hzc; clear hzc
  clear hdrop htt htl hzs hs
  go_wp2
  subst hzl
  go_loop [7, 8] (fun n i => ∃ j : Nat, j ≤ zs.length ∧ i = .int .i64 j ∧ n = .int .i64 (bk zs (zs.length - j) : Nat) ∧ bk zs (zs.length - j) < 9223372036854775808) (fun _ i => (intOf i).toNat)
  case atStart => exact ⟨_, Nat.le_refl _, rfl, by rw [Nat.sub_self]; rfl, by rw [Nat.sub_self, bk_zero]; omega⟩
  case round =>
    obtain ⟨j, hj, rfl, rfl, hb⟩ := hrel
    obtain ⟨N, hN⟩ : ∃ N, N = bk zs (zs.length - j) := ⟨_, rfl⟩
    rw [← hN] at hb ⊢
    rcases j with _ | j
    · rw [Nat.sub_zero, bk_all] at hN
      rw [← hN] at Hfin
      rw [← hN] at Hback
      by_cases hneg : 16 ≤ h.toNat
      · by_cases h0 : zs.getLast? = some 0
        · have hx : refRd l at_ = (0, -1) := by rw [Hfin.out, if_pos (.inl h0)]
          have he : ¬ encI (-1 - (N : Int)) = h :: zs := by have := Hback.out; rw [if_pos hneg] at this; exact fun e => this.1 e h0
          have hq : ((S (encI (-1 - (N : Int)))).toList == (S (h :: zs)).toList) = false := by rw [S_beq]; exact decide_eq_false he
          have hq2 : (!(S (encI (-1 - (N : Int)))).toList == (S (h :: zs)).toList) = true := by rw [S_bne, decide_eq_false he]; rfl
          have Hx := Lib.hid hx; clear hx
          clear he hN h0
          go_wp2_with fail
          have hA : IntKind.i64.wrap ((at_ : Int) + 1) = (at_ : Int) + 1 := IntWalk.i64_in _ (by omega)
          have hB : IntKind.i64.wrap ((at_ : Int) + 1 + (zs.length : Int)) = (at_ : Int) + 1 + zs.length := IntWalk.i64_in _ (by omega)
          have hsl := fun W => run_cutB (some ad) l.length c at_ (at_ + 1 + zs.length) ((at_ : Int) + 1 + zs.length) (by omega) (by omega) (by omega) W
          rw [if_neg (show ¬ c = at_ by omega), show at_ + 1 + zs.length - at_ = zs.length + 1 by omega] at hsl
          simp only [Option.map_some] at hsl
          have hcv := fun W hW => run_str_of (w := W) (A := some (ad.add at_)) (n := zs.length + 1) (c - at_) (l := h :: zs) (by simp) (Hrun.out W hW)
          have Hcv := Lib.hid hcv; clear hcv
          have hcv0 := Hcv.out w.drew (hr.touch0 ((Touch.refl _ _).drew))
          go_region_with ((go_at_call 44; refine (refInt_any (-1 - (N : Int)) (by omega) (by omega) _).mono ?_; rintro e w1 ⟨A1, c1, rfl, hown1, ht1, hf1⟩; have hcv1 := run_str_of c1 rfl hown1.rd; have hcv2 := Hcv.out w1 (hr.touch0 ht1.ofDrew)))
          all_goals (go_wp2; go_ret2; rw [Hx.out]; exact ⟨rfl, ht1.ofDrew⟩)
        · have hx : refRd l at_ = ((-1 - (N : Int)), (at_ : Int) + 1 + zs.length) := by rw [Hfin.out, if_neg (fun e => e.elim h0 (by omega)), if_pos hneg]
          have he : encI (-1 - (N : Int)) = h :: zs := by have := Hback.out; rw [if_pos hneg] at this; exact this.2 h0
          have hq : ((S (encI (-1 - (N : Int)))).toList == (S (h :: zs)).toList) = true := by rw [S_beq]; exact decide_eq_true he
          have hq2 : (!(S (encI (-1 - (N : Int)))).toList == (S (h :: zs)).toList) = false := by rw [S_bne, decide_eq_true he]; rfl
          have Hx := Lib.hid hx; clear hx
          clear he hN h0
          go_wp2_with fail
          have hA : IntKind.i64.wrap ((at_ : Int) + 1) = (at_ : Int) + 1 := IntWalk.i64_in _ (by omega)
          have hB : IntKind.i64.wrap ((at_ : Int) + 1 + (zs.length : Int)) = (at_ : Int) + 1 + zs.length := IntWalk.i64_in _ (by omega)
          have hsl := fun W => run_cutB (some ad) l.length c at_ (at_ + 1 + zs.length) ((at_ : Int) + 1 + zs.length) (by omega) (by omega) (by omega) W
          rw [if_neg (show ¬ c = at_ by omega), show at_ + 1 + zs.length - at_ = zs.length + 1 by omega] at hsl
          simp only [Option.map_some] at hsl
          have hcv := fun W hW => run_str_of (w := W) (A := some (ad.add at_)) (n := zs.length + 1) (c - at_) (l := h :: zs) (by simp) (Hrun.out W hW)
          have Hcv := Lib.hid hcv; clear hcv
          have hcv0 := Hcv.out w.drew (hr.touch0 ((Touch.refl _ _).drew))
          go_region_with ((go_at_call 44; refine (refInt_any (-1 - (N : Int)) (by omega) (by omega) _).mono ?_; rintro e w1 ⟨A1, c1, rfl, hown1, ht1, hf1⟩; have hcv1 := run_str_of c1 rfl hown1.rd; have hcv2 := Hcv.out w1 (hr.touch0 ht1.ofDrew)))
          all_goals (go_wp2; go_ret2; rw [Hx.out]; exact ⟨rfl, ht1.ofDrew⟩)
      · by_cases h0 : zs.getLast? = some 0
        · have hx : refRd l at_ = (0, -1) := by rw [Hfin.out, if_pos (.inl h0)]
          have he : ¬ encI (N : Int) = h :: zs := by have := Hback.out; rw [if_neg hneg] at this; exact fun e => this.1 e h0
          have hq : ((S (encI (N : Int))).toList == (S (h :: zs)).toList) = false := by rw [S_beq]; exact decide_eq_false he
          have hq2 : (!(S (encI (N : Int))).toList == (S (h :: zs)).toList) = true := by rw [S_bne, decide_eq_false he]; rfl
          have Hx := Lib.hid hx; clear hx
          clear he hN h0
          go_wp2_with fail
          have hA : IntKind.i64.wrap ((at_ : Int) + 1) = (at_ : Int) + 1 := IntWalk.i64_in _ (by omega)
          have hB : IntKind.i64.wrap ((at_ : Int) + 1 + (zs.length : Int)) = (at_ : Int) + 1 + zs.length := IntWalk.i64_in _ (by omega)
          have hsl := fun W => run_cutB (some ad) l.length c at_ (at_ + 1 + zs.length) ((at_ : Int) + 1 + zs.length) (by omega) (by omega) (by omega) W
          rw [if_neg (show ¬ c = at_ by omega), show at_ + 1 + zs.length - at_ = zs.length + 1 by omega] at hsl
          simp only [Option.map_some] at hsl
          have hcv := fun W hW => run_str_of (w := W) (A := some (ad.add at_)) (n := zs.length + 1) (c - at_) (l := h :: zs) (by simp) (Hrun.out W hW)
          have Hcv := Lib.hid hcv; clear hcv
          have hcv0 := Hcv.out w.drew (hr.touch0 ((Touch.refl _ _).drew))
          go_region_with ((go_at_call 44; refine (refInt_any (N : Int) (by omega) (by omega) _).mono ?_; rintro e w1 ⟨A1, c1, rfl, hown1, ht1, hf1⟩; have hcv1 := run_str_of c1 rfl hown1.rd; have hcv2 := Hcv.out w1 (hr.touch0 ht1.ofDrew)))
          all_goals (go_wp2; go_ret2; rw [Hx.out]; exact ⟨rfl, ht1.ofDrew⟩)
        · have hx : refRd l at_ = ((N : Int), (at_ : Int) + 1 + zs.length) := by rw [Hfin.out, if_neg (fun e => e.elim h0 (by omega)), if_neg hneg]
          have he : encI (N : Int) = h :: zs := by have := Hback.out; rw [if_neg hneg] at this; exact this.2 h0
          have hq : ((S (encI (N : Int))).toList == (S (h :: zs)).toList) = true := by rw [S_beq]; exact decide_eq_true he
          have hq2 : (!(S (encI (N : Int))).toList == (S (h :: zs)).toList) = false := by rw [S_bne, decide_eq_true he]; rfl
          have Hx := Lib.hid hx; clear hx
          clear he hN h0
          go_wp2_with fail
          have hA : IntKind.i64.wrap ((at_ : Int) + 1) = (at_ : Int) + 1 := IntWalk.i64_in _ (by omega)
          have hB : IntKind.i64.wrap ((at_ : Int) + 1 + (zs.length : Int)) = (at_ : Int) + 1 + zs.length := IntWalk.i64_in _ (by omega)
          have hsl := fun W => run_cutB (some ad) l.length c at_ (at_ + 1 + zs.length) ((at_ : Int) + 1 + zs.length) (by omega) (by omega) (by omega) W
          rw [if_neg (show ¬ c = at_ by omega), show at_ + 1 + zs.length - at_ = zs.length + 1 by omega] at hsl
          simp only [Option.map_some] at hsl
          have hcv := fun W hW => run_str_of (w := W) (A := some (ad.add at_)) (n := zs.length + 1) (c - at_) (l := h :: zs) (by simp) (Hrun.out W hW)
          have Hcv := Lib.hid hcv; clear hcv
          have hcv0 := Hcv.out w.drew (hr.touch0 ((Touch.refl _ _).drew))
          go_region_with ((go_at_call 44; refine (refInt_any (N : Int) (by omega) (by omega) _).mono ?_; rintro e w1 ⟨A1, c1, rfl, hown1, ht1, hf1⟩; have hcv1 := run_str_of c1 rfl hown1.rd; have hcv2 := Hcv.out w1 (hr.touch0 ht1.ofDrew)))
          all_goals (go_wp2; go_ret2; rw [Hx.out]; exact ⟨rfl, ht1.ofDrew⟩)
    · have hx2 := Hzc.out j (by omega)
      obtain ⟨x, hx⟩ : ∃ x, x = zs[j]'(by omega) := ⟨_, rfl⟩
      rw [← hx] at hx2
      have hxl := x.toNat_lt
      by_cases hbig : 36028797018963968 ≤ N
      · have hx : refRd l at_ = (0, -1) := by rw [Hfin.out, if_pos (.inr (bk_big zs (zs.length - (j + 1)) (by omega) (by omega)))]
        have Hx := Lib.hid hx; clear hx
        have hbI : decide ((36028797018963968 : Int) ≤ (N : Int)) = true := by simp; omega
        clear hN hbig
        go_wp2
        go_ret2
        rw [Hx.out]
        exact ⟨rfl, Touch.refl _ _⟩
      · have hsucc : bk zs (zs.length - j) = N * 256 + x.toNat := by
          have := bk_succ zs (zs.length - (j + 1)) (by omega)
          rw [show zs.length - (j + 1) + 1 = zs.length - j by omega, ← hN] at this
          rw [this, hx]
          congr 3
          omega
        have Hs := Lib.hid hsucc; clear hsucc
        have hbI : decide ((36028797018963968 : Int) ≤ (N : Int)) = false := by simp; omega
        have hb2 : N < 36028797018963968 := by omega
        clear hN hx hbig
        go_wp2
        go_round
        case rel => exact ⟨j, by omega, by go_num, by rw [Hs.out]; go_num, by rw [Hs.out]; omega⟩
        case measure => simp [intOf]
end Go.Proofs.YtlcpljpeljoboaaDoor

/- frame.Sum: the walk: the sum, four bits by four. For every slice of bytes; the table as the program's text lays it. -/
namespace Go.Proofs.YtlcpljpeljoboaaDoor
open Go.RowKit

def half : List Nat := [0, 498536548, 997073096, 651767980, 1994146192, 1802195444, 1303535960, 1342533948, 3988292384, 4027552580, 3604390888, 3412177804, 2607071920, 2262029012, 2685067896, 3183342108]
def nib (c : Nat) : Nat := (c / 16) ^^^ (half.getD (c % 16) 0)
def nibs (c : Nat) : Nat → Nat
  | 0 => c
  | j + 1 => nib (nibs c j)
def stepB (c : Nat) (x : UInt8) : Nat := nibs (c ^^^ x.toNat) 2
def crc (bs : List UInt8) : Nat := bs.foldl stepB 4294967295
theorem half_lt (j : Nat) : half.getD j 0 < 4294967296 := by
  by_cases h : j < 16
  · have : ∀ j : Fin 16, half.getD j.val 0 < 4294967296 := by decide
    exact this ⟨j, h⟩
  · simp [List.getD, List.getElem?_eq_none (show half.length ≤ j by simp [half]; omega)]
theorem nib_lt (c : Nat) (h : c < 4294967296) : nib c < 4294967296 :=
  Nat.xor_lt_two_pow (n := 32) (by omega) (half_lt _)
theorem nibs_lt (c j : Nat) (h : c < 4294967296) : nibs c j < 4294967296 := by
  induction j with
  | zero => exact h
  | succ j ih => exact nib_lt _ ih
theorem xor8_lt (c : Nat) (x : UInt8) (h : c < 4294967296) : c ^^^ x.toNat < 4294967296 :=
  Nat.xor_lt_two_pow (n := 32) h (by have := x.toNat_lt; omega)
theorem crc_lt (bs : List UInt8) : crc bs < 4294967296 := by
  unfold crc
  suffices ∀ (bs : List UInt8) c, c < 4294967296 → bs.foldl stepB c < 4294967296 from this bs _ (by decide)
  intro bs
  induction bs with
  | nil => exact fun _ h => h
  | cons x bs ih => exact fun c h => ih _ (nibs_lt _ _ (xor8_lt c x h))

theorem crc_snoc (bs : List UInt8) (k : Nat) (h : k < bs.length) : crc (bs.take (k + 1)) = stepB (crc (bs.take k)) bs[k] := by
  unfold crc
  rw [List.take_succ_eq_append_getElem h, List.foldl_append]; rfl

def sumOf (bs : List UInt8) : Nat := 4294967295 ^^^ crc bs
theorem sumOf_lt (bs : List UInt8) : sumOf bs < 4294967296 := Nat.xor_lt_two_pow (n := 32) (by decide) (crc_lt bs)
/-- the table lies where the program's text lays it -/
def HalfAt (w : World) : Prop := ∀ j, j < 16 → w.cell? ⟨0, j, none⟩ = some (.int .u32 (half.getD j 0 : Nat))
theorem HalfAt.touch {fp : List Nat} {w w' : World} (h : HalfAt w) (ht : Touch fp w w') (h0 : 0 ∉ fp) : HalfAt w' := fun j hj => ht.cell (h j hj) h0

set_option maxHeartbeats 400000 in
theorem sum_any (A : Option Addr) (c : Nat) (bs : List UInt8) (w : World) (hm : bs.length ≤ maxLen)
    (hc : RdB w A bs) (hh0 : HalfAt w) :
    Calls Tryd.prog 69 #[.slice A bs.length c] w fun e w' => e = .returned (.int .u32 (sumOf bs : Nat)) ∧ w = w' := by
  unfold maxLen at hm
  go_enter Tryd.func69, Tryd.ntmps69
  go_wp2
  go_loop [3, 8] (fun cc i => ∃ k : Nat, k ≤ bs.length ∧ i = .int .i64 k ∧ cc = .int .u32 (crc (bs.take k) : Nat)) (fun _ i => bs.length - (intOf i).toNat)
  case atStart => exact ⟨0, by omega, rfl, rfl⟩
  case round =>
    obtain ⟨k, hk, rfl, rfl⟩ := hrel
    by_cases hlt : k < bs.length
    · obtain ⟨ad, rfl, hcell⟩ := hc.at_ k hlt
      obtain ⟨x, hx⟩ : ∃ x, x = bs[k] := ⟨_, rfl⟩
      rw [← hx] at hcell
      have hx' := Lib.hid hx; clear hx
      have hxl := x.toNat_lt
      obtain ⟨m, hmm⟩ : ∃ m, m = crc (bs.take k) := ⟨_, rfl⟩
      have hml : m < 4294967296 := hmm ▸ crc_lt _
      rw [← hmm]
      have hmm' := Lib.hid hmm; clear hmm
      have e1 : bits BinOp.xor IntKind.u32 (m : Int) (x.toNat : Int) = ((m ^^^ x.toNat : Nat) : Int) := u32_xor_nat _ _ hml (by omega)
      go_wp2
      go_loop [3, 16] (fun cc i => ∃ j : Nat, j ≤ 2 ∧ i = .int .i64 j ∧ cc = .int .u32 (nibs (m ^^^ x.toNat) j : Nat)) (fun _ i => 2 - (intOf i).toNat)
      case atStart => exact ⟨0, by omega, rfl, rfl⟩
      case round =>
        obtain ⟨j, hj, rfl, rfl⟩ := hrel
        by_cases hlt2 : j < 2
        · obtain ⟨q, hq⟩ : ∃ q, q = nibs (m ^^^ x.toNat) j := ⟨_, rfl⟩
          have hql : q < 4294967296 := hq ▸ nibs_lt _ _ (xor8_lt _ _ hml)
          have e2 : bits BinOp.and IntKind.u32 (q : Int) 15 = ((q % 16 : Nat) : Int) := (u32_and_nat q 15 hql (by omega)).trans (by rw [nat_mask4])
          have e3 := hh0 (q % 16) (by omega)
          have hv := half_lt (q % 16)
          rw [← hq]
          have hq' := Lib.hid hq; clear hq
          clear hc
          go_wp2
          go_round
          case rel => exact ⟨j + 1, by omega, by go_num, by
            rw [show nibs (m ^^^ x.toNat) (j + 1) = nib q from by rw [hq'.out]; rfl]
            exact congrArg (Value.int .u32) (u32_xor_nat (q / 16) _ (by omega) hv)⟩
          case measure => simp [intOf]; omega
        · obtain rfl : j = 2 := by omega
          go_wp2
          go_round
          case rel => exact ⟨k + 1, by omega, by go_num, by
            rw [crc_snoc bs k hlt, ← hmm'.out, ← hx'.out]; rfl⟩
          case measure => simp [intOf]; omega
    · obtain rfl : k = bs.length := by omega
      go_wp2
      go_ret
      exact ⟨ret_int (u32_xor_nat 4294967295 _ (by omega) (crc_lt _)), rfl⟩
end Go.Proofs.YtlcpljpeljoboaaDoor

/- bywashref07.Sum: the walk: the sum, bit by bit. For every slice of bytes. -/
namespace Go.Proofs.YtlcpljpeljoboaaDoor
open Go.RowKit

def bit1 (c : Nat) : Nat := if c % 2 = 1 then (c / 2) ^^^ 3988292384 else c / 2
def bits1 (c : Nat) : Nat → Nat
  | 0 => c
  | j + 1 => bit1 (bits1 c j)
def rstepB (c : Nat) (x : UInt8) : Nat := bits1 (c ^^^ x.toNat) 8
def rcrc (bs : List UInt8) : Nat := bs.foldl rstepB 4294967295
theorem bit1_lt (c : Nat) (h : c < 4294967296) : bit1 c < 4294967296 := by
  unfold bit1
  split
  · exact Nat.xor_lt_two_pow (n := 32) (by omega) (by decide)
  · omega
theorem bits1_lt (c j : Nat) (h : c < 4294967296) : bits1 c j < 4294967296 := by
  induction j with
  | zero => exact h
  | succ j ih => exact bit1_lt _ ih
theorem rxor8_lt (c : Nat) (x : UInt8) (h : c < 4294967296) : c ^^^ x.toNat < 4294967296 :=
  Nat.xor_lt_two_pow (n := 32) h (by have := x.toNat_lt; omega)
theorem rcrc_lt (bs : List UInt8) : rcrc bs < 4294967296 := by
  unfold rcrc
  suffices ∀ (bs : List UInt8) c, c < 4294967296 → bs.foldl rstepB c < 4294967296 from this bs _ (by decide)
  intro bs
  induction bs with
  | nil => exact fun _ h => h
  | cons x bs ih => exact fun c h => ih _ (bits1_lt _ _ (rxor8_lt c x h))
theorem rcrc_snoc (bs : List UInt8) (k : Nat) (h : k < bs.length) : rcrc (bs.take (k + 1)) = rstepB (rcrc (bs.take k)) bs[k] := by
  unfold rcrc
  rw [List.take_succ_eq_append_getElem h, List.foldl_append]; rfl
def rsumOf (bs : List UInt8) : Nat := 4294967295 - rcrc bs

set_option maxHeartbeats 800000 in
theorem refSum_any (A : Option Addr) (c : Nat) (bs : List UInt8) (w : World) (hm : bs.length ≤ maxLen)
    (hc : RdB w A bs) :
    Calls Tryd.prog 54 #[.slice A bs.length c] w fun e w' => e = .returned (.int .u32 (rsumOf bs : Nat)) ∧ w = w' := by
  unfold maxLen at hm
  go_enter Tryd.func54, Tryd.ntmps54
  go_wp2
  go_loop [3, 4] (fun cc i => ∃ k : Nat, k ≤ bs.length ∧ i = .int .i64 k ∧ cc = .int .u32 (rcrc (bs.take k) : Nat)) (fun _ i => bs.length - (intOf i).toNat)
  case atStart => exact ⟨0, by omega, rfl, rfl⟩
  case round =>
    obtain ⟨k, hk, rfl, rfl⟩ := hrel
    by_cases hlt : k < bs.length
    · obtain ⟨ad, rfl, hcell⟩ := hc.at_ k hlt
      obtain ⟨x, hx⟩ : ∃ x, x = bs[k] := ⟨_, rfl⟩
      rw [← hx] at hcell
      have hx' := Lib.hid hx; clear hx
      have hxl := x.toNat_lt
      obtain ⟨m, hmm⟩ : ∃ m, m = rcrc (bs.take k) := ⟨_, rfl⟩
      have hml : m < 4294967296 := hmm ▸ rcrc_lt _
      rw [← hmm]
      have hmm' := Lib.hid hmm; clear hmm
      have e1 : bits BinOp.xor IntKind.u32 (m : Int) (x.toNat : Int) = ((m ^^^ x.toNat : Nat) : Int) := u32_xor_nat _ _ hml (by omega)
      go_wp2
      go_loop [3, 5] (fun cc i => ∃ j : Nat, j ≤ 8 ∧ i = .int .i64 j ∧ cc = .int .u32 (bits1 (m ^^^ x.toNat) j : Nat)) (fun _ i => 8 - (intOf i).toNat)
      case atStart => exact ⟨0, by omega, rfl, rfl⟩
      case round =>
        obtain ⟨j, hj, rfl, rfl⟩ := hrel
        by_cases hlt2 : j < 8
        · obtain ⟨q, hq⟩ : ∃ q, q = bits1 (m ^^^ x.toNat) j := ⟨_, rfl⟩
          have hql : q < 4294967296 := hq ▸ bits1_lt _ _ (rxor8_lt _ _ hml)
          rw [← hq]
          have hq' := Lib.hid hq; clear hq
          have hs : bits1 (m ^^^ x.toNat) (j + 1) = bit1 q := by rw [hq'.out]; rfl
          have hs' := Lib.hid hs; clear hs
          clear hc
          by_cases hodd : q % 2 = 1
          · have hb := Lib.hid (show bit1 q = (q / 2) ^^^ 3988292384 from if_pos hodd)
            have hd : (((q : Int) % 2) == 1) = true := by rw [beq_iff_eq]; omega
            clear hodd
            go_wp2
            go_round
            case rel => exact ⟨j + 1, by omega, by go_num, by
              rw [hs'.out, hb.out]
              exact congrArg (Value.int .u32) (u32_xor_nat (q / 2) 3988292384 (by omega) (by decide))⟩
            case measure => simp [intOf]; omega
          · have hb := Lib.hid (show bit1 q = q / 2 from if_neg hodd)
            have hd : (((q : Int) % 2) == 1) = false := by rw [beq_eq_false_iff_ne]; omega
            clear hodd
            go_wp2
            go_round
            case rel => exact ⟨j + 1, by omega, by go_num, by rw [hs'.out, hb.out]; go_num⟩
            case measure => simp [intOf]; omega
        · obtain rfl : j = 8 := by omega
          go_wp2
          go_round
          case rel => exact ⟨k + 1, by omega, by go_num, by
            rw [rcrc_snoc bs k hlt, ← hmm'.out, ← hx'.out]; rfl⟩
          case measure => simp [intOf]; omega
    · obtain rfl : k = bs.length := by omega
      have hrl := rcrc_lt bs
      rw [List.take_length]
      go_wp2
      go_ret
      exact ⟨ret_int (by unfold rsumOf; omega), rfl⟩
end Go.Proofs.YtlcpljpeljoboaaDoor

/- The plain law of the sums: four bits by four and bit by bit give one sum; gone on with its own bytes every sum is one and the same. -/
namespace Go.Proofs.YtlcpljpeljoboaaDoor

theorem bit1_eq (c : Nat) : bit1 c = (c / 2) ^^^ (if c % 2 = 1 then 3988292384 else 0) := by
  unfold bit1; split <;> simp
theorem xor_mod2 (a b : Nat) : (a ^^^ b) % 2 = (a % 2 + b % 2) % 2 := by
  have h := Nat.testBit_xor a b 0
  simp only [Nat.testBit_zero] at h
  rcases Nat.mod_two_eq_zero_or_one a with ha | ha <;> rcases Nat.mod_two_eq_zero_or_one b with hb | hb <;> rcases Nat.mod_two_eq_zero_or_one (a ^^^ b) with hc | hc <;> simp [ha, hb, hc] at h ⊢
theorem xor_div_pow (a b n : Nat) : (a ^^^ b) / 2 ^ n = (a / 2 ^ n) ^^^ (b / 2 ^ n) := by
  rw [← Nat.shiftRight_eq_div_pow, ← Nat.shiftRight_eq_div_pow, ← Nat.shiftRight_eq_div_pow, Nat.shiftRight_xor_distrib]
theorem bit1_xor (a b : Nat) : bit1 (a ^^^ b) = bit1 a ^^^ bit1 b := by
  have hd : (a ^^^ b) / 2 = (a / 2) ^^^ (b / 2) := xor_div_pow a b 1
  rw [bit1_eq, bit1_eq a, bit1_eq b, hd, xor_mod2]
  rcases Nat.mod_two_eq_zero_or_one a with ha | ha <;> rcases Nat.mod_two_eq_zero_or_one b with hb | hb <;> simp only [ha, hb]
  · simp
  · simp [Nat.xor_assoc]
  · simp [Nat.xor_assoc]; rw [Nat.xor_comm]
    simp [Nat.xor_comm]
  · simp [Nat.xor_assoc]
    rw [← Nat.xor_assoc 3988292384, Nat.xor_comm 3988292384, Nat.xor_assoc]; simp
theorem bits1_xor (a b j : Nat) : bits1 (a ^^^ b) j = bits1 a j ^^^ bits1 b j := by
  induction j with
  | zero => rfl
  | succ j ih => simp only [bits1, ih, bit1_xor]
theorem bits1_mul (q j : Nat) : bits1 (q * 2 ^ j) j = q := by
  have key : ∀ i j q, i ≤ j → bits1 (q * 2 ^ j) i = q * 2 ^ (j - i) := by
    intro i
    induction i with
    | zero => intro j q _; simp [bits1]
    | succ i ih =>
      intro j q h
      rw [bits1, ih j q (by omega), show j - i = (j - (i + 1)) + 1 by omega, Nat.pow_succ, ← Nat.mul_assoc]
      unfold bit1
      rw [if_neg (by omega)]
      omega
  simpa using key j j q (Nat.le_refl _)
theorem split_xor (c n : Nat) : c = (c / 2 ^ n * 2 ^ n) ^^^ (c % 2 ^ n) := by
  apply Nat.eq_of_testBit_eq
  intro i
  rw [Nat.testBit_xor, Nat.testBit_mod_two_pow, Nat.testBit_mul_two_pow, Nat.testBit_div_two_pow]
  by_cases h : i < n
  · simp [h, Nat.not_le.2 h]
  · have h' : n ≤ i := by omega
    simp [h, h', Nat.sub_add_cancel h']
theorem bits1_split (c j : Nat) : bits1 c j = (c / 2 ^ j) ^^^ bits1 (c % 2 ^ j) j := by
  conv => lhs; rw [split_xor c j]
  rw [bits1_xor, bits1_mul]
theorem nib_bits (c : Nat) : nib c = bits1 c 4 := by
  rw [bits1_split]
  unfold nib
  have h : ∀ x : Fin 16, half.getD x.val 0 = bits1 x.val 4 := by decide +kernel
  have := h ⟨c % 16, by omega⟩
  simp only at this
  rw [this]
theorem bits1_add (c i j : Nat) : bits1 (bits1 c i) j = bits1 c (i + j) := by
  induction j with
  | zero => rfl
  | succ j ih => rw [bits1, ih, ← Nat.add_assoc, bits1]
theorem stepB_eq (c : Nat) (x : UInt8) : stepB c x = rstepB c x := by
  unfold stepB rstepB
  simp only [nibs, nib_bits]
  rw [bits1_add]
theorem crc_eq (bs : List UInt8) : crc bs = rcrc bs := by
  unfold crc rcrc
  have : stepB = rstepB := by funext c x; exact stepB_eq c x
  rw [this]
theorem not_sub (c : Nat) (h : c < 4294967296) : 4294967295 ^^^ c = 4294967295 - c := by
  have e := congrArg BitVec.toNat (BitVec.xor_allOnes (x := BitVec.ofNat 32 c))
  rw [BitVec.toNat_xor, BitVec.toNat_not, BitVec.toNat_allOnes, BitVec.toNat_ofNat, Nat.mod_eq_of_lt (by simpa using h), Nat.xor_comm] at e
  simpa using e
theorem sum_eq (bs : List UInt8) : sumOf bs = rsumOf bs := by
  unfold sumOf rsumOf
  rw [← crc_eq, not_sub _ (crc_lt bs)]

/-- one step with the lowest byte of what is left of the state, turned round -/
theorem own_step (a k : Nat) : bits1 ((a ^^^ k) ^^^ (255 ^^^ (a % 256))) 8 = (a / 256) ^^^ bits1 (k ^^^ 255) 8 := by
  have h : (a ^^^ k) ^^^ (255 ^^^ (a % 256)) = (a / 2 ^ 8 * 2 ^ 8) ^^^ (k ^^^ 255) := by
    have hs := split_xor a 8
    have h2 : a ^^^ (a % 2 ^ 8) = a / 2 ^ 8 * 2 ^ 8 := by
      conv => lhs; lhs; rw [hs]
      rw [Nat.xor_assoc, Nat.xor_self, Nat.xor_zero]
    rw [← h2]
    show (a ^^^ k) ^^^ (255 ^^^ (a % 2 ^ 8)) = (a ^^^ (a % 2 ^ 8)) ^^^ (k ^^^ 255)
    generalize a % 2 ^ 8 = m
    rw [Nat.xor_assoc, Nat.xor_assoc, Nat.xor_comm 255 m, ← Nat.xor_assoc k, Nat.xor_comm k m, Nat.xor_assoc]
  rw [h, bits1_xor, bits1_mul]
theorem xor_mod256 (a b : Nat) : (a ^^^ b) % 256 = (a % 256) ^^^ (b % 256) := by
  show (a ^^^ b) % 2 ^ 8 = (a % 2 ^ 8) ^^^ (b % 2 ^ 8)
  apply Nat.eq_of_testBit_eq
  intro i
  simp only [Nat.testBit_mod_two_pow, Nat.testBit_xor]
  by_cases h : i < 8 <;> simp [h]
theorem own_byte (c n : Nat) (hn : n < 4) : (UInt8.ofNat ((4294967295 ^^^ c) / 2 ^ (8 * n))).toNat = 255 ^^^ (c / 2 ^ (8 * n)) % 256 := by
  rw [UInt8.toNat_ofNat', show (2 : Nat) ^ 8 = 256 from rfl, xor_div_pow, xor_mod256]
  congr 1
  match n, hn with
  | 0, _ => rfl
  | 1, _ => rfl
  | 2, _ => rfl
  | 3, _ => rfl
theorem own_sum (bs : List UInt8) : sumOf (bs ++ digs (sumOf bs) 4) = 558161692 := by
  have hc := crc_lt bs
  have e0 := own_byte (crc bs) 0 (by omega)
  have e1 := own_byte (crc bs) 1 (by omega)
  have e2 := own_byte (crc bs) 2 (by omega)
  have e3 := own_byte (crc bs) 3 (by omega)
  have s0 := own_step (crc bs) 0
  have s1 := own_step (crc bs / 256) (bits1 (0 ^^^ 255) 8)
  have s2 := own_step (crc bs / 256 / 256) (bits1 (bits1 (0 ^^^ 255) 8 ^^^ 255) 8)
  have s3 := own_step (crc bs / 256 / 256 / 256) (bits1 (bits1 (bits1 (0 ^^^ 255) 8 ^^^ 255) 8 ^^^ 255) 8)
  have z : crc bs / 256 / 256 / 256 / 256 = 0 := by omega
  have d1 : crc bs / 2 ^ (8 * 1) = crc bs / 256 := rfl
  have d2 : crc bs / 2 ^ (8 * 2) = crc bs / 256 / 256 := by rw [Nat.div_div_eq_div_mul]
  have d3 : crc bs / 2 ^ (8 * 3) = crc bs / 256 / 256 / 256 := by rw [Nat.div_div_eq_div_mul, Nat.div_div_eq_div_mul]
  have f0 : crc bs / 2 ^ (8 * 0) = crc bs := Nat.div_one _
  have g0 : (4294967295 ^^^ crc bs) / 2 ^ (8 * 0) = sumOf bs := Nat.div_one _
  have g1 : (4294967295 ^^^ crc bs) / 2 ^ (8 * 1) = sumOf bs / 256 := rfl
  have g2 : (4294967295 ^^^ crc bs) / 2 ^ (8 * 2) = sumOf bs / 256 / 256 := by rw [Nat.div_div_eq_div_mul]; rfl
  have g3 : (4294967295 ^^^ crc bs) / 2 ^ (8 * 3) = sumOf bs / 256 / 256 / 256 := by rw [Nat.div_div_eq_div_mul, Nat.div_div_eq_div_mul]; rfl
  rw [f0, g0] at e0
  rw [d1, g1] at e1
  rw [d2, g2] at e2
  rw [d3, g3] at e3
  have key : crc (bs ++ digs (sumOf bs) 4) = bits1 (bits1 (bits1 (bits1 (0 ^^^ 255) 8 ^^^ 255) 8 ^^^ 255) 8 ^^^ 255) 8 := by
    rw [crc_eq]
    unfold rcrc
    rw [List.foldl_append]
    show (digs (sumOf bs) 4).foldl rstepB (rcrc bs) = _
    rw [← crc_eq]
    simp only [digs, List.foldl_cons, List.foldl_nil, rstepB]
    rw [e0, e1, e2, e3]
    rw [Nat.xor_zero] at s0
    rw [s0, s1, s2, s3, z, Nat.zero_xor]
  show 4294967295 ^^^ crc _ = _
  rw [key]
  decide +kernel
end Go.Proofs.YtlcpljpeljoboaaDoor
