/- frame.In.Int: the next number. -/
import Derived.Test.YtgpadejkmpfafaaDoorBack
namespace Go.Proofs.YtgpadejkmpfafaaDoor
open Go.RowKit Go.Shelf

attribute [local go_sem] Oper.semAt_some

theorem cell_new_l (W : World) (v : Value) (t : TypeId) : (W.alloc (.cells #[v] t)).cell? ⟨W.heap.size, 0, none⟩ = some v ∧ (W.alloc (.cells #[v] t)).frozen? ⟨W.heap.size, 0, none⟩ = false :=
  ⟨cell_of_one (heap_alloc_new W _), free_of_one (heap_alloc_new W _)⟩
theorem cell_alloc_l {W : World} {a : Addr} {v : Value} (o : Obj) (h : W.cell? a = some v) : (W.alloc o).cell? a = some v := cell_kept h (World.grownBy_alloc W o none) (fun r e => by cases e)
theorem frozen_alloc_l {W : World} {a : Addr} {v : Value} (o : Obj) (h : W.cell? a = some v) (hf : W.frozen? a = false) : (W.alloc o).frozen? a = false := (frozen_kept h (World.grownBy_alloc W o none) (fun r e => by cases e)).trans hf
theorem or256 (N x : Nat) (hN : N < 72057594037927936) (hx : x < 256) : bits BinOp.or IntKind.u64 ((N : Int) * 256) (x : Int) = ((N * 256 + x : Nat) : Int) := by
  have h := u64_or_nat (N * 256) x (by omega) (by omega)
  have e : ((N * 256 : Nat) : Int) = (N : Int) * 256 := by simp
  rw [e] at h
  rw [h, Nat.mul_comm N 256]
  exact congrArg (Nat.cast) (Nat.two_pow_add_eq_or_of_lt (i := 8) hx N).symm

def leV (bs : List UInt8) : Nat := bs.foldr (fun x n => x.toNat + 256 * n) 0
def backV (ps : List (Nat × UInt8)) : Nat := ps.foldl (fun n x => n * 256 + x.2.toNat) 0
theorem backV_lt (ps : List (Nat × UInt8)) : backV ps < 256 ^ ps.length := by
  suffices ∀ (ps : List (Nat × UInt8)) n, ps.foldl (fun n x => n * 256 + x.2.toNat) n < (n + 1) * 256 ^ ps.length by simpa [backV] using this ps 0
  intro ps
  induction ps with
  | nil => intro n; simp
  | cons x ps ih =>
    intro n
    have hx := x.2.toNat_lt
    refine Nat.lt_of_lt_of_le (ih (n * 256 + x.2.toNat)) ?_
    rw [List.length_cons, Nat.pow_succ, Nat.mul_comm (256 ^ ps.length) 256, ← Nat.mul_assoc]
    exact Nat.mul_le_mul_right _ (by omega)

theorem backV_snoc (ps : List (Nat × UInt8)) (x : Nat × UInt8) : backV (ps ++ [x]) = backV ps * 256 + x.2.toNat := by simp [backV]
theorem backV_upto (zs : List UInt8) (k : Nat) (hk : k ≤ zs.length) : backV (upto (backAt zs) k) = leV (zs.drop (zs.length - k)) := by
  induction k with
  | zero => simp [upto, backV, leV]
  | succ k ih =>
    rw [upto_succ, backV_snoc, ih (by omega)]
    have hlt : zs.length - (k + 1) < zs.length := by omega
    rw [List.drop_eq_getElem_cons hlt, show zs.length - (k + 1) + 1 = zs.length - k by omega]
    have h2 : zs.length - 1 - k = zs.length - (k + 1) := by omega
    simp only [backAt, h2, List.getElem?_eq_getElem hlt, Option.getD_some]
    show _ = zs[zs.length - (k + 1)].toNat + 256 * leV _
    omega
theorem leV_lt (bs : List UInt8) : leV bs < 256 ^ bs.length := by
  induction bs with
  | nil => simp [leV]
  | cons x bs ih =>
    have hx := x.toNat_lt
    show x.toNat + 256 * leV bs < 256 ^ (bs.length + 1)
    rw [Nat.pow_succ]; omega

/-- the next number, and what is left; none: it is none -/
def rdI (l : List UInt8) : Option (Int × List UInt8) :=
  match l with
  | [] => none
  | h :: t =>
    let s := if 16 ≤ h.toNat then h.toNat - 16 else h.toNat
    if 8 < s ∨ t.length < s ∨ (0 < s ∧ t[s - 1]? = some 0) ∨ 9223372036854775808 ≤ leV (t.take s) then none
    else some (if 16 ≤ h.toNat then -1 - (leV (t.take s) : Int) else (leV (t.take s) : Int), t.drop s)

/-- the outcome of In.Int -/
def IntPost (g : Nat) (A : Option Addr) (l : List UInt8) (w : World) (e : Ending) (w' : World) : Prop :=
  match rdI l with
  | some (n, l') => e = .returned (.int .i64 n) ∧ InPost g A l' false w w'
  | none => e = .returned (.int .i64 0) ∧ ∃ l', InPost g A l' true w w'

theorem InPost.trans {g : Nat} {A A1 : Option Addr} {l : List UInt8} {bad : Bool} {w w1 w2 : World} (ht : Touch [g] w w1) (hf : ∀ b ∈ fpo A1, b ∈ fpo A) (h : InPost g A1 l bad w1 w2) : InPost g A l bad w w2 := by
  obtain ⟨A2, hi, ht2, hf2⟩ := h
  exact ⟨A2, hi, ht.trans ht2 (fun b hb => .inl hb), fun b hb => hf b (hf2 b hb)⟩

set_option maxHeartbeats 800000 in
theorem inInt_bad (g : Nat) (A : Option Addr) (l : List UInt8) (w : World) (hi : InAt w g A l true) :
    Calls Tryd.prog 18 #[.pointer (some ⟨g, 0, none⟩)] w fun e w' => e = .returned (.int .i64 0) ∧ InPost g A l true w w' := by
  go_enter Tryd.func18, Tryd.ntmps18
  go_wp2_with fail
  refine (take_no g A l true 1 (by omega) (by omega) w hi (.inl rfl)).mono ?_
  rintro e w1 ⟨rfl, A1, hi1, ht1, hf1⟩
  obtain ⟨c1, hc1, hg1, hgl1, hc01, hc11, hfr1, hfr11⟩ := hi1.mk'
  clear hg1
  go_wp2_with fail
  go_ret
  exact ⟨rfl, A1, hi1, ht1, hf1⟩

/-- take, of whatever number -/
theorem take_both (g : Nat) (A : Option Addr) (l : List UInt8) (s : Nat) (hs : s ≤ 100) (w : World) (hi : InAt w g A l false) :
    Calls Tryd.prog 41 #[.pointer (some ⟨g, 0, none⟩), .int .i64 s] w fun e w' => ∃ zs A0 bad' l', e = .returned (.slice A0 zs.length zs.length) ∧ RdB w' A0 zs ∧ (∀ b ∈ fpo A0, b ∈ fpo A) ∧ InPost g A l' bad' w w' ∧
      ((s ≤ l.length ∧ zs = l.take s ∧ bad' = false ∧ l' = l.drop s) ∨ (l.length < s ∧ zs = [] ∧ bad' = true ∧ l' = l)) := by
  have hne := hi.ne
  by_cases h : s ≤ l.length
  · refine (take_ok g A l s h w hi).mono ?_
    rintro e w1 ⟨⟨A0, rfl, hr0, hf0⟩, hp⟩
    have ht := hp
    obtain ⟨_, _, ht1, _⟩ := ht
    exact ⟨l.take s, A0, false, l.drop s, by rw [List.length_take, Nat.min_eq_left h], hr0.touch ht1 (fun b hb hm => hne ((by simpa using hm : b = g) ▸ hf0 b hb)), hf0, hp, .inl ⟨h, rfl, rfl, rfl⟩⟩
  · refine (take_no g A l false s (by omega) (by omega) w hi (.inr (.inr (by omega)))).mono ?_
    rintro e w1 ⟨rfl, hp⟩
    exact ⟨[], none, true, l, rfl, Rd.nil _ _, by simp [fpo], hp, .inr ⟨by omega, rfl, rfl, rfl⟩⟩

theorem InPost.put {g : Nat} {A : Option Addr} {l : List UInt8} {bad : Bool} {w W : World} (h : InPost g A l bad w W) {D : Nat} (hD : w.heap.size ≤ D) {d : Option (List Deferred)} {o : Obj} (hK : W.heap[D]? = some (.deferred d)) : InPost g A l bad w (W.putObj D o) := by
  obtain ⟨A2, ⟨⟨c, hc, hb⟩, hr, hn, hs⟩, ht, hf⟩ := h
  have hoth : ∀ k, k ≠ D → (W.putObj D o).heap[k]? = W.heap[k]? := fun k hk => by simp [World.putObj, Ne.symm hk]
  have hgD : g ≠ D := fun e => by subst e; rw [hK] at hb; cases hb
  refine ⟨A2, ⟨⟨c, hc, (hoth g hgD).trans hb⟩, fun h0 => ?_, hn, hs⟩, ⟨ht.os, ht.tape, ht.output, by have := ht.size; simpa [World.putObj] using this, fun k hk hm => (hoth k (by omega)).trans (ht.block k hk hm)⟩, hf⟩
  obtain ⟨ad, e, hcell⟩ := hr h0
  refine ⟨ad, e, fun j u hu => ?_⟩
  have h1 := hcell j u hu
  exact cell_kept h1 (grownBy_putObj' W D o) (fun r e => by cases e; exact ⟨_, hK, rfl⟩)

set_option maxRecDepth 20000 in
set_option maxHeartbeats 800000 in
theorem inInt_ok (g : Nat) (A : Option Addr) (l : List UInt8) (w : World) (hi : InAt w g A l false) :
    Calls Tryd.prog 18 #[.pointer (some ⟨g, 0, none⟩)] w fun e w' => IntPost g A l w e w' := by
  rcases l with _ | ⟨h, t⟩
  · go_enter Tryd.func18, Tryd.ntmps18
    go_wp2_with fail
    refine (take_no g A [] false 1 (by omega) (by omega) w hi (.inr (.inr (by simp)))).mono ?_
    rintro e w1 ⟨rfl, A1, hi1, ht1, hf1⟩
    obtain ⟨c1, hc1, hg1, hgl1, hc01, hc11, hfr1, hfr11⟩ := hi1.mk'
    clear hg1
    go_wp2_with fail
    go_ret
    exact ⟨rfl, [], A1, hi1, ht1, hf1⟩
  · refine (callsIn_wide (n := 3)).1 ?_
    refine callsIn_of_wp_marks Tryd.func18 rfl trivial ?_ rfl
    simp only [Tryd.ntmps18, List.size_toArray, List.length_cons, List.length_nil, Nat.reduceAdd, Nat.reduceSub, Array.replicate_succ, Array.replicate_zero, List.push_toArray, List.append_toArray, List.nil_append, List.cons_append]
    have hne := hi.ne
    have hlen : 1 ≤ (h :: t).length := by simp
    have hCall1 := take_ok g A (h :: t) 1 hlen w hi
    by_cases hq : 16 ≤ h.toNat
    · obtain ⟨s, hs⟩ : ∃ s, h.toNat = 16 + s := ⟨h.toNat - 16, by omega⟩
      by_cases h8 : 8 < s
      · have hp : ∀ w w' e, (e = .returned (.int .i64 0) ∧ ∃ l', InPost g A l' true w w') → IntPost g A (h :: t) w e w' := fun w w' e he => by
          have : rdI (h :: t) = none := by simp [rdI, hs, h8]
          unfold IntPost; rw [this]; exact he
        have Hp := Lib.hid hp; clear hp
        clear hq
        gi_wp2_with fail
        refine ⟨trivial, ?_⟩
        gi_at_call 41
        refine (callsIn_wide.2 hCall1).mono ?_
        clear hCall1
        rintro e w1 ⟨⟨A0, rfl, hr0, hf0⟩, A1, hi1, ht1, hf1⟩
        obtain ⟨c1, hc1, hg1, hgl1, hc01, hc11, hfr1, hfr11⟩ := hi1.mk'
        clear hg1
        have hr1 : RdB w1 A0 [h] := Rd.touch hr0 ht1 (fun b hb hm => hne ((by simpa using hm : b = g) ▸ hf0 b hb))
        obtain ⟨a0, rfl, hcell⟩ := hr1.at_ 0 (by simp)
        have hcell0 : w1.cell? a0 = some (.int .u8 (16 + (s : Int))) := by
          have e0 : a0.add 0 = a0 := by unfold Addr.add; split <;> simp_all
          rw [e0] at hcell
          rw [hcell]; simp [hs]
        clear hcell
        have hsl : s < 240 := by have := h.toNat_lt; omega
        have e16 : (16 + (s : Int) - 16) = (s : Int) := by omega
        have P1 := hi1.spoil
        gi_wp2
        exact ⟨_, results_tmp rfl _ _ _, Hp.out _ _ _ ⟨rfl, _, P1.trans ht1 hf1⟩⟩
      · gi_wp2_with fail
        refine ⟨trivial, ?_⟩
        gi_at_call 41
        refine (callsIn_wide.2 hCall1).mono ?_
        clear hCall1
        rintro e w1 ⟨⟨A0, rfl, hr0, hf0⟩, A1, hi1, ht1, hf1⟩
        obtain ⟨c1, hc1, hg1, hgl1, hc01, hc11, hfr1, hfr11⟩ := hi1.mk'
        clear hg1
        have hr1 : RdB w1 A0 [h] := Rd.touch hr0 ht1 (fun b hb hm => hne ((by simpa using hm : b = g) ▸ hf0 b hb))
        obtain ⟨a0, rfl, hcell⟩ := hr1.at_ 0 (by simp)
        have hcell0 : w1.cell? a0 = some (.int .u8 (16 + (s : Int))) := by
          have e0 : a0.add 0 = a0 := by unfold Addr.add; split <;> simp_all
          rw [e0] at hcell
          rw [hcell]; simp [hs]
        clear hcell
        have e16 : (16 + (s : Int) - 16) = (s : Int) := by omega
        gi_wp2_with fail
        refine ⟨trivial, ?_⟩
        refine (callsIn_wide.2 (take_both g A1 t s (by omega) w1 hi1)).mono ?_
        rintro e w2 ⟨zs, A2, bad2, l2, rfl, hr2, hf2, ⟨A3, hi3, ht2, hf3⟩, hcase⟩
        obtain ⟨c3, hc3, hg3, hgl3, hc03, hc13, hfr3, hfr13⟩ := hi3.mk'
        gi_wp2_with fail
        refine ⟨trivial, ?_⟩
        refine (back_in Fence.wide 2 trivial rfl A2 zs.length zs.length _).mono ?_
        rintro e w3 ⟨rfl, rfl⟩
        gi_wp2_with fail
        have hbs := cell_new_l (w2.alloc (.cells #[.int .u64 0] 74)) (.slice A2 zs.length zs.length) 22
        have hns := cell_new_l w2 (.int .u64 0) 74
        rw [World.size_alloc] at hbs
        have tw := ((Touch.refl [] w2).alloc (.cells #[.int .u64 0] 74)).alloc (.cells #[.slice A2 zs.length zs.length] 22)
        have hz8 : zs.length ≤ 8 := by rcases hcase with ⟨h1, rfl, _⟩ | ⟨_, rfl, _⟩ <;> simp <;> omega
        have hA2 : ∀ b ∈ fpo A2, 0 < zs.length → b < w2.heap.size := fun b hb h0 => hr2.lt (by simpa using h0) b hb
        refine wpIn_rangeFunc_ownF rfl (by omega) (gf := 54) (lb := #[.pointer (some ⟨w2.heap.size + 1, 0, none⟩)]) rfl trivial (enters_of Tryd.func54 (by kernel_rfl) rfl)
          (back_stops Fence.wide 2 trivial rfl (by omega) (w2.heap.size + 1) A2 zs.length zs (by omega) _ hbs.1 (hr2.touch0 tw)) KpB.trans (KpB.put ?bs) (Below.refl _ _) (fun _ => rfl)
          (fun pre W => (W.cell? ⟨w2.heap.size, 0, none⟩ = some (.int .u64 (backV pre : Nat)) ∧ W.frozen? ⟨w2.heap.size, 0, none⟩ = false) ∧ Below w2.heap.size w2 W)
          (fun _ _ _ => False)
          (OwnFrom.and (Own.from (fun st A B row hs hg hr => ⟨cell_kept hs.1 hg hr, (frozen_kept hs.1 hg hr).trans hs.2⟩) _) (ownFrom_below (Nat.le_refl _) (by simp; omega)))
          (fun _ _ _ _ _ hs _ _ => hs)
          ⟨⟨cell_alloc_l _ hns.1, frozen_alloc_l _ hns.1 hns.2⟩, ((Below.refl _ w2).alloc (Nat.le_refl _) _).alloc (by simp) _⟩
          ?a1 ?assign ?body ?done ?stop
        case bs =>
          intro k hk
          rw [World.size_alloc, World.size_alloc]
          unfold backs at hk
          split at hk
          · simp at hk; omega
          · rcases List.mem_cons.1 hk with h | h
            · omega
            · have := hA2 k h (by omega); omega
        case a1 => exact fun x => { tmps := #[.pointer (some ⟨g, 0, none⟩), undef, .int .i64 0, .slice (some a0) 1 1, .int .i64 s, .bool true, .slice A2 zs.length zs.length, .pointer (some ⟨w2.heap.size, 0, none⟩), undef, .int .u8 x.2.toNat, .pointer (some ⟨g, 0, none⟩), .slice (some a0) 1 1, .pointer (some ⟨g, 0, none⟩), .pointer (some ⟨g, 0, none⟩), .pointer (some ⟨g, 1, none⟩), .bool false, .slice (some a0) 1 1, .pointer (some a0), .int .u8 (16 + (s : Int)), .int .i64 (16 + (s : Int)), .int .i64 (16 + (s : Int)), .bool true, .int .i64 (16 + (s : Int)), .int .i64 s, .int .i64 s, .bool (decide (8 < (s : Int))), undef, undef, undef, .pointer (some ⟨g, 0, none⟩), .int .i64 s, .slice A2 zs.length zs.length, .slice A2 zs.length zs.length, .func (.func 54) #[] #[.pointer (some ⟨w2.heap.size + 1, 0, none⟩)], .int .i64 x.1, .int .u8 x.2.toNat, undef, undef, undef, undef, undef, undef, undef, undef, undef, undef, undef, undef, undef, undef, undef, undef, undef, undef, undef, undef, undef, undef, undef, undef, undef, undef, undef, undef, undef, undef, undef, undef, undef, undef, undef], defers := [] }
        case assign =>
          intro l x W K hK
          gi_wp2
          exact hK
        case stop =>
          rintro D c pre W _ _ h _
          exact h.elim
        case body =>
          rintro l pre ⟨x1, x2⟩ W ⟨⟨hc, hf⟩, hB⟩ hlen
          have hv := backV_lt pre
          have hv2 : backV pre < 72057594037927936 := Nat.lt_of_lt_of_le hv (Nat.pow_le_pow_right (by omega) (by omega : pre.length ≤ 7))
          have hx2 := x2.toNat_lt
          have hor := Lib.hid (or256 (backV pre) x2.toNat hv2 hx2)
          have hnk : w2.heap.size ∉ backs (w2.heap.size + 1) A2 zs := by
            intro hk
            unfold backs at hk
            split at hk
            · simp at hk
            · rcases List.mem_cons.1 hk with h | h
              · omega
              · have := hA2 _ h (by omega); omega
          gi_wp2
          refine ⟨KeepsOthers.setCell _ _ _, KpB.setCell W _ _ hnk, ⟨?_, by rw [World.frozen?_setCell]; exact hf⟩, hB.trans ((Below.refl w2.heap.size W).setCell (p := ⟨w2.heap.size, 0, none⟩) (Nat.le_refl _) _)⟩
          rw [hor.out, backV_snoc]
          exact World.cell?_setCell_same' _ _ _ (by rw [hc]; rfl)
        case done =>
          rintro D ys W hD rfl ⟨⟨hc, hf⟩, hB⟩ hK
          rw [backV_upto zs _ (Nat.le_refl _), Nat.sub_self, List.drop_zero] at hc
          have hv : leV zs < 18446744073709551616 := Nat.lt_of_lt_of_le (leV_lt zs) (Nat.pow_le_pow_right (by omega) hz8)
          have tW := Touch.of_below hB []
          have hiW := hi3.touch tW (by simp) (by simp)
          have hrW := hr2.touch0 tW
          have TT : Touch [g] w W := (ht1.trans ht2 (fun b hb => .inl hb)).trans0 tW
          have PB := hiW.spoil
          obtain ⟨c4, hc4, hg4, hgl4, hc04, hc14, hfr4, hfr14⟩ := hiW.mk'
          clear hg4
          rcases hcase with ⟨hsl, hz, rfl, hl2⟩ | ⟨hsl, rfl, rfl, hl2⟩
          · have hzl : zs.length = s := by rw [hz, List.length_take]; omega
            have PG : InPost g A l2 false w W := ⟨A3, hiW, TT, fun b hb => hf1 b (hf3 b hb)⟩
            by_cases hs0 : s = 0
            · subst hs0
              obtain rfl := List.eq_nil_of_length_eq_zero hzl
              have hyes : rdI (h :: t) = some (-1, l2) := by rw [hl2]; simp [rdI, hs, leV]
              clear hz hl2 hs
              have hc' : W.cell? ⟨w2.heap.size, 0, none⟩ = some (.int .u64 0) := hc
              clear hc
              gi_wp2
              refine ⟨by simp, .inl ⟨_, _, rfl, run_takeDeferred hK, ?_⟩⟩
              refine ⟨_, results_tmp rfl _ _ _, ?_⟩
              unfold IntPost
              rw [hyes]
              exact ⟨rfl, InPost.put PG (by have := ht2.size; have := ht1.size; simp at hD; omega) hK⟩
            · obtain ⟨j, rfl⟩ : ∃ j, s = j + 1 := ⟨s - 1, by omega⟩
              have hj : j < zs.length := by omega
              obtain ⟨a2, rfl, hcl⟩ := RdB.at_ hrW j hj
              obtain ⟨x, hx⟩ : ∃ x, x = zs[j] := ⟨_, rfl⟩
              rw [← hx] at hcl
              have htx : t[j]? = some x := by
                rw [hx, List.getElem?_eq_getElem (by omega)]
                congr 1
                simp only [hz, List.getElem_take]
              obtain ⟨N, hN⟩ : ∃ N, N = leV zs := ⟨_, rfl⟩
              rw [← hN] at hc hv
              have hNt : leV (t.take (j + 1)) = N := by rw [hN, hz]
              by_cases hx0 : x.toNat = 0
              · have hno : rdI (h :: t) = none := by
                  have : x = 0 := UInt8.toNat_inj.1 (by simpa using hx0)
                  subst this
                  simp [rdI, hs, htx]
                rw [hx0] at hcl
                clear hz hl2 hs hx hN hNt htx hx0
                gi_wp2
                refine ⟨by simp, .inl ⟨_, _, rfl, run_takeDeferred ((KeepsOthers.setCell W ⟨g, 1, none⟩ (.bool true)).same D _ hK rfl), ?_⟩⟩
                refine ⟨_, results_tmp rfl _ _ _, ?_⟩
                unfold IntPost
                rw [hno]
                refine ⟨rfl, l2, InPost.put ?_ (by have := TT.size; have := ht2.size; have := ht1.size; simp at hD; omega) ((KeepsOthers.setCell W ⟨g, 1, none⟩ (.bool true)).same D _ hK rfl)⟩
                exact PB.trans TT (fun b hb => hf1 b (hf3 b hb))
              · have hxb : (((x.toNat : Int)) == 0) = false := by rw [beq_eq_false_iff_ne]; omega
                have hxl := x.toNat_lt
                have hxne : x ≠ 0 := fun e => hx0 (by rw [e]; rfl)
                by_cases hbig : 9223372036854775808 ≤ N
                · have hno : rdI (h :: t) = none := by simp [rdI, hs, hNt, hbig]
                  clear hz hl2 hs hx hN hNt htx hxne
                  gi_wp2
                  refine ⟨by simp, .inl ⟨_, _, rfl, run_takeDeferred ((KeepsOthers.setCell W ⟨g, 1, none⟩ (.bool true)).same D _ hK rfl), ?_⟩⟩
                  refine ⟨_, results_tmp rfl _ _ _, ?_⟩
                  unfold IntPost
                  rw [hno]
                  refine ⟨rfl, l2, InPost.put ?_ (by have := TT.size; have := ht2.size; have := ht1.size; simp at hD; omega) ((KeepsOthers.setCell W ⟨g, 1, none⟩ (.bool true)).same D _ hK rfl)⟩
                  exact PB.trans TT (fun b hb => hf1 b (hf3 b hb))
                · have hyes : rdI (h :: t) = some (-1 - (N : Int), l2) := by
                    rw [hl2]
                    simp only [rdI, hs]
                    simp [hNt, htx, hxne]
                    omega
                  clear hz hl2 hs hx hN hNt htx hxne
                  gi_wp2
                  refine ⟨by simp, .inl ⟨_, _, rfl, run_takeDeferred hK, ?_⟩⟩
                  refine ⟨_, results_tmp rfl _ _ _, ?_⟩
                  unfold IntPost
                  rw [hyes]
                  exact ⟨rfl, InPost.put PG (by have := ht2.size; have := ht1.size; simp at hD; omega) hK⟩
          · have hno : rdI (h :: t) = none := by simp [rdI, hs, hsl]
            gi_wp2
            refine ⟨by simp, .inl ⟨_, _, rfl, run_takeDeferred ((KeepsOthers.setCell W ⟨g, 1, none⟩ (.bool true)).same D _ hK rfl), ?_⟩⟩
            refine ⟨_, results_tmp rfl _ _ _, ?_⟩
            unfold IntPost
            rw [hno]
            refine ⟨rfl, l2, InPost.put ?_ (by have := TT.size; have := ht2.size; have := ht1.size; simp at hD; omega) ((KeepsOthers.setCell W ⟨g, 1, none⟩ (.bool true)).same D _ hK rfl)⟩
            exact PB.trans TT (fun b hb => hf1 b (hf3 b hb))
    · obtain ⟨s, hs⟩ : ∃ s, h.toNat = s := ⟨_, rfl⟩
      have hq16 : s < 16 := by omega
      have hnq : ¬ 16 ≤ s := by omega
      by_cases h8 : 8 < s
      · have hp : ∀ w w' e, (e = .returned (.int .i64 0) ∧ ∃ l', InPost g A l' true w w') → IntPost g A (h :: t) w e w' := fun w w' e he => by
          have : rdI (h :: t) = none := by simp [rdI, hs, h8, hnq]
          unfold IntPost; rw [this]; exact he
        have Hp := Lib.hid hp; clear hp
        clear hq
        gi_wp2_with fail
        refine ⟨trivial, ?_⟩
        gi_at_call 41
        refine (callsIn_wide.2 hCall1).mono ?_
        clear hCall1
        rintro e w1 ⟨⟨A0, rfl, hr0, hf0⟩, A1, hi1, ht1, hf1⟩
        obtain ⟨c1, hc1, hg1, hgl1, hc01, hc11, hfr1, hfr11⟩ := hi1.mk'
        clear hg1
        have hr1 : RdB w1 A0 [h] := Rd.touch hr0 ht1 (fun b hb hm => hne ((by simpa using hm : b = g) ▸ hf0 b hb))
        obtain ⟨a0, rfl, hcell⟩ := hr1.at_ 0 (by simp)
        have hcell0 : w1.cell? a0 = some (.int .u8 (s : Int)) := by
          have e0 : a0.add 0 = a0 := by unfold Addr.add; split <;> simp_all
          rw [e0] at hcell
          rw [hcell]; simp [hs]
        clear hcell
        have hsl : s < 240 := by have := h.toNat_lt; omega
        have P1 := hi1.spoil
        gi_wp2
        exact ⟨_, results_tmp rfl _ _ _, Hp.out _ _ _ ⟨rfl, _, P1.trans ht1 hf1⟩⟩
      · gi_wp2_with fail
        refine ⟨trivial, ?_⟩
        gi_at_call 41
        refine (callsIn_wide.2 hCall1).mono ?_
        clear hCall1
        rintro e w1 ⟨⟨A0, rfl, hr0, hf0⟩, A1, hi1, ht1, hf1⟩
        obtain ⟨c1, hc1, hg1, hgl1, hc01, hc11, hfr1, hfr11⟩ := hi1.mk'
        clear hg1
        have hr1 : RdB w1 A0 [h] := Rd.touch hr0 ht1 (fun b hb hm => hne ((by simpa using hm : b = g) ▸ hf0 b hb))
        obtain ⟨a0, rfl, hcell⟩ := hr1.at_ 0 (by simp)
        have hcell0 : w1.cell? a0 = some (.int .u8 (s : Int)) := by
          have e0 : a0.add 0 = a0 := by unfold Addr.add; split <;> simp_all
          rw [e0] at hcell
          rw [hcell]; simp [hs]
        clear hcell
        gi_wp2_with fail
        refine ⟨trivial, ?_⟩
        refine (callsIn_wide.2 (take_both g A1 t s (by omega) w1 hi1)).mono ?_
        rintro e w2 ⟨zs, A2, bad2, l2, rfl, hr2, hf2, ⟨A3, hi3, ht2, hf3⟩, hcase⟩
        obtain ⟨c3, hc3, hg3, hgl3, hc03, hc13, hfr3, hfr13⟩ := hi3.mk'
        gi_wp2_with fail
        refine ⟨trivial, ?_⟩
        refine (back_in Fence.wide 2 trivial rfl A2 zs.length zs.length _).mono ?_
        rintro e w3 ⟨rfl, rfl⟩
        gi_wp2_with fail
        have hbs := cell_new_l (w2.alloc (.cells #[.int .u64 0] 74)) (.slice A2 zs.length zs.length) 22
        have hns := cell_new_l w2 (.int .u64 0) 74
        rw [World.size_alloc] at hbs
        have tw := ((Touch.refl [] w2).alloc (.cells #[.int .u64 0] 74)).alloc (.cells #[.slice A2 zs.length zs.length] 22)
        have hz8 : zs.length ≤ 8 := by rcases hcase with ⟨h1, rfl, _⟩ | ⟨_, rfl, _⟩ <;> simp <;> omega
        have hA2 : ∀ b ∈ fpo A2, 0 < zs.length → b < w2.heap.size := fun b hb h0 => hr2.lt (by simpa using h0) b hb
        refine wpIn_rangeFunc_ownF rfl (by omega) (gf := 54) (lb := #[.pointer (some ⟨w2.heap.size + 1, 0, none⟩)]) rfl trivial (enters_of Tryd.func54 (by kernel_rfl) rfl)
          (back_stops Fence.wide 2 trivial rfl (by omega) (w2.heap.size + 1) A2 zs.length zs (by omega) _ hbs.1 (hr2.touch0 tw)) KpB.trans (KpB.put ?bs) (Below.refl _ _) (fun _ => rfl)
          (fun pre W => (W.cell? ⟨w2.heap.size, 0, none⟩ = some (.int .u64 (backV pre : Nat)) ∧ W.frozen? ⟨w2.heap.size, 0, none⟩ = false) ∧ Below w2.heap.size w2 W)
          (fun _ _ _ => False)
          (OwnFrom.and (Own.from (fun st A B row hs hg hr => ⟨cell_kept hs.1 hg hr, (frozen_kept hs.1 hg hr).trans hs.2⟩) _) (ownFrom_below (Nat.le_refl _) (by simp; omega)))
          (fun _ _ _ _ _ hs _ _ => hs)
          ⟨⟨cell_alloc_l _ hns.1, frozen_alloc_l _ hns.1 hns.2⟩, ((Below.refl _ w2).alloc (Nat.le_refl _) _).alloc (by simp) _⟩
          ?a1 ?assign ?body ?done ?stop
        case bs =>
          intro k hk
          rw [World.size_alloc, World.size_alloc]
          unfold backs at hk
          split at hk
          · simp at hk; omega
          · rcases List.mem_cons.1 hk with h | h
            · omega
            · have := hA2 k h (by omega); omega
        case a1 => exact fun x => { tmps := #[.pointer (some ⟨g, 0, none⟩), undef, .int .i64 0, .slice (some a0) 1 1, .int .i64 s, .bool false, .slice A2 zs.length zs.length, .pointer (some ⟨w2.heap.size, 0, none⟩), undef, .int .u8 x.2.toNat, .pointer (some ⟨g, 0, none⟩), .slice (some a0) 1 1, .pointer (some ⟨g, 0, none⟩), .pointer (some ⟨g, 0, none⟩), .pointer (some ⟨g, 1, none⟩), .bool false, .slice (some a0) 1 1, .pointer (some a0), .int .u8 (s : Int), .int .i64 s, .int .i64 s, .bool (decide (16 ≤ (s : Int))), undef, undef, .int .i64 s, .bool (decide (8 < (s : Int))), undef, undef, undef, .pointer (some ⟨g, 0, none⟩), .int .i64 s, .slice A2 zs.length zs.length, .slice A2 zs.length zs.length, .func (.func 54) #[] #[.pointer (some ⟨w2.heap.size + 1, 0, none⟩)], .int .i64 x.1, .int .u8 x.2.toNat, undef, undef, undef, undef, undef, undef, undef, undef, undef, undef, undef, undef, undef, undef, undef, undef, undef, undef, undef, undef, undef, undef, undef, undef, undef, undef, undef, undef, undef, undef, undef, undef, undef, undef, undef], defers := [] }
        case assign =>
          intro l x W K hK
          gi_wp2
          exact hK
        case stop =>
          rintro D c pre W _ _ h _
          exact h.elim
        case body =>
          rintro l pre ⟨x1, x2⟩ W ⟨⟨hc, hf⟩, hB⟩ hlen
          have hv := backV_lt pre
          have hv2 : backV pre < 72057594037927936 := Nat.lt_of_lt_of_le hv (Nat.pow_le_pow_right (by omega) (by omega : pre.length ≤ 7))
          have hx2 := x2.toNat_lt
          have hor := Lib.hid (or256 (backV pre) x2.toNat hv2 hx2)
          have hnk : w2.heap.size ∉ backs (w2.heap.size + 1) A2 zs := by
            intro hk
            unfold backs at hk
            split at hk
            · simp at hk
            · rcases List.mem_cons.1 hk with h | h
              · omega
              · have := hA2 _ h (by omega); omega
          gi_wp2
          refine ⟨KeepsOthers.setCell _ _ _, KpB.setCell W _ _ hnk, ⟨?_, by rw [World.frozen?_setCell]; exact hf⟩, hB.trans ((Below.refl w2.heap.size W).setCell (p := ⟨w2.heap.size, 0, none⟩) (Nat.le_refl _) _)⟩
          rw [hor.out, backV_snoc]
          exact World.cell?_setCell_same' _ _ _ (by rw [hc]; rfl)
        case done =>
          rintro D ys W hD rfl ⟨⟨hc, hf⟩, hB⟩ hK
          rw [backV_upto zs _ (Nat.le_refl _), Nat.sub_self, List.drop_zero] at hc
          have hv : leV zs < 18446744073709551616 := Nat.lt_of_lt_of_le (leV_lt zs) (Nat.pow_le_pow_right (by omega) hz8)
          have tW := Touch.of_below hB []
          have hiW := hi3.touch tW (by simp) (by simp)
          have hrW := hr2.touch0 tW
          have TT : Touch [g] w W := (ht1.trans ht2 (fun b hb => .inl hb)).trans0 tW
          have PB := hiW.spoil
          obtain ⟨c4, hc4, hg4, hgl4, hc04, hc14, hfr4, hfr14⟩ := hiW.mk'
          clear hg4
          rcases hcase with ⟨hsl, hz, rfl, hl2⟩ | ⟨hsl, rfl, rfl, hl2⟩
          · have hzl : zs.length = s := by rw [hz, List.length_take]; omega
            have PG : InPost g A l2 false w W := ⟨A3, hiW, TT, fun b hb => hf1 b (hf3 b hb)⟩
            by_cases hs0 : s = 0
            · subst hs0
              obtain rfl := List.eq_nil_of_length_eq_zero hzl
              have hyes : rdI (h :: t) = some (0, l2) := by rw [hl2]; simp [rdI, hs, leV]
              clear hz hl2 hs
              have hc' : W.cell? ⟨w2.heap.size, 0, none⟩ = some (.int .u64 0) := hc
              clear hc
              gi_wp2
              refine ⟨by simp, .inl ⟨_, _, rfl, run_takeDeferred hK, ?_⟩⟩
              refine ⟨_, results_tmp rfl _ _ _, ?_⟩
              unfold IntPost
              rw [hyes]
              exact ⟨rfl, InPost.put PG (by have := ht2.size; have := ht1.size; simp at hD; omega) hK⟩
            · obtain ⟨j, rfl⟩ : ∃ j, s = j + 1 := ⟨s - 1, by omega⟩
              have hj : j < zs.length := by omega
              obtain ⟨a2, rfl, hcl⟩ := RdB.at_ hrW j hj
              obtain ⟨x, hx⟩ : ∃ x, x = zs[j] := ⟨_, rfl⟩
              rw [← hx] at hcl
              have htx : t[j]? = some x := by
                rw [hx, List.getElem?_eq_getElem (by omega)]
                congr 1
                simp only [hz, List.getElem_take]
              obtain ⟨N, hN⟩ : ∃ N, N = leV zs := ⟨_, rfl⟩
              rw [← hN] at hc hv
              have hNt : leV (t.take (j + 1)) = N := by rw [hN, hz]
              by_cases hx0 : x.toNat = 0
              · have hno : rdI (h :: t) = none := by
                  have : x = 0 := UInt8.toNat_inj.1 (by simpa using hx0)
                  subst this
                  simp [rdI, hs, htx, hnq]
                rw [hx0] at hcl
                clear hz hl2 hs hx hN hNt htx hx0
                gi_wp2
                refine ⟨by simp, .inl ⟨_, _, rfl, run_takeDeferred ((KeepsOthers.setCell W ⟨g, 1, none⟩ (.bool true)).same D _ hK rfl), ?_⟩⟩
                refine ⟨_, results_tmp rfl _ _ _, ?_⟩
                unfold IntPost
                rw [hno]
                refine ⟨rfl, l2, InPost.put ?_ (by have := TT.size; have := ht2.size; have := ht1.size; simp at hD; omega) ((KeepsOthers.setCell W ⟨g, 1, none⟩ (.bool true)).same D _ hK rfl)⟩
                exact PB.trans TT (fun b hb => hf1 b (hf3 b hb))
              · have hxb : (((x.toNat : Int)) == 0) = false := by rw [beq_eq_false_iff_ne]; omega
                have hxl := x.toNat_lt
                have hxne : x ≠ 0 := fun e => hx0 (by rw [e]; rfl)
                by_cases hbig : 9223372036854775808 ≤ N
                · have hno : rdI (h :: t) = none := by simp [rdI, hs, hNt, hbig, hnq]
                  clear hz hl2 hs hx hN hNt htx hxne
                  gi_wp2
                  refine ⟨by simp, .inl ⟨_, _, rfl, run_takeDeferred ((KeepsOthers.setCell W ⟨g, 1, none⟩ (.bool true)).same D _ hK rfl), ?_⟩⟩
                  refine ⟨_, results_tmp rfl _ _ _, ?_⟩
                  unfold IntPost
                  rw [hno]
                  refine ⟨rfl, l2, InPost.put ?_ (by have := TT.size; have := ht2.size; have := ht1.size; simp at hD; omega) ((KeepsOthers.setCell W ⟨g, 1, none⟩ (.bool true)).same D _ hK rfl)⟩
                  exact PB.trans TT (fun b hb => hf1 b (hf3 b hb))
                · have hyes : rdI (h :: t) = some ((N : Int), l2) := by
                    rw [hl2]
                    simp only [rdI, hs, if_neg hnq]
                    simp [hNt, htx, hxne]
                    omega
                  clear hz hl2 hs hx hN hNt htx hxne
                  gi_wp2
                  refine ⟨by simp, .inl ⟨_, _, rfl, run_takeDeferred hK, ?_⟩⟩
                  refine ⟨_, results_tmp rfl _ _ _, ?_⟩
                  unfold IntPost
                  rw [hyes]
                  exact ⟨rfl, InPost.put PG (by have := ht2.size; have := ht1.size; simp at hD; omega) hK⟩
          · have hno : rdI (h :: t) = none := by simp [rdI, hs, hsl, hnq]
            gi_wp2
            refine ⟨by simp, .inl ⟨_, _, rfl, run_takeDeferred ((KeepsOthers.setCell W ⟨g, 1, none⟩ (.bool true)).same D _ hK rfl), ?_⟩⟩
            refine ⟨_, results_tmp rfl _ _ _, ?_⟩
            unfold IntPost
            rw [hno]
            refine ⟨rfl, l2, InPost.put ?_ (by have := TT.size; have := ht2.size; have := ht1.size; simp at hD; omega) ((KeepsOthers.setCell W ⟨g, 1, none⟩ (.bool true)).same D _ hK rfl)⟩
            exact PB.trans TT (fun b hb => hf1 b (hf3 b hb))
end Go.Proofs.YtgpadejkmpfafaaDoor
