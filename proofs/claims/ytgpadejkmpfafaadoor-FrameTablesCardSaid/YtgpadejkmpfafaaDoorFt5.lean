/- Part 5 of the texts of this proof, one behind the other; each begins with its own sentence. No condition beyond those that its theorems state. -/
import Derived.Test.YtgpadejkmpfafaaDoorFt4
import Derived.Deep.RegionHeld3
import Derived.Deep.DrawnRows
/- frame.In.Value on an In that is right: what is read. -/
namespace Go.Proofs.YtgpadejkmpfafaaDoor
open Go.RowKit

def zeroVD : VD := ⟨0, 0, ⟨#[]⟩⟩
/-- a value and what is left -/
def rdV (l : List UInt8) : Option (VD × List UInt8) :=
  match rdI l with
  | none => none
  | some (k, l1) =>
    if k = 0 then some (zeroVD, l1)
    else if k = 1 then (match rdI l1 with | none => none | some (n, l2) => some (⟨1, n, ⟨#[]⟩⟩, l2))
    else if k = 2 then (match rdT l1 with | none => none | some (s, l2) => if VD.right ⟨2, 0, S s⟩ = true then some (⟨2, 0, S s⟩, l2) else none)
    else none
/-- the outcome of In.Value -/
def ValuePost (g : Nat) (A : Option Addr) (l : List UInt8) (w : World) (e : Ending) (w' : World) : Prop :=
  match rdV l with
  | some (v, l') => e = .returned v.val ∧ InPost g A l' false w w'
  | none => e = .returned zeroVD.val ∧ ∃ l', InPost g A l' true w w'

theorem Touch.up0 {g : Nat} {w a b : World} (t : Touch [g] w a) (t' : Touch [] a b) : Touch [g] w b := t.trans (t'.mono (fun _ hb => by simp at hb)) (fun _ hb => .inl hb)
theorem Touch.up {g : Nat} {w a b : World} (t : Touch [g] w a) (t' : Touch [g] a b) : Touch [g] w b := t.trans t' (fun _ hb => .inl hb)
theorem In_fin {g : Nat} {A A1 : Option Addr} {l1 : List UInt8} {bad : Bool} {w w1 w2 : World} (hgl : g < w.heap.size) (hA : ∀ b ∈ fpo A, b < w.heap.size) (hf : ∀ b ∈ fpo A1, b ∈ fpo A) (t1 : Touch [g] w w1) (hi : InAt w1 g A1 l1 bad)
    (fp : List Nat) (t2 : Touch fp w1 w2) (hfp : ∀ b ∈ fp, w.heap.size ≤ b) : InPost g A l1 bad w w2 :=
  ⟨A1, hi.touch1 t2 (fun hm => by have := hfp g hm; omega) (fun h0 b hb hm => by have := hA b (hf b hb); have := hfp b hm; omega), t1.trans t2 (fun b hb => .inr (hfp b hb)), hf⟩
theorem rdI_len {l l1 : List UInt8} {k : Int} (h : rdI l = some (k, l1)) : l1.length ≤ l.length := by
  unfold rdI at h
  split at h
  · cases h
  · dsimp only at h
    split at h <;> split at h <;> first | (cases h; rw [List.length_drop, List.length_cons]; omega) | cases h
theorem rdT_len {l l1 s : List UInt8} (h : rdT l = some (s, l1)) : s.length ≤ l.length ∧ l1.length ≤ l.length := by
  unfold rdT at h
  rcases hr : rdI l with _ | ⟨n, l'⟩
  · rw [hr] at h; cases h
  · rw [hr] at h
    have := rdI_len hr
    simp only at h
    split at h
    · cases h
    · simp only [Option.some.injEq, Prod.mk.injEq] at h
      rw [← h.1, ← h.2]
      simp
      omega
/-- the result's block behind what was written -/
theorem In_end {g : Nat} {A A1 : Option Addr} {l1 : List UInt8} {bad : Bool} {w wa w1 w2 : World} (hgl : g < w.heap.size) (hA : ∀ b ∈ fpo A, b < w.heap.size) (hf : ∀ b ∈ fpo A1, b ∈ fpo A) (t0 : Touch [] w wa) (t1 : Touch [g] wa w1) (hi : InAt w1 g A1 l1 bad)
    (fp : List Nat) (t2 : Touch fp w1 w2) (hfp : ∀ b ∈ fp, w.heap.size ≤ b) : InPost g A l1 bad w w2 :=
  ⟨A1, hi.touch1 t2 (fun hm => by have := hfp g hm; omega) (fun h0 b hb hm => by have := hA b (hf b hb); have := hfp b hm; omega),
    ((t0.mono (fp2 := [g]) (fun _ hb => by simp at hb)).trans t1 (fun _ hb => .inl hb)).trans t2 (fun b hb => .inr (hfp b hb)), hf⟩

theorem blk3 {w : World} {R : Nat} {a b c : Value} (h : w.heap[R]? = some (.cells #[a, b, c] 59 (0, 0))) : w.cell? ⟨R, 0, none⟩ = some a ∧ w.cell? ⟨R, 1, none⟩ = some b ∧ w.cell? ⟨R, 2, none⟩ = some c ∧
    w.frozen? ⟨R, 0, none⟩ = false ∧ w.frozen? ⟨R, 1, none⟩ = false ∧ w.frozen? ⟨R, 2, none⟩ = false ∧ R < w.heap.size :=
  ⟨cell_blk h rfl, cell_blk h rfl, cell_blk h rfl, by simp [World.frozen?, h], by simp [World.frozen?, h], by simp [World.frozen?, h], lt_of_block h⟩
theorem out3 {X : World} {R : Nat} {a b c : Value} (v0 v1 v2 : Value) (h : X.heap[R]? = some (.cells #[a, b, c] 59 (0, 0))) :
    (((X.setCell ⟨R, 0, none⟩ v0).setCell ⟨R, 1, none⟩ v1).setCell ⟨R, 2, none⟩ v2).heap[R]? = some (.cells #[v0, v1, v2] 59 (0, 0)) ∧ Touch [R] X (((X.setCell ⟨R, 0, none⟩ v0).setCell ⟨R, 1, none⟩ v1).setCell ⟨R, 2, none⟩ v2) :=
  ⟨set_blk (set_blk (set_blk h 0 v0) 1 v1) 2 v2,
    (((Touch.refl [R] X).setCell (p := ⟨R, 0, none⟩) (.inl (by simp)) v0).setCell (p := ⟨R, 1, none⟩) (.inl (by simp)) v1).setCell (p := ⟨R, 2, none⟩) (.inl (by simp)) v2⟩
/-- an In that is spoilt -/
theorem InAt.spoilt {w : World} {g : Nat} {A : Option Addr} {l : List UInt8} {bad : Bool} (hi : InAt w g A l bad) : InAt (w.setCell ⟨g, 1, none⟩ (.bool true)) g A l true := by
  obtain ⟨⟨c, hc, hg⟩, hr, hne, hsm⟩ := hi
  exact ⟨⟨c, hc, by rw [set_blk hg]; rfl⟩, Rd.touch hr ((Touch.refl [g] w).setCell (by simp) _) (fun b hb hm => hne ((by simpa using hm : b = g) ▸ hb)), hne, hsm⟩

set_option maxRecDepth 20000 in
set_option maxHeartbeats 3200000 in
theorem inValue_ok (g : Nat) (A : Option Addr) (l : List UInt8) (w : World) (hi : InAt w g A l false) (hA : ∀ b ∈ fpo A, b < w.heap.size) (hsm : l.length ≤ 140737000000000) :
    Calls Tryd.prog 29 #[.pointer (some ⟨g, 0, none⟩)] w fun e w' => ValuePost g A l w e w' := by
  go_enter Tryd.func29, Tryd.ntmps29
  have t0 := (Touch.refl [] w).alloc (.cells #[.int .i64 0, .int .i64 0, .string ⟨#[]⟩] 59)
  have hb := heap_alloc_new w (.cells #[.int .i64 0, .int .i64 0, .string ⟨#[]⟩] 59)
  have hi0 := hi.touch t0 (by simp) (fun _ _ => by simp)
  have hgl : g < w.heap.size := by obtain ⟨c, hc, hg, hgl, _⟩ := hi.mk'; exact hgl
  have hfpR : ∀ b ∈ [w.heap.size], w.heap.size ≤ b := fun b hb => by
    have : b = w.heap.size := by simpa using hb
    omega
  have hint := inInt_ok g A l _ hi0
  have hne : (w.heap.size = g) = False := eq_false (by omega)
  have hne' : (g = w.heap.size) = False := eq_false (by omega)
  rcases hr : rdI l with _ | ⟨k, l1⟩
  · have hv : rdV l = none := by unfold rdV; rw [hr]
    have Hv := Lib.hid hv
    have Hint := Lib.hid (hint.mono (R' := fun e w' => e = .returned (.int .i64 0) ∧ ∃ l', InPost g A l' true (w.alloc (.cells #[.int .i64 0, .int .i64 0, .string ⟨#[]⟩] 59)) w') fun e w' h => by unfold IntPost at h; rwa [hr] at h)
    clear hint hr hv
    go_wp2_with fail
    refine Hint.out.mono ?_
    rintro e w1 ⟨rfl, l', A1, hi1, ht1, hf1⟩
    obtain ⟨c1, hc1, hg1, hgl1, hc01, hc11, hfr1, hfr11⟩ := hi1.mk'
    have hb1 := ht1.blk hb (by simp; omega)
    obtain ⟨d0, d1, d2, fr0, fr1, fr2, hwl1⟩ := blk3 hb1
    go_wp2_with fail
    obtain ⟨q1, q2⟩ := out3 (.int .i64 0) (.int .i64 0) (.string ⟨#[]⟩) (((Touch.refl [g] w1).setCell (p := ⟨g, 1, none⟩) (.inl (by simp)) (.bool true)).blk hb1 (by simp; omega))
    (try simp only [Exit.inBlock, Exit.then])
    refine bodyPost_ret (results_cell_row rfl _ _ w.heap.size _ _ _ _ rfl (((Touch.refl [] _).alloc _).blk q1 (by simp)) Tryd.underlying59 rfl rfl) rfl ?_
    unfold ValuePost
    rw [Hv.out]
    exact ⟨rfl, _, In_end hgl hA hf1 t0 (ht1.setCell (p := ⟨g, 1, none⟩) (.inl (by simp)) (.bool true)) hi1.spoilt [w.heap.size] (q2.alloc _) hfpR⟩
  · have Hr := Lib.hid hr
    have hkb := rdI_bounds hr
    have Hint := Lib.hid (hint.mono (R' := fun e w' => e = .returned (.int .i64 k) ∧ InPost g A l1 false (w.alloc (.cells #[.int .i64 0, .int .i64 0, .string ⟨#[]⟩] 59)) w') fun e w' h => by unfold IntPost at h; rwa [hr] at h)
    clear hint hr
    by_cases h0 : k = 0
    · subst h0
      have Hv := Lib.hid (show rdV l = some (zeroVD, l1) by unfold rdV; rw [Hr.out]; rfl)
      have Hright := Lib.hid fun w' => right_any zeroVD (by decide) w'
      rw [show VD.right zeroVD = true by kernel_rfl] at Hright
      unfold zeroVD at Hright
      simp only [VD.val] at Hright
      go_wp2_with fail
      refine Hint.out.mono ?_
      rintro e w1 ⟨rfl, A1, hi1, ht1, hf1⟩
      obtain ⟨c1, hc1, hg1, hgl1, hc01, hc11, hfr1, hfr11⟩ := hi1.mk'
      have hb1 := ht1.blk hb (by simp; omega)
      obtain ⟨d0, d1, d2, fr0, fr1, fr2, hwl1⟩ := blk3 hb1
      have tbx := (Touch.refl [] w1).alloc (.cells #[.int .i64 0, .int .i64 0, .string ⟨#[]⟩] 59)
      have hbx := heap_alloc_new w1 (.cells #[.int .i64 0, .int .i64 0, .string ⟨#[]⟩] 59)
      go_wp2_with fail
      refine (Hright.out _).mono ?_
      rintro e w2 ⟨rfl, t2⟩
      have hb2 := (tbx.trans0 t2).blk hb1 (by simp)
      have hbx2 := t2.blk hbx (by simp)
      clear d0 d1 d2 fr0 fr1 fr2 hc01 hc11 hfr1 hfr11
      obtain ⟨d0, d1, d2, fr0, fr1, fr2, hwl2⟩ := blk3 hb2
      obtain ⟨x0, x1, x2, _, _, _, _⟩ := blk3 hbx2
      go_wp2_with fail
      obtain ⟨q1, q2⟩ := out3 (.int .i64 0) (.int .i64 0) (.string ⟨#[]⟩) hb2
      (try simp only [Exit.inBlock, Exit.then])
      refine bodyPost_ret (results_cell_row rfl _ _ w.heap.size _ _ _ _ rfl q1 Tryd.underlying59 rfl rfl) rfl ?_
      unfold ValuePost
      rw [Hv.out]
      exact ⟨rfl, In_end hgl hA hf1 t0 (ht1.trans ((tbx.trans0 t2).mono (fp2 := [g]) (fun _ hb => by simp at hb)) (fun _ hb => .inl hb)) (hi1.touch (tbx.trans0 t2) (by simp) (fun _ _ => by simp)) [w.heap.size] q2 hfpR⟩
    by_cases h1 : k = 1
    · subst h1
      go_wp2_with fail
      refine Hint.out.mono ?_
      rintro e w1 ⟨rfl, A1, hi1, ht1, hf1⟩
      obtain ⟨c1, hc1, hg1, hgl1, hc01, hc11, hfr1, hfr11⟩ := hi1.mk'
      have hb1 := ht1.blk hb (by simp; omega)
      have hwl1 := lt_of_block hb1
      have tbx := (Touch.refl [] w1).alloc (.cells #[.int .i64 1, .int .i64 0, .string ⟨#[]⟩] 59)
      have hbx := heap_alloc_new w1 (.cells #[.int .i64 1, .int .i64 0, .string ⟨#[]⟩] 59)
      have hi1x := hi1.touch tbx (by simp) (fun _ _ => by simp)
      have T1 : Touch [g] w (w1.alloc (.cells #[.int .i64 1, .int .i64 0, .string ⟨#[]⟩] 59)) := ((t0.mono (fp2 := [g]) (fun _ hb => by simp at hb)).up ht1).up0 tbx
      have ne1 : (w1.heap.size = g) = False := eq_false (by omega)
      have ne2 : (g = w1.heap.size) = False := eq_false (by omega)
      have ne3 : (w.heap.size = w1.heap.size) = False := eq_false (by omega)
      have ne4 : (w1.heap.size = w.heap.size) = False := eq_false (by omega)
      have hll := rdI_len Hr.out
      have hint2 := inInt_ok g A1 l1 _ hi1x
      rcases hr2 : rdI l1 with _ | ⟨n, l2⟩
      · have Hv := Lib.hid (show rdV l = none by unfold rdV; rw [Hr.out]; simp [hr2])
        have Hint2 := Lib.hid (hint2.mono (R' := fun e w' => e = .returned (.int .i64 0) ∧ ∃ l', InPost g A1 l' true (w1.alloc (.cells #[.int .i64 1, .int .i64 0, .string ⟨#[]⟩] 59)) w') fun e w' h => by unfold IntPost at h; rwa [hr2] at h)
        clear hint2 hr2 hc01 hc11 hfr1 hfr11
        go_wp2_with fail
        refine Hint2.out.mono ?_
        rintro e w2 ⟨rfl, l', A2, hi2, ht2, hf2⟩
        obtain ⟨c2, hc2, hg2, hgl2, hc02, hc12, hfr2, hfr12⟩ := hi2.mk'
        have hb2 := ht2.blk (tbx.blk hb1 (by simp)) (by simp; omega)
        have hbx2 := ht2.blk hbx (by simp; omega)
        obtain ⟨d0, d1, d2, fr0, fr1, fr2, hwl2⟩ := blk3 hb2
        obtain ⟨x0, x1, x2, y0, y1, y2, hxl⟩ := blk3 hbx2
        have hf2' : ∀ b ∈ fpo A2, b ∈ fpo A := fun b hb => hf1 b (hf2 b hb)
        have hi3 := hi2.touch1 ((Touch.refl [w1.heap.size] w2).setCell (p := ⟨w1.heap.size, 1, none⟩) (.inl (by simp)) (.int .i64 0)) (by simp; omega) (fun _ b hb hm => absurd (hA b (hf2' b hb)) (by rw [show b = w1.heap.size from by simpa using hm]; omega))
        have T3 := ((T1.up ht2).setCell (p := ⟨w1.heap.size, 1, none⟩) (.inr (by simp; omega)) (.int .i64 0)).setCell (p := ⟨g, 1, none⟩) (.inl (by simp)) (.bool true)
        have hb3 := (((Touch.refl [w1.heap.size, g] w2).setCell (p := ⟨w1.heap.size, 1, none⟩) (.inl (by simp)) (.int .i64 0)).setCell (p := ⟨g, 1, none⟩) (.inl (by simp)) (.bool true)).blk hb2 (by simp; omega)
        go_wp2_with fail
        obtain ⟨q1, q2⟩ := out3 (.int .i64 0) (.int .i64 0) (.string ⟨#[]⟩) hb3
        (try simp only [Exit.inBlock, Exit.then])
        refine bodyPost_ret (results_cell_row rfl _ _ w.heap.size _ _ _ _ rfl q1 Tryd.underlying59 rfl rfl) rfl ?_
        unfold ValuePost
        rw [Hv.out]
        exact ⟨rfl, _, In_fin hgl hA hf2' T3 hi3.spoilt [w.heap.size] q2 hfpR⟩
      · have Hint2 := Lib.hid (hint2.mono (R' := fun e w' => e = .returned (.int .i64 n) ∧ InPost g A1 l2 false (w1.alloc (.cells #[.int .i64 1, .int .i64 0, .string ⟨#[]⟩] 59)) w') fun e w' h => by unfold IntPost at h; rwa [hr2] at h)
        have hright := fun w' => right_any ⟨1, n, ⟨#[]⟩⟩ (Nat.zero_le 140737000000000) w'
        simp only [VD.val] at hright
        have hrb := rdI_bounds hr2
        have Hv := Lib.hid (show rdV l = some (⟨1, n, ⟨#[]⟩⟩, l2) by unfold rdV; rw [Hr.out]; simp [hr2])
        rw [show VD.right ⟨1, n, ⟨#[]⟩⟩ = true by kernel_rfl] at hright
        have Hright := Lib.hid hright
        clear hright
        clear hint2 hr2 hc01 hc11 hfr1 hfr11
        go_wp2_with fail
        refine Hint2.out.mono ?_
        rintro e w2 ⟨rfl, A2, hi2, ht2, hf2⟩
        obtain ⟨c2, hc2, hg2, hgl2, hc02, hc12, hfr2, hfr12⟩ := hi2.mk'
        have hb2 := ht2.blk (tbx.blk hb1 (by simp)) (by simp; omega)
        have hbx2 := ht2.blk hbx (by simp; omega)
        obtain ⟨d0, d1, d2, fr0, fr1, fr2, hwl2⟩ := blk3 hb2
        obtain ⟨x0, x1, x2, y0, y1, y2, hxl⟩ := blk3 hbx2
        have hf2' : ∀ b ∈ fpo A2, b ∈ fpo A := fun b hb => hf1 b (hf2 b hb)
        have hi3 := hi2.touch1 ((Touch.refl [w1.heap.size] w2).setCell (p := ⟨w1.heap.size, 1, none⟩) (.inl (by simp)) (.int .i64 n)) (by simp; omega) (fun _ b hb hm => absurd (hA b (hf2' b hb)) (by rw [show b = w1.heap.size from by simpa using hm]; omega))
        have T3 := (T1.up ht2).setCell (p := ⟨w1.heap.size, 1, none⟩) (.inr (by simp; omega)) (.int .i64 n)
        have hb3 := ((Touch.refl [w1.heap.size] w2).setCell (p := ⟨w1.heap.size, 1, none⟩) (.inl (by simp)) (.int .i64 n)).blk hb2 (by simp; omega)
        have hbx3 := set_blk hbx2 1 (.int .i64 n)
        go_wp2_with fail
        refine (Hright.out _).mono ?_
        rintro e w4 ⟨rfl, t4⟩
        have hb4 := t4.blk hb3 (by simp)
        have hbx4 := t4.blk hbx3 (by simp)
        have hi4 := hi3.touch t4 (by simp) (fun _ _ => by simp)
        have T4 := T3.up0 t4
        clear d0 d1 d2 fr0 fr1 fr2 x0 x1 x2 y0 y1 y2 hc02 hc12 hfr2 hfr12
        obtain ⟨c4, hc4, hg4, hgl4, hc04, hc14, hfr4, hfr14⟩ := hi4.mk'
        obtain ⟨d0, d1, d2, fr0, fr1, fr2, hwl4⟩ := blk3 hb4
        obtain ⟨x0, x1, x2, y0, y1, y2, hxl4⟩ := blk3 hbx4
        go_wp2_with fail
        obtain ⟨q1, q2⟩ := out3 (.int .i64 1) (.int .i64 n) (.string ⟨#[]⟩) hb4
        (try simp only [Exit.inBlock, Exit.then])
        refine bodyPost_ret (results_cell_row rfl _ _ w.heap.size _ _ _ _ rfl q1 Tryd.underlying59 rfl rfl) rfl ?_
        unfold ValuePost
        rw [Hv.out]
        exact ⟨rfl, In_fin hgl hA hf2' T4 hi4 [w.heap.size] q2 hfpR⟩
    by_cases h2 : k = 2
    · subst h2
      go_wp2_with fail
      refine Hint.out.mono ?_
      rintro e w1 ⟨rfl, A1, hi1, ht1, hf1⟩
      obtain ⟨c1, hc1, hg1, hgl1, hc01, hc11, hfr1, hfr11⟩ := hi1.mk'
      have hb1 := ht1.blk hb (by simp; omega)
      have hwl1 := lt_of_block hb1
      have tbx := (Touch.refl [] w1).alloc (.cells #[.int .i64 2, .int .i64 0, .string ⟨#[]⟩] 59)
      have hbx := heap_alloc_new w1 (.cells #[.int .i64 2, .int .i64 0, .string ⟨#[]⟩] 59)
      have hi1x := hi1.touch tbx (by simp) (fun _ _ => by simp)
      have T1 : Touch [g] w (w1.alloc (.cells #[.int .i64 2, .int .i64 0, .string ⟨#[]⟩] 59)) := ((t0.mono (fp2 := [g]) (fun _ hb => by simp at hb)).up ht1).up0 tbx
      have ne1 : (w1.heap.size = g) = False := eq_false (by omega)
      have ne2 : (g = w1.heap.size) = False := eq_false (by omega)
      have ne3 : (w.heap.size = w1.heap.size) = False := eq_false (by omega)
      have ne4 : (w1.heap.size = w.heap.size) = False := eq_false (by omega)
      have hll := rdI_len Hr.out
      have hint2 := inText_ok g A1 l1 _ hi1x
      rcases hr2 : rdT l1 with _ | ⟨s, l2⟩
      · have Hv := Lib.hid (show rdV l = none by unfold rdV; rw [Hr.out]; simp [hr2])
        have Hint2 := Lib.hid (hint2.mono (R' := fun e w' => e = .returned (.string (S [])) ∧ ∃ l', InPost g A1 l' true (w1.alloc (.cells #[.int .i64 2, .int .i64 0, .string ⟨#[]⟩] 59)) w') fun e w' h => by unfold TextPost at h; rwa [hr2] at h)
        clear hint2 hr2 hc01 hc11 hfr1 hfr11
        go_wp2_with fail
        refine Hint2.out.mono ?_
        rintro e w2 ⟨rfl, l', A2, hi2, ht2, hf2⟩
        obtain ⟨c2, hc2, hg2, hgl2, hc02, hc12, hfr2, hfr12⟩ := hi2.mk'
        have hb2 := ht2.blk (tbx.blk hb1 (by simp)) (by simp; omega)
        have hbx2 := ht2.blk hbx (by simp; omega)
        obtain ⟨d0, d1, d2, fr0, fr1, fr2, hwl2⟩ := blk3 hb2
        obtain ⟨x0, x1, x2, y0, y1, y2, hxl⟩ := blk3 hbx2
        have hf2' : ∀ b ∈ fpo A2, b ∈ fpo A := fun b hb => hf1 b (hf2 b hb)
        have hi3 := hi2.touch1 ((Touch.refl [w1.heap.size] w2).setCell (p := ⟨w1.heap.size, 2, none⟩) (.inl (by simp)) (.string (S []))) (by simp; omega) (fun _ b hb hm => absurd (hA b (hf2' b hb)) (by rw [show b = w1.heap.size from by simpa using hm]; omega))
        have T3 := ((T1.up ht2).setCell (p := ⟨w1.heap.size, 2, none⟩) (.inr (by simp; omega)) (.string (S []))).setCell (p := ⟨g, 1, none⟩) (.inl (by simp)) (.bool true)
        have hb3 := (((Touch.refl [w1.heap.size, g] w2).setCell (p := ⟨w1.heap.size, 2, none⟩) (.inl (by simp)) (.string (S []))).setCell (p := ⟨g, 1, none⟩) (.inl (by simp)) (.bool true)).blk hb2 (by simp; omega)
        go_wp2_with fail
        obtain ⟨q1, q2⟩ := out3 (.int .i64 0) (.int .i64 0) (.string ⟨#[]⟩) hb3
        (try simp only [Exit.inBlock, Exit.then])
        refine bodyPost_ret (results_cell_row rfl _ _ w.heap.size _ _ _ _ rfl q1 Tryd.underlying59 rfl rfl) rfl ?_
        unfold ValuePost
        rw [Hv.out]
        exact ⟨rfl, _, In_fin hgl hA hf2' T3 hi3.spoilt [w.heap.size] q2 hfpR⟩
      · have Hint2 := Lib.hid (hint2.mono (R' := fun e w' => e = .returned (.string (S s)) ∧ InPost g A1 l2 false (w1.alloc (.cells #[.int .i64 2, .int .i64 0, .string ⟨#[]⟩] 59)) w') fun e w' h => by unfold TextPost at h; rwa [hr2] at h)
        have hright := fun w' => right_any ⟨2, 0, S s⟩ (by rw [S_size]; have := (rdT_len hr2).1; omega) w'
        simp only [VD.val] at hright
        rcases hb0 : VD.right ⟨2, 0, S s⟩ with _ | _
        · have Hv := Lib.hid (show rdV l = none by unfold rdV; rw [Hr.out]; simp [hr2, hb0])
          rw [hb0] at hright
          have Hright := Lib.hid hright
          clear hright hb0
          clear hint2 hr2 hc01 hc11 hfr1 hfr11
          go_wp2_with fail
          refine Hint2.out.mono ?_
          rintro e w2 ⟨rfl, A2, hi2, ht2, hf2⟩
          obtain ⟨c2, hc2, hg2, hgl2, hc02, hc12, hfr2, hfr12⟩ := hi2.mk'
          have hb2 := ht2.blk (tbx.blk hb1 (by simp)) (by simp; omega)
          have hbx2 := ht2.blk hbx (by simp; omega)
          obtain ⟨d0, d1, d2, fr0, fr1, fr2, hwl2⟩ := blk3 hb2
          obtain ⟨x0, x1, x2, y0, y1, y2, hxl⟩ := blk3 hbx2
          have hf2' : ∀ b ∈ fpo A2, b ∈ fpo A := fun b hb => hf1 b (hf2 b hb)
          have hi3 := hi2.touch1 ((Touch.refl [w1.heap.size] w2).setCell (p := ⟨w1.heap.size, 2, none⟩) (.inl (by simp)) (.string (S s))) (by simp; omega) (fun _ b hb hm => absurd (hA b (hf2' b hb)) (by rw [show b = w1.heap.size from by simpa using hm]; omega))
          have T3 := (T1.up ht2).setCell (p := ⟨w1.heap.size, 2, none⟩) (.inr (by simp; omega)) (.string (S s))
          have hb3 := ((Touch.refl [w1.heap.size] w2).setCell (p := ⟨w1.heap.size, 2, none⟩) (.inl (by simp)) (.string (S s))).blk hb2 (by simp; omega)
          have hbx3 := set_blk hbx2 2 (.string (S s))
          go_wp2_with fail
          refine (Hright.out _).mono ?_
          rintro e w4 ⟨rfl, t4⟩
          have hb4 := t4.blk hb3 (by simp)
          have hbx4 := t4.blk hbx3 (by simp)
          have hi4 := hi3.touch t4 (by simp) (fun _ _ => by simp)
          have T4 := T3.up0 t4
          clear d0 d1 d2 fr0 fr1 fr2 x0 x1 x2 y0 y1 y2 hc02 hc12 hfr2 hfr12
          obtain ⟨c4, hc4, hg4, hgl4, hc04, hc14, hfr4, hfr14⟩ := hi4.mk'
          obtain ⟨d0, d1, d2, fr0, fr1, fr2, hwl4⟩ := blk3 hb4
          obtain ⟨x0, x1, x2, y0, y1, y2, hxl4⟩ := blk3 hbx4
          go_wp2_with fail
          obtain ⟨q1, q2⟩ := out3 (.int .i64 0) (.int .i64 0) (.string ⟨#[]⟩) (((Touch.refl [g] w4).setCell (p := ⟨g, 1, none⟩) (.inl (by simp)) (.bool true)).blk hb4 (by simp; omega))
          (try simp only [Exit.inBlock, Exit.then])
          refine bodyPost_ret (results_cell_row rfl _ _ w.heap.size _ _ _ _ rfl q1 Tryd.underlying59 rfl rfl) rfl ?_
          unfold ValuePost
          rw [Hv.out]
          exact ⟨rfl, _, In_fin hgl hA hf2' (T4.setCell (p := ⟨g, 1, none⟩) (.inl (by simp)) (.bool true)) hi4.spoilt [w.heap.size] q2 hfpR⟩
        · have Hv := Lib.hid (show rdV l = some (⟨2, 0, S s⟩, l2) by unfold rdV; rw [Hr.out]; simp [hr2, hb0])
          rw [hb0] at hright
          have Hright := Lib.hid hright
          clear hright hb0
          clear hint2 hr2 hc01 hc11 hfr1 hfr11
          go_wp2_with fail
          refine Hint2.out.mono ?_
          rintro e w2 ⟨rfl, A2, hi2, ht2, hf2⟩
          obtain ⟨c2, hc2, hg2, hgl2, hc02, hc12, hfr2, hfr12⟩ := hi2.mk'
          have hb2 := ht2.blk (tbx.blk hb1 (by simp)) (by simp; omega)
          have hbx2 := ht2.blk hbx (by simp; omega)
          obtain ⟨d0, d1, d2, fr0, fr1, fr2, hwl2⟩ := blk3 hb2
          obtain ⟨x0, x1, x2, y0, y1, y2, hxl⟩ := blk3 hbx2
          have hf2' : ∀ b ∈ fpo A2, b ∈ fpo A := fun b hb => hf1 b (hf2 b hb)
          have hi3 := hi2.touch1 ((Touch.refl [w1.heap.size] w2).setCell (p := ⟨w1.heap.size, 2, none⟩) (.inl (by simp)) (.string (S s))) (by simp; omega) (fun _ b hb hm => absurd (hA b (hf2' b hb)) (by rw [show b = w1.heap.size from by simpa using hm]; omega))
          have T3 := (T1.up ht2).setCell (p := ⟨w1.heap.size, 2, none⟩) (.inr (by simp; omega)) (.string (S s))
          have hb3 := ((Touch.refl [w1.heap.size] w2).setCell (p := ⟨w1.heap.size, 2, none⟩) (.inl (by simp)) (.string (S s))).blk hb2 (by simp; omega)
          have hbx3 := set_blk hbx2 2 (.string (S s))
          go_wp2_with fail
          refine (Hright.out _).mono ?_
          rintro e w4 ⟨rfl, t4⟩
          have hb4 := t4.blk hb3 (by simp)
          have hbx4 := t4.blk hbx3 (by simp)
          have hi4 := hi3.touch t4 (by simp) (fun _ _ => by simp)
          have T4 := T3.up0 t4
          clear d0 d1 d2 fr0 fr1 fr2 x0 x1 x2 y0 y1 y2 hc02 hc12 hfr2 hfr12
          obtain ⟨c4, hc4, hg4, hgl4, hc04, hc14, hfr4, hfr14⟩ := hi4.mk'
          obtain ⟨d0, d1, d2, fr0, fr1, fr2, hwl4⟩ := blk3 hb4
          obtain ⟨x0, x1, x2, y0, y1, y2, hxl4⟩ := blk3 hbx4
          go_wp2_with fail
          obtain ⟨q1, q2⟩ := out3 (.int .i64 2) (.int .i64 0) (.string (S s)) hb4
          (try simp only [Exit.inBlock, Exit.then])
          refine bodyPost_ret (results_cell_row rfl _ _ w.heap.size _ _ _ _ rfl q1 Tryd.underlying59 rfl rfl) rfl ?_
          unfold ValuePost
          rw [Hv.out]
          exact ⟨rfl, In_fin hgl hA hf2' T4 hi4 [w.heap.size] q2 hfpR⟩
    have Hv := Lib.hid (show rdV l = none by unfold rdV; rw [Hr.out]; simp [h0, h1, h2])
    have hq0 : (k == 0) = false := by rw [beq_eq_false_iff_ne]; exact h0
    have hq1 : (k == 1) = false := by rw [beq_eq_false_iff_ne]; exact h1
    have hq2 : (k == 2) = false := by rw [beq_eq_false_iff_ne]; exact h2
    go_wp2_with fail
    refine Hint.out.mono ?_
    rintro e w1 ⟨rfl, A1, hi1, ht1, hf1⟩
    obtain ⟨c1, hc1, hg1, hgl1, hc01, hc11, hfr1, hfr11⟩ := hi1.mk'
    have hb1 := ht1.blk hb (by simp; omega)
    obtain ⟨d0, d1, d2, fr0, fr1, fr2, hwl1⟩ := blk3 hb1
    go_wp2_with fail
    obtain ⟨q1, q2⟩ := out3 (.int .i64 0) (.int .i64 0) (.string ⟨#[]⟩) ((((Touch.refl [g] w1).setCell (p := ⟨g, 1, none⟩) (.inl (by simp)) (.bool true)).setCell (p := ⟨g, 1, none⟩) (.inl (by simp)) (.bool true)).blk hb1 (by simp; omega))
    (try simp only [Exit.inBlock, Exit.then])
    refine bodyPost_ret (results_cell_row rfl _ _ w.heap.size _ _ _ _ rfl (((Touch.refl [] _).alloc _).blk q1 (by simp)) Tryd.underlying59 rfl rfl) rfl ?_
    unfold ValuePost
    rw [Hv.out]
    exact ⟨rfl, _, In_end hgl hA hf1 t0 ((ht1.setCell (p := ⟨g, 1, none⟩) (.inl (by simp)) (.bool true)).setCell (p := ⟨g, 1, none⟩) (.inl (by simp)) (.bool true)) hi1.spoilt.spoilt [w.heap.size] (q2.alloc _) hfpR⟩
end Go.Proofs.YtgpadejkmpfafaaDoor

/- slices.ContainsFunc, table.fit, slices.IsSortedFunc, table.Table.Check: for every schema and rows. -/
namespace Go.Proofs.YtgpadejkmpfafaaDoor
open Go.RowKit

/-- rows that are within bounds -/
def RowsOk (rows : List (List VD)) : Prop := ∀ r ∈ rows, r.length ≤ 140737000000000 ∧ ∀ v ∈ r, v.Ok 140737000000000

set_option maxHeartbeats 800000 in
theorem contains_any (B : Nat) (SA : Option Addr) (cap n : Nat) (cs : List CD) (hn : cs.length = n) (hok : ∀ c ∈ cs, c.Ok) (hc0 : checkV cs = 0) (A : Option Addr) (c m : Nat) (rows : List (List VD)) (hm : rows.length = m) (hvk : RowsOk rows) (w : World)
    (hB : w.cell? ⟨B, 0, none⟩ = some (.slice SA n cap)) (h : ColsAt w SA cs) (hv : RowsAt w A rows) (hl : n ≤ 140737000000000) (hl2 : m ≤ 140737000000000) :
    Calls Tryd.prog 57 #[.slice A m c, .func (.func 58) #[] #[.pointer (some ⟨B, 0, none⟩)]] w fun e w' => e = .returned (.bool (!rows.all (fitR cs))) ∧ Touch [] w w' := by
  have hi := indexRows_any B SA cap n cs hn hok hc0 A c m rows hm hvk w hB h hv hl hl2
  have Hi := Lib.hid hi
  clear hi
  go_enter Tryd.func57, Tryd.ntmps57
  go_wp2_with fail
  refine Hi.out.mono ?_
  rintro e w1 ⟨⟨i, rfl, i1, i2, i3⟩, t1⟩
  have I3 := Lib.hid i3
  clear i3
  go_wp2
  go_ret
  exact ⟨ret_bool (by rw [← I3.out]), t1⟩

set_option maxRecDepth 20000 in
set_option maxHeartbeats 1600000 in
theorem fit_any (SA : Option Addr) (cap n : Nat) (cs : List CD) (hn : cs.length = n) (hok : ∀ c ∈ cs, c.Ok) (A : Option Addr) (c m : Nat) (rows : List (List VD)) (hm : rows.length = m) (hvk : RowsOk rows) (w : World)
    (h : ColsAt w SA cs) (hv : RowsAt w A rows) (hl : n ≤ 140737000000000) (hl2 : m ≤ 140737000000000) :
    Calls Tryd.prog 45 #[.slice SA n cap, .slice A m c] w fun e w' => e = .returned (.int .i64 (fitV cs rows)) ∧ Touch [] w w' := by
  have t0 := (Touch.refl [] w).alloc (.cells #[.slice SA n cap] 53)
  have hb0 := heap_alloc_new w (.cells #[.slice SA n cap] 53)
  have hck := check_any SA cap n cs hn hok _ (h.touch0 t0) (by omega)
  by_cases hc : checkV cs = 0
  · rw [hc] at hck
    have Hck := Lib.hid hck
    have Hcf := Lib.hid fun w' (t : Touch [] (w.alloc (.cells #[.slice SA n cap] 53)) w') => contains_any w.heap.size SA cap n cs hn hok hc A c m rows hm hvk w' (t.cell (cell_blk hb0 (i := 0) rfl) (by simp)) (h.touch0 (t0.trans0 t)) (hv.touch0 (t0.trans0 t)) hl hl2
    have Hfv := Lib.hid (show fitV cs rows = if 4096 < rows.length then 31 else if rows.all (fitR cs) = true then 0 else 12 by unfold fitV; rw [if_pos hc])
    have Hm := Lib.hid hm
    clear hck hc hm hvk hok
    by_cases h4 : 4096 < m
    · have Hq := Lib.hid (show fitV cs rows = 31 by rw [Hfv.out, Hm.out, if_pos h4])
      go_enter Tryd.func45, Tryd.ntmps45
      go_wp2_with fail
      refine Hck.out.mono ?_
      rintro e w1 ⟨rfl, t1⟩
      go_wp2
      go_ret
      exact ⟨ret_int Hq.out.symm, t0.trans0 t1⟩
    · rcases ha : rows.all (fitR cs) with _ | _
      · have Hq := Lib.hid (show fitV cs rows = 12 by rw [Hfv.out, Hm.out, if_neg h4, ha]; rfl)
        rw [ha] at Hcf
        clear ha
        go_enter Tryd.func45, Tryd.ntmps45
        go_wp2_with fail
        refine Hck.out.mono ?_
        rintro e w1 ⟨rfl, t1⟩
        go_wp2_with fail
        refine (Hcf.out _ t1).mono ?_
        rintro e w2 ⟨rfl, t2⟩
        go_wp2
        go_ret
        exact ⟨ret_int Hq.out.symm, (t0.trans0 t1).trans0 t2⟩
      · have Hq := Lib.hid (show fitV cs rows = 0 by rw [Hfv.out, Hm.out, if_neg h4, ha]; rfl)
        rw [ha] at Hcf
        clear ha
        go_enter Tryd.func45, Tryd.ntmps45
        go_wp2_with fail
        refine Hck.out.mono ?_
        rintro e w1 ⟨rfl, t1⟩
        go_wp2_with fail
        refine (Hcf.out _ t1).mono ?_
        rintro e w2 ⟨rfl, t2⟩
        go_wp2
        go_ret
        exact ⟨ret_int Hq.out.symm, (t0.trans0 t1).trans0 t2⟩
  · have Hck := Lib.hid hck
    have hfv : fitV cs rows = checkV cs := by unfold fitV; rw [if_neg hc]
    rw [hfv]
    obtain ⟨k, hk⟩ : ∃ k, k = checkV cs := ⟨_, rfl⟩
    rw [← hk]
    rw [← hk] at Hck hc
    have hq : (k == 0) = false := by rw [beq_eq_false_iff_ne]; exact hc
    have hq' : (k != 0) = true := by rw [bne, hq]; rfl
    clear hck hfv hk
    go_enter Tryd.func45, Tryd.ntmps45
    go_wp2_with fail
    refine Hck.out.mono ?_
    rintro e w1 ⟨rfl, t1⟩
    go_wp2
    go_ret
    exact ⟨rfl, t0.trans0 t1⟩

theorem fitV_cases (cs : List CD) (rows : List (List VD)) : fitV cs rows = 0 ∨ fitV cs rows ≠ 0 := by omega

theorem sorted_no {rows : List (List VD)} {p : Nat} (h : p + 1 < rows.length) (hb : cmpRV (rows[p + 1]) (rows[p]) < 0) : sortedV rows = false := by
  unfold sortedV
  rw [List.all_eq_false]
  refine ⟨p, List.mem_range.2 (by omega), ?_⟩
  rw [List.getD_eq_getElem?_getD, List.getD_eq_getElem?_getD, List.getElem?_eq_getElem h, List.getElem?_eq_getElem (by omega : p < rows.length)]
  simpa using hb
theorem sorted_yes {rows : List (List VD)} (h : ∀ p (hp : p + 1 < rows.length), 0 ≤ cmpRV (rows[p + 1]) (rows[p])) : sortedV rows = true := by
  unfold sortedV
  rw [List.all_eq_true]
  intro p hp
  have hp' : p + 1 < rows.length := by have := List.mem_range.1 hp; omega
  rw [List.getD_eq_getElem?_getD, List.getD_eq_getElem?_getD, List.getElem?_eq_getElem hp', List.getElem?_eq_getElem (by omega : p < rows.length)]
  simpa using h p hp'

set_option maxRecDepth 20000 in
set_option maxHeartbeats 1600000 in
theorem isSorted_any (A : Option Addr) (c m : Nat) (rows : List (List VD)) (hm : rows.length = m) (hvk : RowsOk rows) (w : World) (hv : RowsAt w A rows) (hl2 : m ≤ 140737000000000) :
    Calls Tryd.prog 46 #[.slice A m c, .func (.func 47) #[] #[]] w fun e w' => e = .returned (.bool (sortedV rows)) ∧ Touch [] w w' := by
  subst hm
  have hn1 : IntKind.i64.wrap ((rows.length : Int) - 1) = (rows.length : Int) - 1 := IntWalk.i64_in _ (by omega)
  go_enter Tryd.func46, Tryd.ntmps46
  go_wp2
  clear hn1
  go_loopw [5] (fun i wr => ∃ j : Nat, j ≤ rows.length ∧ i = .int .i64 ((j : Int) - 1) ∧ Hid (∀ p (hp : p + 1 < rows.length), j ≤ p + 1 → 0 ≤ cmpRV (rows[p + 1]) (rows[p])) ∧ Touch [] w wr) (fun i _ => (intOf i + 1).toNat)
  case atStart => exact ⟨rows.length, Nat.le_refl _, rfl, Lib.hid (fun p hp h => by omega), Touch.refl _ _⟩
  case round =>
    obtain ⟨j, hj, rfl, Hs, ht⟩ := hrel
    by_cases h2 : 2 ≤ j
    · obtain ⟨p, rfl⟩ : ∃ p, j = p + 2 := ⟨j - 2, by omega⟩
      have hp1 : p + 1 < rows.length := by omega
      have hp0 : p < rows.length := by omega
      obtain ⟨bd, A1, c1, rfl, e1, hr1⟩ := (hv.touch0 ht).at_ (p + 1) hp1
      obtain ⟨bd2, A2, c2, hbd, e2, hr2⟩ := (hv.touch0 ht).at_ p hp0
      obtain rfl : bd = bd2 := by injection hbd
      have hv1 := hvk _ (List.getElem_mem hp1)
      have hv2 := hvk _ (List.getElem_mem hp0)
      have hno := fun h => sorted_no (rows := rows) hp1 h
      obtain ⟨r1, hr1e⟩ : ∃ r, r = rows[p + 1] := ⟨_, rfl⟩
      obtain ⟨r2, hr2e⟩ : ∃ r, r = rows[p] := ⟨_, rfl⟩
      rw [← hr1e] at e1 hr1 hv1 hno
      rw [← hr2e] at e2 hr2 hv2 hno
      have hcv := fun w' (t : Touch [] wr w') => cmpRows_any A1 A2 c1 c2 r1.length r2.length r1 r2 rfl rfl w' (hr1.touch0 t) (hr2.touch0 t) hv1.1 hv2.1
      have hcb := cmpRV_b r1 r2
      obtain ⟨x, hx⟩ : ∃ x, x = cmpRV r1 r2 := ⟨_, rfl⟩
      rw [← hx] at hcv hno hcb
      have Hcv := Lib.hid hcv
      have Hno := Lib.hid hno
      have Hx := Lib.hid hx
      have Hr1 := Lib.hid hr1e; have Hr2 := Lib.hid hr2e
      obtain ⟨q, hq⟩ : ∃ q, q = p + 1 := ⟨_, rfl⟩
      have hi : (((p + 2 : Nat) : Int) - 1) = (q : Int) := by omega
      rw [hi]
      rw [← hq] at e1
      have hw : IntKind.i64.wrap ((q : Int) - 1) = (p : Int) := by rw [IntWalk.i64_in _ (by omega)]; omega
      have hq0 : (0 : Int) < (q : Int) := by omega
      have hq00 : (0 : Int) ≤ (q : Int) := by omega
      have hqn : (q : Int) < (rows.length : Int) := by omega
      have hpp : (0 : Int) ≤ (p : Int) := by omega
      have hpn : (p : Int) < (rows.length : Int) := by omega
      have g1 := TW.cell e1
      have g2 := TW.cell e2
      have Hq := Lib.hid hq
      clear hcv hno hx hr1e hr2e hi hq e1 e2 hr1 hr2 hv1 hv2 hbd
      by_cases hx0 : x < 0
      · have Hf := Lib.hid (Hno.out hx0)
        go_wp2
        refine wp_region_tw wr (Touch.refl _ _) (by kernel_rfl) (by kernel_rfl) ?_
        repeat (go_big_quiet_step (((go_at_call 47; exact Calls.tw _ (Hcv.out _ (TW.t _))))))
        refine wpQuiet_nil ?_
        rintro _ ⟨x2, rfl⟩
        go_wp2
        go_ret
        exact ⟨ret_bool (by rw [Hf.out]), ht.trans0 x2.t⟩
      · have Hg := Lib.hid (show ∀ p' (hp : p' + 1 < rows.length), q ≤ p' + 1 → 0 ≤ cmpRV (rows[p' + 1]) (rows[p']) from fun p' hp h => by
          by_cases he : p + 2 ≤ p' + 1
          · exact Hs.out p' hp he
          · obtain rfl : p' = p := by have := Hq.out; omega
            rw [← Hr1.out, ← Hr2.out, ← Hx.out]; omega)
        go_wp2
        refine wp_region_tw wr (Touch.refl _ _) (by kernel_rfl) (by kernel_rfl) ?_
        repeat (go_big_quiet_step (((go_at_call 47; exact Calls.tw _ (Hcv.out _ (TW.t _))))))
        refine wpQuiet_nil ?_
        rintro _ ⟨x2, rfl⟩
        go_wp2
        go_roundw
        case rel => exact ⟨q, by omega, by have := Hq.out; first | omega | (congr 1; omega), Hg, ht.trans0 x2.t⟩
        case measure => simp [intOf]; have := Hq.out; omega
    · have Hf := Lib.hid (show sortedV rows = true from sorted_yes fun p hp => Hs.out p hp (by omega))
      have hle : ¬ (0 : Int) < (j : Int) - 1 := by omega
      go_wp2
      go_ret
      exact ⟨ret_bool (by rw [Hf.out]), ht⟩

set_option maxRecDepth 20000 in
set_option maxHeartbeats 1600000 in
theorem checkT_any (SA : Option Addr) (cap n : Nat) (cs : List CD) (hn : cs.length = n) (hok : ∀ c ∈ cs, c.Ok) (A : Option Addr) (c m : Nat) (rows : List (List VD)) (hm : rows.length = m) (hvk : RowsOk rows) (w : World)
    (h : ColsAt w SA cs) (hv : RowsAt w A rows) (hl : n ≤ 140737000000000) (hl2 : m ≤ 140737000000000) :
    Calls Tryd.prog 30 #[.agg #[.slice SA n cap, .slice A m c]] w fun e w' => e = .returned (.int .i64 (checkT cs rows)) ∧ Touch [] w w' := by
  have t0 := (Touch.refl [] w).alloc (.cells #[.slice SA n cap, .slice A m c] 56)
  have hb0 := heap_alloc_new w (.cells #[.slice SA n cap, .slice A m c] 56)
  have Hf := Lib.hid (fit_any SA cap n cs hn hok A c m rows hm hvk _ (h.touch0 t0) (hv.touch0 t0) hl hl2)
  have Hs := Lib.hid fun w' (t : Touch [] w w') => isSorted_any A c m rows hm hvk w' (hv.touch0 t) hl2
  have Hct := Lib.hid (show checkT cs rows = if fitV cs rows = 0 then (if sortedV rows = true then 0 else 20) else fitV cs rows from rfl)
  obtain ⟨k, hk⟩ : ∃ k, k = fitV cs rows := ⟨_, rfl⟩
  rw [← hk] at Hf Hct
  have Hb0 := Lib.hid hb0
  clear hb0 hk
  by_cases h0 : k = 0
  · subst h0
    obtain ⟨b, hb⟩ : ∃ b, b = sortedV rows := ⟨_, rfl⟩
    rw [← hb] at Hs Hct
    clear hb
    cases b
    · have Hq := Lib.hid (show checkT cs rows = 20 from Hct.out)
      go_enter Tryd.func30, Tryd.ntmps30
      go_wp2_with fail
      refine Hf.out.mono ?_
      rintro e w1 ⟨rfl, t1⟩
      have e1 := t1.cell (cell_blk Hb0.out (i := 1) rfl) (by simp)
      go_wp2_with fail
      refine (Hs.out _ (t0.trans0 t1)).mono ?_
      rintro e w2 ⟨rfl, t2⟩
      go_wp2
      go_ret
      exact ⟨ret_int Hq.out.symm, (t0.trans0 t1).trans0 t2⟩
    · have Hq := Lib.hid (show checkT cs rows = 0 from Hct.out)
      go_enter Tryd.func30, Tryd.ntmps30
      go_wp2_with fail
      refine Hf.out.mono ?_
      rintro e w1 ⟨rfl, t1⟩
      have e1 := t1.cell (cell_blk Hb0.out (i := 1) rfl) (by simp)
      go_wp2_with fail
      refine (Hs.out _ (t0.trans0 t1)).mono ?_
      rintro e w2 ⟨rfl, t2⟩
      go_wp2
      go_ret
      exact ⟨ret_int Hq.out.symm, (t0.trans0 t1).trans0 t2⟩
  · have Hq := Lib.hid (show checkT cs rows = k by rw [Hct.out, if_neg h0])
    have hq : (k == 0) = false := by rw [beq_eq_false_iff_ne]; exact h0
    have hq' : (k != 0) = true := by rw [bne, hq]; rfl
    go_enter Tryd.func30, Tryd.ntmps30
    go_wp2_with fail
    refine Hf.out.mono ?_
    rintro e w1 ⟨rfl, t1⟩
    go_wp2
    go_ret
    exact ⟨ret_int Hq.out.symm, t0.trans0 t1⟩
end Go.Proofs.YtgpadejkmpfafaaDoor

/- frame.In's methods on an In that is right or bad: what comes out, in one contract each. For every In. -/
namespace Go.Proofs.YtgpadejkmpfafaaDoor
open Go.RowKit

/-- what a reading comes to: bad behind it, or read -/
def RX {α : Type} (r : Option (α × List UInt8)) (bad : Bool) (x : α) (l' : List UInt8) (bad' : Bool) : Prop :=
  (bad' = true ∧ (bad = true ∨ r = none)) ∨ (bad = false ∧ bad' = false ∧ r = some (x, l'))

theorem inText_x (g : Nat) (A : Option Addr) (l : List UInt8) (bad : Bool) (w : World) (hi : InAt w g A l bad) :
    Calls Tryd.prog 19 #[.pointer (some ⟨g, 0, none⟩)] w fun e w' => ∃ s l' bad', e = .returned (.string (S s)) ∧ InPost g A l' bad' w w' ∧ RX (rdT l) bad s l' bad' := by
  cases bad
  · refine (inText_ok g A l w hi).mono fun e w' h => ?_
    unfold TextPost at h
    rcases hr : rdT l with _ | ⟨s, l1⟩
    · rw [hr] at h
      obtain ⟨rfl, l', hp⟩ := h
      exact ⟨[], l', true, rfl, hp, .inl ⟨rfl, .inr rfl⟩⟩
    · rw [hr] at h
      exact ⟨s, l1, false, h.1, h.2, .inr ⟨rfl, rfl, rfl⟩⟩
  · exact (inText_bad g A l w hi).mono fun e w' h => ⟨[], l, true, h.1, h.2, .inl ⟨rfl, .inl rfl⟩⟩
theorem inInt_x (g : Nat) (A : Option Addr) (l : List UInt8) (bad : Bool) (w : World) (hi : InAt w g A l bad) :
    Calls Tryd.prog 18 #[.pointer (some ⟨g, 0, none⟩)] w fun e w' => ∃ n l' bad', e = .returned (.int .i64 n) ∧ InPost g A l' bad' w w' ∧ RX (rdI l) bad n l' bad' ∧ -9223372036854775808 ≤ n ∧ n ≤ 9223372036854775807 := by
  cases bad
  · refine (inInt_ok g A l w hi).mono fun e w' h => ?_
    unfold IntPost at h
    rcases hr : rdI l with _ | ⟨s, l1⟩
    · rw [hr] at h
      obtain ⟨rfl, l', hp⟩ := h
      exact ⟨0, l', true, rfl, hp, .inl ⟨rfl, .inr rfl⟩, by omega, by omega⟩
    · have hb := rdI_bounds hr
      rw [hr] at h
      exact ⟨s, l1, false, h.1, h.2, .inr ⟨rfl, rfl, rfl⟩, hb.1, hb.2⟩
  · exact (inInt_bad g A l w hi).mono fun e w' h => ⟨0, l, true, h.1, h.2, .inl ⟨rfl, .inl rfl⟩, by omega, by omega⟩
theorem rdC_le {most : Int} {l l1 : List UInt8} {n : Int} (h : rdC most l = some (n, l1)) : 0 ≤ n ∧ n ≤ most ∧ l1.length ≤ l.length := by
  unfold rdC at h
  rcases hr : rdI l with _ | ⟨k, l'⟩
  · rw [hr] at h; cases h
  · have := rdI_len hr
    rw [hr] at h
    dsimp only at h
    split at h
    · cases h
    · cases h
      omega
theorem inCount_x (g : Nat) (A : Option Addr) (l : List UInt8) (bad : Bool) (most : Int) (hm : 0 ≤ most) (w : World) (hi : InAt w g A l bad) :
    Calls Tryd.prog 23 #[.pointer (some ⟨g, 0, none⟩), .int .i64 most] w fun e w' => ∃ n l' bad', e = .returned (.int .i64 n) ∧ InPost g A l' bad' w w' ∧ RX (rdC most l) bad n l' bad' ∧ 0 ≤ n ∧ n ≤ most := by
  cases bad
  · refine (inCount_ok g A l most w hi).mono fun e w' h => ?_
    unfold CountPost at h
    rcases hr : rdC most l with _ | ⟨s, l1⟩
    · rw [hr] at h
      obtain ⟨rfl, l', hp⟩ := h
      exact ⟨0, l', true, rfl, hp, .inl ⟨rfl, .inr rfl⟩, by omega, hm⟩
    · have hb := rdC_le hr
      rw [hr] at h
      exact ⟨s, l1, false, h.1, h.2, .inr ⟨rfl, rfl, rfl⟩, hb.1, hb.2.1⟩
  · exact (inCount_bad g A l most w hi).mono fun e w' h => ⟨0, l, true, h.1, h.2, .inl ⟨rfl, .inl rfl⟩, by omega, hm⟩
theorem rdV_ok {l l1 : List UInt8} {v : VD} (h : rdV l = some (v, l1)) (hl : l.length ≤ 140737000000000) : v.Ok 140737000000000 ∧ l1.length ≤ l.length := by
  unfold rdV at h
  rcases hr : rdI l with _ | ⟨k, l'⟩
  · rw [hr] at h; cases h
  · have h1 := rdI_len hr
    rw [hr] at h
    dsimp only at h
    split at h
    · cases h
      exact ⟨⟨by simp [zeroVD], by simp [zeroVD], Nat.zero_le 140737000000000⟩, h1⟩
    · split at h
      · rcases hr2 : rdI l' with _ | ⟨n, l2⟩
        · rw [hr2] at h; cases h
        · have h2 := rdI_len hr2
          have hb := rdI_bounds hr2
          rw [hr2] at h
          cases h
          exact ⟨⟨by simp, hb, Nat.zero_le _⟩, by omega⟩
      · split at h
        · rcases hr2 : rdT l' with _ | ⟨s, l2⟩
          · rw [hr2] at h; cases h
          · have h2 := rdT_len hr2
            rw [hr2] at h
            dsimp only at h
            split at h
            · cases h
              exact ⟨⟨by simp, by simp, by rw [S_size]; omega⟩, by omega⟩
            · cases h
        · cases h
theorem inValue_x (g : Nat) (A : Option Addr) (l : List UInt8) (bad : Bool) (w : World) (hi : InAt w g A l bad) (hA : ∀ b ∈ fpo A, b < w.heap.size) (hsm : bad = false → l.length ≤ 140737000000000) :
    Calls Tryd.prog 29 #[.pointer (some ⟨g, 0, none⟩)] w fun e w' => ∃ v l' bad', e = .returned v.val ∧ InPost g A l' bad' w w' ∧ RX (rdV l) bad v l' bad' := by
  cases bad
  · refine (inValue_ok g A l w hi hA (hsm rfl)).mono fun e w' h => ?_
    unfold ValuePost at h
    rcases hr : rdV l with _ | ⟨s, l1⟩
    · rw [hr] at h
      obtain ⟨rfl, l', hp⟩ := h
      exact ⟨zeroVD, l', true, rfl, hp, .inl ⟨rfl, .inr rfl⟩⟩
    · rw [hr] at h
      exact ⟨s, l1, false, h.1, h.2, .inr ⟨rfl, rfl, rfl⟩⟩
  · exact (inValue_bad g A l w hi).mono fun e w' h => ⟨zeroVD, l, true, h.1, h.2, .inl ⟨rfl, .inl rfl⟩⟩

/-- so many columns; values of a row; rows -/
def rdCs : Nat → List UInt8 → Option (List CD × List UInt8)
  | 0, l => some ([], l)
  | k + 1, l => match rdCs k l with
    | none => none
    | some (cs, m) => match rdT m with
      | none => none
      | some (s, m1) => match rdI m1 with
        | none => none
        | some (t, m2) => some (cs ++ [⟨S s, t⟩], m2)
def rdVs : Nat → List UInt8 → Option (List VD × List UInt8)
  | 0, l => some ([], l)
  | k + 1, l => match rdVs k l with
    | none => none
    | some (vs, m) => match rdV m with
      | none => none
      | some (v, m1) => some (vs ++ [v], m1)
def rdRs (n : Nat) : Nat → List UInt8 → Option (List (List VD) × List UInt8)
  | 0, l => some ([], l)
  | k + 1, l => match rdRs n k l with
    | none => none
    | some (rows, m) => match rdVs n m with
      | none => none
      | some (r, m1) => some (rows ++ [r], m1)
def rdTab (l : List UInt8) : Option ((List CD × List (List VD)) × List UInt8) :=
  match rdC 16 l with
  | none => none
  | some (n, l1) => match rdCs n.toNat l1 with
    | none => none
    | some (cs, l2) => match rdC 4096 l2 with
      | none => none
      | some (m, l3) => match rdRs n.toNat m.toNat l3 with
        | none => none
        | some (rows, l4) => if checkT cs rows = 0 then some ((cs, rows), l4) else none
theorem rdCs_ok {k : Nat} {l m : List UInt8} {cs : List CD} (h : rdCs k l = some (cs, m)) (hl : l.length ≤ 140737000000000) : cs.length = k ∧ (∀ c ∈ cs, c.Ok) ∧ m.length ≤ l.length := by
  induction k generalizing cs m with
  | zero => cases h; exact ⟨rfl, by simp, Nat.le_refl _⟩
  | succ k ih =>
    unfold rdCs at h
    rcases h1 : rdCs k l with _ | ⟨cs1, m1⟩
    · rw [h1] at h; cases h
    · obtain ⟨i1, i2, i3⟩ := ih h1
      rw [h1] at h
      dsimp only at h
      rcases h2 : rdT m1 with _ | ⟨s, m2⟩
      · rw [h2] at h; cases h
      · have e2 := rdT_len h2
        rw [h2] at h
        dsimp only at h
        rcases h3 : rdI m2 with _ | ⟨t, m3⟩
        · rw [h3] at h; cases h
        · have e3 := rdI_len h3
          have e4 := rdI_bounds h3
          rw [h3] at h
          cases h
          refine ⟨by rw [List.length_append, i1]; rfl, fun c hc => ?_, by omega⟩
          rcases List.mem_append.1 hc with q | q
          · exact i2 c q
          · simp only [List.mem_singleton] at q
            subst q
            exact ⟨by rw [S_size]; omega, e4⟩
theorem rdVs_ok {k : Nat} {l m : List UInt8} {vs : List VD} (h : rdVs k l = some (vs, m)) (hl : l.length ≤ 140737000000000) : vs.length = k ∧ (∀ c ∈ vs, c.Ok 140737000000000) ∧ m.length ≤ l.length := by
  induction k generalizing vs m with
  | zero => cases h; exact ⟨rfl, by simp, Nat.le_refl _⟩
  | succ k ih =>
    unfold rdVs at h
    rcases h1 : rdVs k l with _ | ⟨cs1, m1⟩
    · rw [h1] at h; cases h
    · obtain ⟨i1, i2, i3⟩ := ih h1
      rw [h1] at h
      dsimp only at h
      rcases h2 : rdV m1 with _ | ⟨s, m2⟩
      · rw [h2] at h; cases h
      · have e2 := rdV_ok h2 (by omega)
        rw [h2] at h
        cases h
        refine ⟨by rw [List.length_append, i1]; rfl, fun c hc => ?_, by omega⟩
        rcases List.mem_append.1 hc with q | q
        · exact i2 c q
        · simp only [List.mem_singleton] at q
          subst q
          exact e2.1
theorem rdRs_ok {n k : Nat} {l m : List UInt8} {rows : List (List VD)} (h : rdRs n k l = some (rows, m)) (hl : l.length ≤ 140737000000000) (hn : n ≤ 140737000000000) : rows.length = k ∧ RowsOk rows ∧ m.length ≤ l.length := by
  induction k generalizing rows m with
  | zero => cases h; exact ⟨rfl, fun r hr => by simp at hr, Nat.le_refl _⟩
  | succ k ih =>
    unfold rdRs at h
    rcases h1 : rdRs n k l with _ | ⟨cs1, m1⟩
    · rw [h1] at h; cases h
    · obtain ⟨i1, i2, i3⟩ := ih h1
      rw [h1] at h
      dsimp only at h
      rcases h2 : rdVs n m1 with _ | ⟨s, m2⟩
      · rw [h2] at h; cases h
      · have e2 := rdVs_ok h2 (by omega)
        rw [h2] at h
        cases h
        refine ⟨by rw [List.length_append, i1]; rfl, fun c hc => ?_, by omega⟩
        rcases List.mem_append.1 hc with q | q
        · exact i2 c q
        · simp only [List.mem_singleton] at q
          subst q
          exact ⟨by omega, e2.2.1⟩
end Go.Proofs.YtgpadejkmpfafaaDoor

/- bywashref07.Table: a table's bytes, as the document says. For every table within bounds. -/
namespace Go.Proofs.YtgpadejkmpfafaaDoor
open Go.RowKit

def encC (c : CD) : List UInt8 := encT c.name ++ encI c.typ
def encTab (cs : List CD) (rows : List (List VD)) : List UInt8 := encI cs.length ++ (cs.flatMap encC ++ (encI rows.length ++ rows.flatMap fun r => r.flatMap encV))
theorem flat_len {α : Type} (f : α → List UInt8) (m : Nat) (xs : List α) (h : ∀ x ∈ xs, (f x).length ≤ m) : (xs.flatMap f).length ≤ xs.length * m := by
  induction xs with
  | nil => simp
  | cons x xs ih =>
    rw [List.flatMap_cons, List.length_append, List.length_cons, Nat.add_mul]
    have h1 := h x List.mem_cons_self
    have h2 := ih fun y hy => h y (List.mem_cons_of_mem _ hy)
    omega
theorem encC_len (c : CD) (h : c.name.size ≤ 1000) : (encC c).length ≤ 1018 := by
  unfold encC
  have h1 := encT_length c.name
  have h2 := encI_length c.name.size
  have h3 := encI_length c.typ
  rw [List.length_append]
  omega
theorem encV_len (v : VD) (h : v.text.size ≤ 1000) : (encV v).length ≤ 1018 := by
  unfold encV
  have h1 := encT_length v.text
  have h2 := encI_length v.text.size
  have h3 := encI_length v.kind
  have h4 := encI_length v.num
  simp only [List.length_append]
  split
  · omega
  · split
    · omega
    · simp only [List.length_nil]; omega
/-- bytes that were made behind a world -/
structure MB (w : World) (A : Option Addr) (c : Nat) (l : List UInt8) (w' : World) : Prop where
  own : OwnB w' A c l
  t : Touch [] w w'
  f : ∀ b ∈ fpo A, w.heap.size ≤ b
theorem MB.touch0 {w w1 w2 : World} {A : Option Addr} {c : Nat} {l : List UInt8} (h : MB w A c l w1) (ht : Touch [] w1 w2) : MB w A c l w2 := ⟨h.own.touch0 ht, h.t.trans0 ht, h.f⟩
theorem MB.step {w w1 w2 : World} {A A' : Option Addr} {c c' : Nat} {l l' : List UInt8} (h : MB w A c l w1) (h2 : OwnB w2 A' c' l') (t2 : Touch (fpo A) w1 w2) (f2 : ∀ b ∈ fpo A', b ∈ fpo A ∨ w1.heap.size ≤ b) : MB w A' c' l' w2 :=
  ⟨h2, h.t.trans t2 (fun b hb => .inr (h.f b hb)), fun b hb => by
    rcases f2 b hb with e | e
    · exact h.f b e
    · have := h.t.size; omega⟩

set_option maxRecDepth 20000 in
set_option maxHeartbeats 3200000 in
theorem refTable_any (A B : Option Addr) (c1 c2 n m : Nat) (cs : List CD) (rows : List (List VD)) (hn : cs.length = n) (hm : rows.length = m) (hc : n ≤ 20 ∧ ∀ c ∈ cs, c.Ok ∧ c.name.size ≤ 1000) (hr : m ≤ 4096 ∧ ∀ r ∈ rows, r.length ≤ 20 ∧ ∀ v ∈ r, v.Ok 140737000000000 ∧ v.text.size ≤ 1000) (w : World) (h : ColsAt w A cs) (h2 : RowsAt w B rows) :
    Calls Tryd.prog 48 #[.slice A n c1, .slice B m c2] w fun e w' => ∃ A' c', e = .returned (.slice A' (encTab cs rows).length c') ∧ MB w A' c' (encTab cs rows) w' := by
  subst hn hm
  obtain ⟨hc1, hc2⟩ := hc
  obtain ⟨hr1, hr2⟩ := hr
  have hlC : ∀ k, ((cs.take k).flatMap encC).length ≤ 20 * 1018 := fun k => by
    have := flat_len encC 1018 (cs.take k) (fun c hcm => encC_len c (hc2 c (List.mem_of_mem_take hcm)).2)
    have h3 : (cs.take k).length ≤ 20 := by rw [List.length_take]; omega
    have := Nat.mul_le_mul_right 1018 h3
    omega
  have hIc := encI_length cs.length
  have hlV : ∀ r ∈ rows, ∀ k, ((r.take k).flatMap encV).length ≤ 20 * 1018 := fun r hrm k => by
    have := flat_len encV 1018 (r.take k) (fun c hcm => encV_len c ((hr2 r hrm).2 c (List.mem_of_mem_take hcm)).2)
    have h3 : (r.take k).length ≤ 20 := by rw [List.length_take]; have := (hr2 r hrm).1; omega
    have := Nat.mul_le_mul_right 1018 h3
    omega
  have hlR : ∀ k, ((rows.take k).flatMap fun r => r.flatMap encV).length ≤ 4096 * 20360 := fun k => by
    have a1 := flat_len (fun r => r.flatMap encV) 20360 (rows.take k) (fun r hrm => by
      have := hlV r (List.mem_of_mem_take hrm) r.length
      rw [List.take_length] at this
      exact Nat.le_trans this (by decide))
    have h3 : (rows.take k).length ≤ 4096 := by rw [List.length_take]; omega
    exact Nat.le_trans a1 (Nat.mul_le_mul_right 20360 h3)
  have HlV := Lib.hid hlV; have HlR := Lib.hid hlR
  have HlC := Lib.hid hlC
  clear hlV hlR
  clear hlC
  go_enter Tryd.func48, Tryd.ntmps48
  go_wp2_with fail
  refine (refInt_any cs.length (by omega) (by omega) w).mono ?_
  rintro e w1 ⟨A1, d1, rfl, hown1, ht1, hf1⟩
  go_wp2
  go_loopw [5, 6] (fun v i wr => ∃ (k : Nat) (A' : Option Addr) (c' : Nat) (l : List UInt8), k ≤ cs.length ∧ i = .int .i64 k ∧ v = .slice A' l.length c' ∧ Hid (l = encI cs.length ++ (cs.take k).flatMap encC) ∧ MB w A' c' l wr) (fun _ i _ => cs.length - (intOf i).toNat)
  case atStart => exact ⟨0, A1, d1, encI cs.length, by omega, rfl, rfl, Lib.hid (by simp), hown1, ht1, hf1⟩
  case round =>
    obtain ⟨k, A', c', l, hk, rfl, rfl, Hl, hmb⟩ := hrel
    have hll : l.length ≤ 30000 := by
      have h3 := HlC.out k
      rw [Hl.out, List.length_append]; omega
    by_cases hlt : k < cs.length
    · obtain ⟨ad, b, off, rfl, hadd, f0, f1⟩ := h.at_ k hlt
      have hco := hc2 _ (List.getElem_mem hlt)
      have hsn : (cs.take (k + 1)).flatMap encC = (cs.take k).flatMap encC ++ (encT cs[k].name ++ encI cs[k].typ) := by rw [List.take_succ_eq_append_getElem hlt, List.flatMap_append]; simp [encC]
      obtain ⟨c, hce⟩ : ∃ c, c = cs[k] := ⟨_, rfl⟩
      rw [← hce] at f0 f1 hco hsn
      obtain ⟨nm, ty⟩ := c
      simp only at f0 f1
      obtain ⟨⟨hn1, hty1, hty2⟩, hn2⟩ := hco
      simp only at hn1 hty1 hty2 hn2
      have Hsn := Lib.hid hsn
      have hLt : (encT nm).length ≤ 9 + nm.size := by
        have q1 := encT_length nm
        have q2 := encI_length nm.size
        omega
      have hLy := encI_length ty
      have hkI : (k : Int) < (cs.length : Int) := by omega
      have e0 := hmb.t.cell f0 (by simp)
      have F1 := Lib.hid f1
      clear hsn hce f0 f1
      go_wp2_with fail
      refine (refText_any nm (by omega) _).mono ?_
      rintro e w2 ⟨A2, d2, rfl, hown2, ht2, hf2⟩
      have hmb2 := hmb.touch0 ht2
      go_wp2_with (at_builtin; refine stop ?_)
      refine go ?_
      refine wpList_appB rfl (.tmp 18) (.tmp 24) rfl A' l.length c' l rfl rfl hmb2.own A2 (encT nm).length d2 (encT nm) rfl rfl hown2.rd (by omega) ?_
      intro A3 d3 w3 hown3 ht3 hf3
      have hmb3 := hmb2.step hown3 ht3 (fun b hb => by
        rcases hf3 b hb with e | e
        · exact .inl e
        · exact .inr (by omega))
      have e1 := hmb3.t.cell F1.out (by simp)
      obtain ⟨l3, hl3⟩ : ∃ l3, l3 = l ++ encT nm := ⟨_, rfl⟩
      have hl3n : l.length + (encT nm).length = l3.length := by rw [hl3, List.length_append]
      rw [← hl3] at hmb3
      rw [hl3n]
      have hl3b : l3.length ≤ 40000 := by omega
      have Hl3 := Lib.hid hl3
      clear hl3 hl3n hown3 ht3 hf3 hmb2
      go_wp2_with fail
      refine (refInt_any ty hty1 hty2 _).mono ?_
      rintro e w4 ⟨A4, d4, rfl, hown4, ht4, hf4⟩
      have hmb4 := hmb3.touch0 ht4
      go_wp2_with (at_builtin; refine stop ?_)
      refine go ?_
      refine wpList_appB rfl (.tmp 26) (.tmp 32) rfl A3 l3.length d3 l3 rfl rfl hmb4.own A4 (encI ty).length d4 (encI ty) rfl rfl hown4.rd (by omega) ?_
      intro A5 d5 w5 hown5 ht5 hf5
      have hmb5 := hmb4.step hown5 ht5 (fun b hb => by
        rcases hf5 b hb with e | e
        · exact .inl e
        · exact .inr (by omega))
      have hl5 : l3.length + (encI ty).length = (l3 ++ encI ty).length := by rw [List.length_append]
      rw [hl5]
      clear hl5
      go_wp2
      go_roundw
      case rel => exact ⟨k + 1, A5, d5, l3 ++ encI ty, by omega, by go_num, by simp, Lib.hid (by rw [Hsn.out, Hl3.out, Hl.out]; simp), hmb5⟩
      case measure => simp [intOf]; omega
    · obtain rfl : k = cs.length := by omega
      rw [List.take_length] at Hl
      have hIm := encI_length rows.length
      go_wp2_with fail
      refine (refInt_any rows.length (by omega) (by omega) _).mono ?_
      rintro e w2 ⟨A2, d2, rfl, hown2, ht2, hf2⟩
      have hmb2 := hmb.touch0 ht2
      go_wp2_with (at_builtin; refine stop ?_)
      refine go ?_
      refine wpList_appB rfl (.tmp 34) (.tmp 37) rfl A' l.length c' l rfl rfl hmb2.own A2 (encI rows.length).length d2 (encI rows.length) rfl rfl hown2.rd (by omega) ?_
      intro A3 d3 w3 hown3 ht3 hf3
      have hmb3 := hmb2.step hown3 ht3 (fun b hb => by
        rcases hf3 b hb with e | e
        · exact .inl e
        · exact .inr (by omega))
      obtain ⟨l3, hl3⟩ : ∃ l3, l3 = l ++ encI rows.length := ⟨_, rfl⟩
      have hl3n : l.length + (encI rows.length).length = l3.length := by rw [hl3, List.length_append]
      rw [← hl3] at hmb3
      rw [hl3n]
      have hl3b : l3.length ≤ 40000 := by omega
      have Hl3 := Lib.hid hl3
      clear hl3 hl3n hown3 ht3 hf3 hmb2 hmb hll
      go_wp2
      go_loopw [5, 7] (fun v i wr => ∃ (q : Nat) (A' : Option Addr) (c' : Nat) (l4 : List UInt8), q ≤ rows.length ∧ i = .int .i64 q ∧ v = .slice A' l4.length c' ∧ Hid (l4 = l3 ++ (rows.take q).flatMap fun r => r.flatMap encV) ∧ MB w A' c' l4 wr) (fun _ i _ => rows.length - (intOf i).toNat)
      case atStart => exact ⟨0, A3, d3, l3, by omega, rfl, rfl, Lib.hid (by simp), hmb3⟩
      case round =>
        obtain ⟨q, A5, d5, l4, hq, rfl, rfl, Hl4, hmb5⟩ := hrel
        have hl4b : l4.length ≤ 84000000 := by
          have h3 := HlR.out q
          rw [Hl4.out, List.length_append]; omega
        by_cases hltq : q < rows.length
        · obtain ⟨bd, RA, rc, rfl, r0, hrv⟩ := h2.at_ q hltq
          have hro := hr2 _ (List.getElem_mem hltq)
          have hlv := HlV.out _ (List.getElem_mem hltq)
          have hsn : (rows.take (q + 1)).flatMap (fun r => r.flatMap encV) = ((rows.take q).flatMap fun r => r.flatMap encV) ++ (rows[q]).flatMap encV := by rw [List.take_succ_eq_append_getElem hltq, List.flatMap_append]; simp
          obtain ⟨r, hre⟩ : ∃ r, r = rows[q] := ⟨_, rfl⟩
          rw [← hre] at r0 hrv hro hlv hsn
          have Hsn := Lib.hid hsn; have Hlv := Lib.hid hlv
          have R0 := Lib.hid r0
          have hqI : (q : Int) < (rows.length : Int) := by omega
          clear hsn hre hlv r0
          go_wp2
          go_loopw [5, 8] (fun v i wr => ∃ (j : Nat) (A' : Option Addr) (c' : Nat) (l5 : List UInt8), j ≤ r.length ∧ i = .int .i64 j ∧ v = .slice A' l5.length c' ∧ Hid (l5 = l4 ++ (r.take j).flatMap encV) ∧ MB w A' c' l5 wr) (fun _ i _ => r.length - (intOf i).toNat)
          case atStart => exact ⟨0, A5, d5, l4, by omega, rfl, rfl, Lib.hid (by simp), hmb5⟩
          case round =>
            obtain ⟨j, A6, d6, l5, hj, rfl, rfl, Hl5, hmb6⟩ := hrel
            have hl5b : l5.length ≤ 85000000 := by
              have h3 := Hlv.out j
              rw [Hl5.out, List.length_append]; omega
            have r1 := hmb6.t.cell R0.out (by simp)
            by_cases hltj : j < r.length
            · obtain ⟨vd, vb, voff, rfl, hvadd, f0, f1, f2⟩ := hrv.at_ j hltj
              have hvo := hro.2 _ (List.getElem_mem hltj)
              have hsn : (r.take (j + 1)).flatMap encV = (r.take j).flatMap encV ++ encV r[j] := by rw [List.take_succ_eq_append_getElem hltj, List.flatMap_append]; simp
              obtain ⟨v, hve⟩ : ∃ v, v = r[j] := ⟨_, rfl⟩
              rw [← hve] at f0 f1 f2 hvo hsn
              have Hsv := Lib.hid hsn
              have hLv := encV_len v hvo.2
              have g0 := hmb6.t.cell f0 (by simp)
              have g1 := hmb6.t.cell f1 (by simp)
              have g2 := hmb6.t.cell f2 (by simp)
              have hjI : (j : Int) < (r.length : Int) := by omega
              have hval := fun w' => refValue_any v hvo.1 w'
              have Hval := Lib.hid hval
              clear hsn hve f0 f1 f2 hval
              obtain ⟨k1, n1, s1⟩ := v
              simp only [VD.val] at Hval g0 g1 g2
              go_wp2_with fail
              refine (Hval.out _).mono ?_
              rintro e w7 ⟨A7, d7, rfl, hown7, ht7, hf7⟩
              have hmb7 := hmb6.touch0 ht7
              go_wp2_with (at_builtin; refine stop ?_)
              refine go ?_
              refine wpList_appB rfl (.tmp 54) (.tmp 62) rfl A6 l5.length d6 l5 rfl rfl hmb7.own A7 (encV ⟨k1, n1, s1⟩).length d7 (encV ⟨k1, n1, s1⟩) rfl rfl hown7.rd (by omega) ?_
              intro A8 d8 w8 hown8 ht8 hf8
              have hmb8 := hmb7.step hown8 ht8 (fun b hb => by
                rcases hf8 b hb with e | e
                · exact .inl e
                · exact .inr (by omega))
              have hl6 : l5.length + (encV ⟨k1, n1, s1⟩).length = (l5 ++ encV ⟨k1, n1, s1⟩).length := by rw [List.length_append]
              rw [hl6]
              clear hl6
              go_wp2
              go_roundw
              case rel => exact ⟨j + 1, A8, d8, l5 ++ encV ⟨k1, n1, s1⟩, by omega, by go_num, by simp, Lib.hid (by rw [Hsv.out, Hl5.out]; simp), hmb8⟩
              case measure => simp [intOf]; omega
            · obtain rfl : j = r.length := by omega
              rw [List.take_length] at Hl5
              go_wp2
              go_roundw
              case rel => exact ⟨q + 1, A6, d6, l5, by omega, by go_num, rfl, Lib.hid (by rw [Hsn.out, Hl5.out, Hl4.out]; simp), hmb6⟩
              case measure => simp [intOf]; omega
        · obtain rfl : q = rows.length := by omega
          rw [List.take_length] at Hl4
          have Hfin := Lib.hid (show l4 = encTab cs rows by rw [Hl4.out, Hl3.out, Hl.out]; unfold encTab; simp only [List.append_assoc])
          go_wp2
          go_ret
          exact ⟨A5, d5, by rw [← Hfin.out]; rfl, by rw [← Hfin.out]; exact hmb5⟩
end Go.Proofs.YtgpadejkmpfafaaDoor

/- frame.Out.Table: a table's bytes are put behind an Out's. For every table within bounds. -/
namespace Go.Proofs.YtgpadejkmpfafaaDoor
open Go.RowKit
attribute [local go_sem ↓] Go.wp_at_zero Go.wp_at_succ

theorem out_next {g : Nat} {A A1 A2 : Option Addr} {w wr wx w2 : World} (t : Touch (g :: fpo A) w wr) (f : ∀ b ∈ fpo A1, b ∈ fpo A ∨ w.heap.size ≤ b) (tx : Touch [] wr wx) (t2 : Touch (g :: fpo A1) wx w2) (f2 : ∀ b ∈ fpo A2, b ∈ fpo A1 ∨ wx.heap.size ≤ b) :
    Touch (g :: fpo A) w w2 ∧ ∀ b ∈ fpo A2, b ∈ fpo A ∨ w.heap.size ≤ b := by
  have s1 := t.size
  have s2 := tx.size
  refine ⟨(t.trans0 tx).trans t2 (fun b hb => ?_), fun b hb => ?_⟩
  · rcases List.mem_cons.1 hb with h | h
    · exact .inl (by simp [h])
    · rcases f b h with h' | h'
      · exact .inl (by simp [h'])
      · exact .inr h'
  · rcases f2 b hb with h | h
    · exact f b h
    · exact .inr (by omega)
theorem OutAt.lt {g : Nat} {A : Option Addr} {l : List UInt8} {w : World} (ho : OutAt w g A l) : g < w.heap.size ∧ ∀ b ∈ fpo A, b < w.heap.size := by
  obtain ⟨c, hg, hown, _⟩ := ho
  exact ⟨lt_of_block hg, fun b hb => hown.lt b hb⟩

set_option maxRecDepth 20000 in
set_option maxHeartbeats 3200000 in
theorem outTable_any (wb : World) (g : Nat) (A0 : Option Addr) (l : List UInt8) (hll : l.length ≤ 1000000000) (A B : Option Addr) (c1 c2 n m : Nat) (cs : List CD) (rows : List (List VD)) (hn : cs.length = n) (hm : rows.length = m) (hc : n ≤ 20 ∧ ∀ c ∈ cs, c.Ok ∧ c.name.size ≤ 1000) (hr : m ≤ 4096 ∧ ∀ r ∈ rows, r.length ≤ 20 ∧ ∀ v ∈ r, v.Ok 140737000000000 ∧ v.text.size ≤ 1000)
    (w : World) (hb : Touch [] wb w) (hgb : wb.heap.size ≤ g) (hAb : ∀ b ∈ fpo A0, wb.heap.size ≤ b) (ho : OutAt w g A0 l) (h : ColsAt wb A cs) (h2 : RowsAt wb B rows) :
    Calls Tryd.prog 37 #[.pointer (some ⟨g, 0, none⟩), .agg #[.slice A n c1, .slice B m c2]] w fun e w' => e = .returned (.pointer (some ⟨g, 0, none⟩)) ∧ OutPost g A0 (l ++ encTab cs rows) w w' := by
  obtain ⟨hc1, hc2⟩ := hc
  obtain ⟨hr1, hr2⟩ := hr
  subst hn hm
  have hlC : ∀ k, ((cs.take k).flatMap encC).length ≤ 20 * 1018 := fun k => by
    have := flat_len encC 1018 (cs.take k) (fun c hcm => encC_len c (hc2 c (List.mem_of_mem_take hcm)).2)
    have h3 : (cs.take k).length ≤ 20 := by rw [List.length_take]; omega
    have := Nat.mul_le_mul_right 1018 h3
    omega
  have hlV : ∀ r ∈ rows, ∀ k, ((r.take k).flatMap encV).length ≤ 20 * 1018 := fun r hrm k => by
    have := flat_len encV 1018 (r.take k) (fun c hcm => encV_len c ((hr2 r hrm).2 c (List.mem_of_mem_take hcm)).2)
    have h3 : (r.take k).length ≤ 20 := by rw [List.length_take]; have := (hr2 r hrm).1; omega
    have := Nat.mul_le_mul_right 1018 h3
    omega
  have hlR : ∀ k, ((rows.take k).flatMap fun r => r.flatMap encV).length ≤ 4096 * 20360 := fun k => by
    have a1 := flat_len (fun r => r.flatMap encV) 20360 (rows.take k) (fun r hrm => by
      have := hlV r (List.mem_of_mem_take hrm) r.length
      rw [List.take_length] at this
      exact Nat.le_trans this (by decide))
    have h3 : (rows.take k).length ≤ 4096 := by rw [List.length_take]; omega
    exact Nat.le_trans a1 (Nat.mul_le_mul_right 20360 h3)
  have HlV := Lib.hid hlV; have HlR := Lib.hid hlR; have HlC := Lib.hid hlC
  clear hlV hlR hlC
  have hIc := encI_length cs.length
  have hIm := encI_length rows.length
  have t0 := (Touch.refl [] w).alloc (.cells #[.slice A cs.length c1, .slice B rows.length c2] 56)
  have hbx := heap_alloc_new w (.cells #[.slice A cs.length c1, .slice B rows.length c2] 56)
  have ho0 := ho.touch t0 (by simp) (fun _ _ => by simp)
  obtain ⟨hgl, hAl⟩ := ho.lt
  have hnew : w.heap.size ∉ g :: fpo A0 := fun hm => by
    rcases List.mem_cons.1 hm with h | h
    · omega
    · have := hAl _ h; omega
  have hup := fun (wr : World) (t : Touch (g :: fpo A0) (w.alloc (.cells #[.slice A cs.length c1, .slice B rows.length c2] 56)) wr) => (hb.trans0 t0).trans t (fun b hb => .inr (by
    rcases List.mem_cons.1 hb with h | h
    · omega
    · exact hAb b h))
  have hci := outInt_any g A0 l cs.length (by omega) (by omega) (by omega) _ ho0
  have hsz0 : w.heap.size ≤ (w.alloc (.cells #[.slice A cs.length c1, .slice B rows.length c2] 56)).heap.size := by simp
  obtain ⟨W0, hW0⟩ : ∃ W0, W0 = w.alloc (.cells #[.slice A cs.length c1, .slice B rows.length c2] 56) := ⟨_, rfl⟩
  have Hci := Lib.hid hci
  rw [← hW0] at t0 hbx hup hsz0
  have HW0 := Lib.hid hW0; have Hup := Lib.hid hup; have Hbx := Lib.hid hbx
  clear hW0 hup hbx hci ho0
  go_enter Tryd.func37, Tryd.ntmps37
  go_wp2_with fail
  refine Hci.out.mono ?_
  rintro e w1 ⟨rfl, A1, ho1, ht1, hf1⟩
  rw [← HW0.out] at ht1 hf1
  have x0 := ht1.cell (cell_blk Hbx.out (i := 0) (v := .slice A cs.length c1) rfl) hnew
  go_wp2
  clear x0
  go_loopw [19] (fun i wr => ∃ (k : Nat) (A' : Option Addr) (l' : List UInt8), k ≤ cs.length ∧ i = .int .i64 k ∧ Hid (l' = l ++ encI cs.length ++ (cs.take k).flatMap encC) ∧ OutAt wr g A' l' ∧ Touch (g :: fpo A0) W0 wr ∧ ∀ b ∈ fpo A', b ∈ fpo A0 ∨ W0.heap.size ≤ b) (fun i _ => cs.length - (intOf i).toNat)
  case atStart => exact ⟨0, A1, _, by omega, rfl, Lib.hid (by simp), ho1, ht1, hf1⟩
  case round =>
    clear ho1 ht1 hf1
    obtain ⟨k, A', l1, hk, rfl, Hl, ho1, ht1, hf1⟩ := hrel
    have hl1 : l1.length ≤ 1000030000 := by
      have h3 := HlC.out k
      rw [Hl.out, List.length_append, List.length_append]; omega
    have T1 := Hup.out wr ht1
    by_cases hlt : k < cs.length
    · obtain ⟨ad, b, off, rfl, hadd, f0, f1⟩ := (h.touch0 T1).at_ k hlt
      have hco := hc2 _ (List.getElem_mem hlt)
      have hsn : (cs.take (k + 1)).flatMap encC = (cs.take k).flatMap encC ++ (encT cs[k].name ++ encI cs[k].typ) := by rw [List.take_succ_eq_append_getElem hlt, List.flatMap_append]; simp [encC]
      obtain ⟨c, hce⟩ : ∃ c, c = cs[k] := ⟨_, rfl⟩
      rw [← hce] at f0 f1 hco hsn
      obtain ⟨nm, ty⟩ := c
      simp only at f0 f1
      obtain ⟨⟨hn1, hty1, hty2⟩, hn2⟩ := hco
      simp only at hn1 hty1 hty2 hn2
      have Hsn := Lib.hid hsn
      have hLt : (encT nm).length ≤ 9 + nm.size := by
        have q1 := encT_length nm
        have q2 := encI_length nm.size
        omega
      have hkI : (k : Int) < (cs.length : Int) := by omega
      have hbn := heap_alloc_new wr (.cells #[.string nm, .int .i64 ty] 83)
      have tn := ((Touch.refl [] wr).alloc (.cells #[.string nm, .int .i64 ty] 83)).drew
      have k0 : (wr.alloc (.cells #[.string nm, .int .i64 ty] 83)).drew.cell? ⟨wr.heap.size, 0, none⟩ = some (.string nm) := cell_blk hbn rfl
      have k1 : (wr.alloc (.cells #[.string nm, .int .i64 ty] 83)).drew.cell? ⟨wr.heap.size, 1, none⟩ = some (.int .i64 ty) := cell_blk hbn rfl
      obtain ⟨hg1, hA1⟩ := ho1.lt
      have hbn2 : wr.heap.size ∉ g :: fpo A' := fun hm => by
        rcases List.mem_cons.1 hm with h | h
        · omega
        · have := hA1 _ h; omega
      have Htx := Lib.hid (outText_any g A' l1 nm (by omega) _ (ho1.touch tn (by simp) (fun _ _ => by simp)))
      have Htn := Lib.hid tn
      clear hsn hce hbn tn
      go_wp2_with fail
      go_region_held3 (fun w' => w'.cell? ⟨wr.heap.size, 0, none⟩ = some (.string nm) ∧ w'.cell? ⟨wr.heap.size, 1, none⟩ = some (.int .i64 ty)) (first | exact ⟨k0, k1⟩ | exact ⟨m0, m1⟩ | exact ⟨q0, q1⟩) (first
        | (go_at_call 14; refine (Htx.out).mono ?_; rintro e w5 ⟨rfl, A5, ho5, ht5, hf5⟩; have m0 := ht5.cell k0 hbn2; have m1 := ht5.cell k1 hbn2; have s5 := ho5.lt; have n5 : wr.heap.size ∉ g :: fpo A5 := (fun hm => by
            rcases List.mem_cons.1 hm with h | h
            · omega
            · rcases hf5 _ h with h' | h'
              · exact hbn2 (List.mem_cons_of_mem _ h')
              · simp at h'; omega))
        | (go_at_call 12; refine (outInt_any g A5 (l1 ++ encT nm) ty hty1 hty2 (by rw [List.length_append]; omega) _ ho5).mono ?_; rintro e w6 ⟨rfl, A6, ho6, ht6, hf6⟩; have q0 := ht6.cell m0 n5; have q1 := ht6.cell m1 n5))
      all_goals
        clear q0 q1 m0 m1 k0 k1 s5 n5
        obtain ⟨T5, F5⟩ := out_next ht1 hf1 Htn.out ht5 hf5
        obtain ⟨T6, F6⟩ := out_next T5 F5 (Touch.refl _ _) ht6 hf6
        go_wp2
        go_roundw
        case rel => exact ⟨k + 1, A6, (l1 ++ encT nm) ++ encI ty, by omega, by go_num, Lib.hid (by rw [Hsn.out, Hl.out]; simp only [List.append_assoc]), ho6, T6, F6⟩
        case measure => simp [intOf]; omega
    · obtain rfl : k = cs.length := by omega
      rw [List.take_length] at Hl
      have x1 := ht1.cell (cell_blk Hbx.out (i := 1) (v := .slice B rows.length c2) rfl) hnew
      go_wp2_with fail
      refine (outInt_any g A' l1 rows.length (by omega) (by omega) (by omega) _ ho1).mono ?_
      rintro e w2 ⟨rfl, A2, ho2, ht2, hf2⟩
      obtain ⟨T2, F2⟩ := out_next ht1 hf1 (Touch.refl _ _) ht2 hf2
      have y1 := T2.cell (cell_blk Hbx.out (i := 1) (v := .slice B rows.length c2) rfl) hnew
      obtain ⟨l2, hl2⟩ : ∃ l2, l2 = l1 ++ encI rows.length := ⟨_, rfl⟩
      have hl2n : l2.length ≤ 1000040000 := by rw [hl2, List.length_append]; omega
      rw [← hl2] at ho2
      have Hl2 := Lib.hid hl2
      clear hl2 ht2 hf2 x1 ho1 ht1 hf1 T1 hl1
      go_wp2
      clear y1
      go_loopw [39] (fun i wr => ∃ (q : Nat) (A' : Option Addr) (l' : List UInt8), q ≤ rows.length ∧ i = .int .i64 q ∧ Hid (l' = l2 ++ (rows.take q).flatMap fun r => r.flatMap encV) ∧ OutAt wr g A' l' ∧ Touch (g :: fpo A0) W0 wr ∧ ∀ b ∈ fpo A', b ∈ fpo A0 ∨ W0.heap.size ≤ b) (fun i _ => rows.length - (intOf i).toNat)
      case atStart => exact ⟨0, A2, _, by omega, rfl, Lib.hid (by simp), ho2, T2, F2⟩
      case round =>
        clear ho2 T2 F2
        obtain ⟨q, A3, l3, hq, rfl, Hl3, ho3, ht3, hf3⟩ := hrel
        have hl3 : l3.length ≤ 1084000000 := by
          have h3 := HlR.out q
          rw [Hl3.out, List.length_append]; omega
        have T3 := Hup.out wr ht3
        by_cases hltq : q < rows.length
        · obtain ⟨bd, RA, rc, rfl, r0b, hrv⟩ := h2.at_ q hltq
          have r0 := T3.cell r0b (by simp)
          have hro := hr2 _ (List.getElem_mem hltq)
          have hlv := HlV.out _ (List.getElem_mem hltq)
          have hsn : (rows.take (q + 1)).flatMap (fun r => r.flatMap encV) = ((rows.take q).flatMap fun r => r.flatMap encV) ++ (rows[q]).flatMap encV := by rw [List.take_succ_eq_append_getElem hltq, List.flatMap_append]; simp
          obtain ⟨r, hre⟩ : ∃ r, r = rows[q] := ⟨_, rfl⟩
          rw [← hre] at r0 hrv hro hsn hlv
          clear r0b
          have Hsn := Lib.hid hsn; have Hlv := Lib.hid hlv
          obtain ⟨hrl, hrok⟩ := hro
          clear hsn hre hlv
          go_wp2
          go_loopw [45] (fun i w3 => ∃ (j : Nat) (A' : Option Addr) (l' : List UInt8), j ≤ r.length ∧ i = .int .i64 j ∧ Hid (l' = l3 ++ (r.take j).flatMap encV) ∧ OutAt w3 g A' l' ∧ Touch (g :: fpo A0) W0 w3 ∧ ∀ b ∈ fpo A', b ∈ fpo A0 ∨ W0.heap.size ≤ b) (fun i _ => r.length - (intOf i).toNat)
          case atStart => exact ⟨0, A3, _, by omega, rfl, Lib.hid (by simp), ho3, ht3, hf3⟩
          case round =>
            obtain ⟨j, A4, l4, hj, rfl, Hl4, ho4, ht4, hf4⟩ := hrel
            have T4 := Hup.out wr ht4
            have hl4 : l4.length ≤ 1085000000 := by
              have h3 := Hlv.out j
              rw [Hl4.out, List.length_append]; omega
            by_cases hltj : j < r.length
            · obtain ⟨vd, vb, voff, rfl, hvadd, f0, f1, f2⟩ := (hrv.touch0 T4).at_ j hltj
              have hvo := hrok _ (List.getElem_mem hltj)
              have hsn : (r.take (j + 1)).flatMap encV = (r.take j).flatMap encV ++ encV r[j] := by rw [List.take_succ_eq_append_getElem hltj, List.flatMap_append]; simp
              obtain ⟨v, hve⟩ : ∃ v, v = r[j] := ⟨_, rfl⟩
              rw [← hve] at f0 f1 f2 hvo hsn
              have Hsv := Lib.hid hsn
              have tv := (Touch.refl [] wr).alloc (.cells #[.int .i64 v.kind, .int .i64 v.num, .string v.text] 59)
              have Hval := Lib.hid (outValue_any g A4 l4 v hvo.1 (by have := hvo.2; omega) _ (ho4.touch tv (by simp) (fun _ _ => by simp)))
              have Htv := Lib.hid tv
              clear hsn hve hvo tv
              obtain ⟨k1, n1, s1⟩ := v
              simp only [VD.val] at Hval f0 f1 f2
              go_wp2_with fail
              refine Hval.out.mono ?_
              rintro e w6 ⟨rfl, A6, ho6, ht6, hf6⟩
              obtain ⟨T6, F6⟩ := out_next ht4 hf4 Htv.out ht6 hf6
              go_wp2
              go_roundw
              case rel => exact ⟨j + 1, A6, _, by omega, by go_num, Lib.hid (by rw [Hsv.out, Hl4.out, List.append_assoc]), ho6, T6, F6⟩
              case measure => simp [intOf]; omega
            · obtain rfl : j = r.length := by omega
              rw [List.take_length] at Hl4
              go_wp2
              go_roundw
              case rel => exact ⟨q + 1, A4, l4, by omega, by go_num, Lib.hid (by rw [Hsn.out, Hl4.out, Hl3.out, List.append_assoc]), ho4, ht4, hf4⟩
              case measure => simp [intOf]; omega
        · obtain rfl : q = rows.length := by omega
          rw [List.take_length] at Hl3
          go_wp2
          go_ret
          refine ⟨rfl, A3, ?_, (t0.mono (fun b hb => by simp at hb)).trans ht3 (fun b hb => .inl hb), fun b hb => (hf3 b hb).imp id (fun h => by omega)⟩
          have he : l ++ encTab cs rows = l3 := by rw [Hl3.out, Hl2.out, Hl.out]; simp [encTab]
          rw [he]; exact ho3
end Go.Proofs.YtgpadejkmpfafaaDoor

/- value.plain, value.Value.Right: at texts of whatever size. For every value. -/
namespace Go.Proofs.YtgpadejkmpfafaaDoor
open Go.RowKit

set_option maxRecDepth 20000 in
set_option maxHeartbeats 800000 in
theorem plainW_any (t : List UInt8) (hs : t.length ≤ 9223372036854775807) (w : World) :
    Calls Tryd.prog 49 #[.string (S t)] w fun e w' => e = .returned (.bool (plainV t)) ∧ Touch [] w w' := by
  go_enter Tryd.func49, Tryd.ntmps49
  have hconv := run_bytes_of t w
  have hsz := S_size t
  have hr := rd_bytes w t
  have ht := touch_bytes w t
  obtain ⟨W, hW⟩ : ∃ W, W = Lib.bytesWorld w 5 (S t) := ⟨_, rfl⟩
  rw [← hW] at hconv hr ht
  clear hW
  go_wp2_with fail
  clear hconv
  go_loop [8] (fun i => ∃ k : Nat, k ≤ t.length ∧ i = .int .i64 k ∧ Hid ((t.take k).all okB = true)) (fun i => t.length - (intOf i).toNat)
  case atStart => exact ⟨0, by omega, rfl, Lib.hid rfl⟩
  case round =>
    obtain ⟨k, hk, rfl, hall⟩ := hrel
    by_cases hlt : k < t.length
    · obtain ⟨ad, e1, hcell⟩ := hr.at_ k hlt
      obtain rfl : ⟨w.heap.size, 0, none⟩ = ad := by injection e1
      obtain ⟨x, hx⟩ : ∃ x, x = t[k] := ⟨_, rfl⟩
      have hadd : (⟨w.heap.size, 0, none⟩ : Addr).add k = ⟨w.heap.size, k, none⟩ := by unfold Addr.add; split <;> simp_all
      rw [← hx, hadd] at hcell
      have hxl := x.toNat_lt
      have hbad : okB x = false → plainV t = false := fun h => by
        unfold plainV
        have : t.all okB = false := by
          rw [List.all_eq_false]
          exact ⟨t[k], List.getElem_mem hlt, by rw [← hx, h]; simp⟩
        rw [this]; rfl
      have hgood : okB x = true → (t.take (k + 1)).all okB = true := fun h => by
        rw [List.take_succ_eq_append_getElem hlt, List.all_append, hall.out, ← hx]
        simp [h]
      have Hb := Lib.hid hbad
      have Hg := Lib.hid hgood
      clear hbad hgood hx hall e1 hadd
      by_cases h1 : x.toNat < 32
      · have hz : ((x.toNat : Int) < 32) = True := eq_true (by omega)
        go_wp2
        go_ret
        exact ⟨by rw [Hb.out (by simp [okB]; omega)]; rfl, ht⟩
      have hz : ((x.toNat : Int) < 32) = False := eq_false (by omega)
      by_cases h2 : 126 < x.toNat
      · have hy : (126 < (x.toNat : Int)) = True := eq_true (by omega)
        go_wp2
        go_ret
        exact ⟨by rw [Hb.out (by simp [okB]; omega)]; rfl, ht⟩
      · have hy : (126 < (x.toNat : Int)) = False := eq_false (by omega)
        go_wp2
        go_round
        case rel => exact ⟨k + 1, by omega, by go_num, Lib.hid (Hg.out (by simp [okB]; omega))⟩
        case measure => simp [intOf]; omega
    · obtain rfl : k = t.length := by omega
      have hfin : plainV t = decide ((t.length : Int) ≤ 64) := by
        have h := hall.out
        rw [List.take_length] at h
        unfold plainV
        rw [h, Bool.true_and]
        exact decide_eq_decide.2 (by omega)
      have Hf := Lib.hid hfin
      clear hfin hall
      go_wp2
      go_ret
      exact ⟨by rw [Hf.out]; rfl, ht⟩
set_option maxRecDepth 20000 in
set_option maxHeartbeats 800000 in
theorem rightW_any (v : VD) (hs : v.text.size ≤ 9223372036854775807) (w : World) :
    Calls Tryd.prog 32 #[v.val] w fun e w' => e = .returned (.bool v.right) ∧ Touch [] w w' := by
  obtain ⟨k, n, s⟩ := v
  dsimp only [VD.val] at *
  go_enter Tryd.func32, Tryd.ntmps32
  have t0 := (Touch.refl [] w).alloc (.cells #[.int .i64 k, .int .i64 n, .string s] 59)
  have hp := plainW_any s.data.toList (by rw [size_toList]; exact hs) (w.alloc (.cells #[.int .i64 2, .int .i64 0, .string s] 59))
  rw [S_of] at hp
  have Hp := Lib.hid hp
  clear hp
  by_cases h0 : k = 0
  · subst h0
    by_cases hn : n = 0
    · subst hn
      go_wp2_with fail
      go_ret
      exact ⟨rfl, t0⟩
    · have hne : (n == 0) = false := by simpa using hn
      have hr : VD.right ⟨0, n, s⟩ = false := by simp [VD.right, hn]
      have Hr := Lib.hid hr
      clear hr
      go_wp2_with fail
      go_ret
      exact ⟨by rw [Hr.out]; rfl, t0⟩
  by_cases h1 : k = 1
  · subst h1
    go_wp2_with fail
    go_ret
    exact ⟨rfl, t0⟩
  by_cases h2 : k = 2
  · subst h2
    by_cases hn : n = 0
    · subst hn
      go_wp2_with fail
      refine Hp.out.mono ?_
      rintro e w1 ⟨rfl, t1⟩
      go_wp2_with fail
      go_ret
      exact ⟨rfl, t0.trans0 t1⟩
    · have hne : (n == 0) = false := by simpa using hn
      have hr : VD.right ⟨2, n, s⟩ = false := by simp [VD.right, hn]
      have Hr := Lib.hid hr
      clear hr
      go_wp2_with fail
      go_ret
      exact ⟨by rw [Hr.out]; rfl, t0⟩
  · have hr : VD.right ⟨k, n, s⟩ = false := by simp [VD.right, h0, h1, h2]
    have Hr := Lib.hid hr
    clear hr
    go_wp2_with fail
    go_ret
    exact ⟨by rw [Hr.out]; rfl, t0⟩
theorem right_ok {v : VD} (h : v.right = true) (hk : v.Ok 9223372036854775807) : v.Ok 140737000000000 ∧ v.text.size ≤ 64 := by
  have ht : v.text.size ≤ 64 := by
    unfold VD.right at h
    have e1 : v.text.toList.isEmpty = true → v.text.size ≤ 64 := fun he => by
      rw [toList_B] at he
      have := size_toList v.text
      rw [List.isEmpty_iff] at he
      rw [he] at this
      simp at this
      omega
    split at h
    · rw [Bool.and_eq_true] at h; exact e1 h.2
    · split at h
      · exact e1 h
      · split at h
        · rw [Bool.and_eq_true] at h
          have := h.2
          unfold plainV at this
          rw [Bool.and_eq_true] at this
          have := of_decide_eq_true this.2
          rw [size_toList] at this
          exact this
        · cases h
  exact ⟨⟨hk.k, hk.n, by omega⟩, ht⟩
end Go.Proofs.YtgpadejkmpfafaaDoor
