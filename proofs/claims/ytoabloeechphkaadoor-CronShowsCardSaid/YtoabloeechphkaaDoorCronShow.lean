/- cron.Spec.Show: the walk. For every spec. -/
import Derived.Test.YtoabloeechphkaaDoorCronItems
import Derived.Test.YtoabloeechphkaaDoorCronNext
namespace Go.Proofs.YtoabloeechphkaaDoor
open Go.RowKit Go.Shelf

theorem runs_len {s p : Nat} {l : List (Nat × Nat)} (h : Runs s p l) : l.length ≤ 64 - p := by
  induction h with
  | nil p h => simp
  | cons p a b l h1 h2 h3 h4 h5 h6 _ ih => rw [List.length_cons]; omega
theorem joinTail_len (b : UInt8) (M : Nat) : ∀ l : List (List UInt8), (∀ t ∈ l, t.length ≤ M) → (Lib.joinTail [b] l).length ≤ (M + 1) * l.length
  | [], _ => by simp [Lib.joinTail]
  | t :: l, h => by
    have h1 := joinTail_len b M l (fun x hx => h x (by simp [hx]))
    have h2 := h t (by simp)
    have e : Lib.joinTail [b] (t :: l) = b :: (t ++ Lib.joinTail [b] l) := by simp [Lib.joinTail]
    rw [e, List.length_cons, List.length_append, List.length_cons, Nat.mul_add]; omega
theorem join_len (b : UInt8) (M : Nat) (l : List (List UInt8)) (h : ∀ t ∈ l, t.length ≤ M) : (Lib.join l [b]).length ≤ (M + 1) * l.length := by
  cases l with
  | nil => simp [Lib.join_nil]
  | cons t l =>
    have h1 := joinTail_len b M l (fun x hx => h x (by simp [hx]))
    have h2 := h t (by simp)
    rw [Lib.join_cons, List.length_append, List.length_cons, Nat.mul_add]; omega
theorem fldT_bd {a : Bool} {s p : Nat} {l : List (Nat × Nat)} (h : Runs s p l) : (fldT a l).length ≤ 385 := by
  have h1 := fldT_len (a := a) (l := l) (fun r hr => by obtain ⟨h1, h2, -, -⟩ := runs_in h r hr; omega)
  have h2 := runs_len h
  omega
theorem right_63 {f s : Nat} {a : Bool} (h : fldR f s a = true) : s.testBit 63 = false := by
  rcases hb : s.testBit 63 with _ | _
  · rfl
  · have := (right_in h).2.1 63 (by omega) hb
    have := hiF_lt f
    omega

set_option maxRecDepth 20000 in
set_option maxHeartbeats 1600000 in
theorem show_none (c : SD) (hc : c.Ok) (hr : c.right = false) (w : World) (hG : Gc w) :
    Calls Tryd.prog 19 #[c.val] w fun e w' => e = .returned (.string (S [])) ∧ Touch [] w w' := by
  have t0 := (Touch.refl [] w).alloc (.cells c.row 27)
  have hch := check_any c hc (w.alloc (.cells c.row 27)) (hG.touch0 t0)
  have Hch := Lib.hid hch
  obtain ⟨e1, e2⟩ := SD.err_ne hr
  clear hch hr hG
  unfold SD.val SD.row at *
  go_enter Tryd.func19, Tryd.ntmps19
  go_wp2_with fail
  refine Hch.out.mono ?_
  rintro e w1 ⟨rfl, t1⟩
  go_wp2_with fail
  go_ret
  exact ⟨rfl, t0.trans0 t1⟩

set_option maxRecDepth 100000 in
set_option maxHeartbeats 6400000 in
theorem show_any (c : SD) (hc : c.Ok) (hr : c.right = true) (L : Nat → List (Nat × Nat)) (hL : ∀ f, f < 5 → Runs (c.set f) 0 (L f)) (w : World) (hG : Gc w) (hZ : Gz w) :
    Calls Tryd.prog 19 #[c.val] w fun e w' => e = .returned (.string (S (showT c L))) ∧ Touch [] w w' := by
  have t0 := (Touch.refl [] w).alloc (.cells c.row 27)
  have hS := specAt_new w c
  have hch := check_any c hc (w.alloc (.cells c.row 27)) (hG.touch0 t0)
  have Hch := Lib.hid hch
  obtain ⟨e1, e2⟩ := SD.err_eq hr
  have hit := fun f (hf : f < 5) w' h => items_any (c.set f) (hc f hf) (right_63 (right_at hr hf)) (L f) (hL f hf) (by have := runs_len (hL f hf); omega) w' h
  have HIt := Lib.hid hit
  have HZ := Lib.hid hZ
  have hlen : ∀ k, k ≤ 5 → (Lib.join ((List.range k).map fun f => fldT (c.any f) (L f)) [32]).length ≤ 100000 := fun k hk => by
    have := join_len 32 385 ((List.range k).map fun f => fldT (c.any f) (L f)) (fun t ht => by
      obtain ⟨f, hf, rfl⟩ := List.mem_map.1 ht
      have := List.mem_range.1 hf
      exact fldT_bd (hL f (by omega)))
    rw [List.length_map, List.length_range] at this
    omega
  have Hlen := Lib.hid hlen
  have HS := Lib.hid hS
  have hshow : showT c L = Lib.join ((List.range 5).map fun f => fldT (c.any f) (L f)) [32] := rfl
  have Hshow := Lib.hid hshow
  have hTs : ∀ k, (List.range (k + 1)).map (fun f => fldT (c.any f) (L f)) = (List.range k).map (fun f => fldT (c.any f) (L f)) ++ [fldT (c.any k) (L k)] := fun k => by rw [List.range_succ, List.map_append]; rfl
  have HTs := Lib.hid hTs
  have hcell : ∀ f, f < 5 → (w.alloc (.cells c.row 27)).cell? ⟨w.heap.size, 5 + f, none⟩ = some (.bool (c.any f)) := fun f hf => cell_blk (heap_alloc_new w (.cells c.row 27)) (row_getA c f hf)
  have Hcell := Lib.hid hcell
  have i0 : ∀ w, (Instr.index 24 (.agg #[.int .u64 (c.set 0 : Nat), .int .u64 (c.set 1 : Nat), .int .u64 (c.set 2 : Nat), .int .u64 (c.set 3 : Nat), .int .u64 (c.set 4 : Nat)]) (.int .i64 0)).run Tryd.prog w = .ok (.int .u64 (c.set 0 : Nat)) w := fun _ => by kernel_rfl
  have i1 : ∀ w, (Instr.index 24 (.agg #[.int .u64 (c.set 0 : Nat), .int .u64 (c.set 1 : Nat), .int .u64 (c.set 2 : Nat), .int .u64 (c.set 3 : Nat), .int .u64 (c.set 4 : Nat)]) (.int .i64 1)).run Tryd.prog w = .ok (.int .u64 (c.set 1 : Nat)) w := fun _ => by kernel_rfl
  have i2 : ∀ w, (Instr.index 24 (.agg #[.int .u64 (c.set 0 : Nat), .int .u64 (c.set 1 : Nat), .int .u64 (c.set 2 : Nat), .int .u64 (c.set 3 : Nat), .int .u64 (c.set 4 : Nat)]) (.int .i64 2)).run Tryd.prog w = .ok (.int .u64 (c.set 2 : Nat)) w := fun _ => by kernel_rfl
  have i3 : ∀ w, (Instr.index 24 (.agg #[.int .u64 (c.set 0 : Nat), .int .u64 (c.set 1 : Nat), .int .u64 (c.set 2 : Nat), .int .u64 (c.set 3 : Nat), .int .u64 (c.set 4 : Nat)]) (.int .i64 3)).run Tryd.prog w = .ok (.int .u64 (c.set 3 : Nat)) w := fun _ => by kernel_rfl
  have i4 : ∀ w, (Instr.index 24 (.agg #[.int .u64 (c.set 0 : Nat), .int .u64 (c.set 1 : Nat), .int .u64 (c.set 2 : Nat), .int .u64 (c.set 3 : Nat), .int .u64 (c.set 4 : Nat)]) (.int .i64 4)).run Tryd.prog w = .ok (.int .u64 (c.set 4 : Nat)) w := fun _ => by kernel_rfl
  obtain ⟨W, hW⟩ : ∃ W, W = w.alloc (.cells c.row 27) := ⟨_, rfl⟩
  have hW2 := hW
  unfold SD.row at hW2
  rw [← hW] at Hch t0 Hcell HS
  have HW := Lib.hid hW2
  clear hch hr hG hZ hit hlen hshow hTs hcell hS hL hW hW2
  unfold SD.val SD.row at *
  go_enter Tryd.func19, Tryd.ntmps19
  obtain ⟨s0, s1, s2, s3, s4, a0, a1, a2, a3, a4⟩ := HS.out
  go_wp2_with (with_reducible rw [← HW.out])
  try rw [← HW.out]
  refine Hch.out.mono ?_
  rintro e w1 ⟨rfl, t1⟩
  clear s0 s1 s2 s3 s4 a0 a1 a2 a3 a4
  obtain ⟨s0, s1, s2, s3, s4, a0, a1, a2, a3, a4⟩ := HS.out.touch0 t1
  have T1 := t0.trans0 t1
  go_wp2_with fail
  clear s0 s1 s2 s3 s4 a0 a1 a2 a3 a4
  go_loopw [3, 11] (fun q iv wr => ∃ (k : Nat) (A : Option Addr) (cA : Nat), k ≤ 5 ∧ iv = .int .i64 k ∧ q = .slice A k cA ∧ Hid (OwnK 9 1 encT wr A cA ((List.range k).map fun f => fldT (c.any f) (L f))) ∧ Hid (∀ b ∈ fpo A, w1.heap.size ≤ b) ∧ Touch [] w1 wr) (fun _ iv _ => 5 - (intOf iv).toNat)
  case atStart => exact ⟨0, none, 0, by omega, rfl, rfl, Lib.hid (OwnK.nil _ _ _ _), Lib.hid (by simp [fpo]), Touch.refl _ _⟩
  case round =>
    obtain ⟨k, A, cA, hk, rfl, rfl, hown, hge, ht⟩ := hrel
    by_cases hlt : k < 5
    · have hcl := ht.cell (t1.cell (Hcell.out k hlt) (by simp)) (by simp)
      obtain ⟨s, hs⟩ : ∃ s, s = c.set k := ⟨_, rfl⟩
      have hidx : ∀ w, (Instr.index 24 (.agg #[.int .u64 (c.set 0 : Nat), .int .u64 (c.set 1 : Nat), .int .u64 (c.set 2 : Nat), .int .u64 (c.set 3 : Nat), .int .u64 (c.set 4 : Nat)]) (.int .i64 k)).run Tryd.prog w = .ok (.int .u64 (s : Nat)) w := fun w => by
        rw [hs]
        have : k = 0 ∨ k = 1 ∨ k = 2 ∨ k = 3 ∨ k = 4 := by omega
        rcases this with rfl | rfl | rfl | rfl | rfl
        · exact i0 w
        · exact i1 w
        · exact i2 w
        · exact i3 w
        · exact i4 w
      have hk0 : (0 : Int) ≤ (k : Int) := by omega
      have hk5 : (k : Int) < 5 := by omega
      have hitk := HIt.out k hlt
      rw [← hs] at hitk
      have hTk := HTs.out k
      obtain ⟨x, hx⟩ : ∃ x, x = c.any k := ⟨_, rfl⟩
      rw [← hx] at hcl hTk
      have HItk := Lib.hid hitk; have HTk := Lib.hid hTk
      clear hitk hTk hx hs i0 i1 i2 i3 i4
      rcases x with _ | _
      · go_wp2_with fail
        refine (HItk.out _ (HZ.out.touch0 (T1.trans0 ht))).mono ?_
        rintro e w2 ⟨rfl, t2⟩
        have e1 : fldT false (L k) = Lib.join ((L k).map runT) [44] := if_neg (by simp)
        rw [← e1]
        have ta := (Touch.refl [] w2).alloc (.cells #[.string (S (fldT false (L k)))] 9)
        have Hown := Lib.hid ((hown.out.touch0 t2).touch0 ta)
        have Hrd := Lib.hid (RdK.one (enc := encT) w2 9 (fldT false (L k)) #[.string (S (fldT false (L k)))] rfl)
        clear e1
        go_wp2_with (at_builtin; refine wpList_appK rfl (.tmp 22) (.tmp 25) 55 rfl 9 (.string ByteArray.empty) 1 16 info_strT Tryd.underlying55 rfl (by omega) encT_len encT_one A k cA _ (by rw [List.length_map, List.length_range]) rfl Hown.out (some ⟨w2.heap.size, 0, none⟩) 1 1 [fldT false (L k)] rfl rfl Hrd.out (by omega) (by omega) ?_; refine stop ?_)
        refine go ?_
        intro A3 c3 w3 hown3 ht3 hf3
        rw [← HTk.out] at hown3
        have tt : Touch [] w1 w3 := ((ht.trans0 t2).trans0 ta).trans ht3 (fun b hb => .inr (hge.out b hb))
        have hws := (ht.trans0 t2).size
        go_wp2_with fail
        go_roundw
        case rel => exact ⟨k + 1, A3, c3, by omega, by go_num, rfl, Lib.hid hown3, Lib.hid (fun b hb => by
          rcases hf3 b hb with e | e
          · exact hge.out b e
          · (try rw [World.size_alloc] at e); omega), tt⟩
        case measure => simp [intOf]; omega
      · have e1 : fldT true (L k) = [42] := rfl
        rw [e1] at HTk
        have ta := (Touch.refl [] wr).alloc (.cells #[.string ⟨#[42]⟩] 9)
        have Hown := Lib.hid (hown.out.touch0 ta)
        have Hrd := Lib.hid (RdK.one (enc := encT) wr 9 [42] #[.string ⟨#[42]⟩] rfl)
        clear e1
        go_wp2_with (at_builtin; refine wpList_appK rfl (.tmp 19) (.tmp 20) 55 rfl 9 (.string ByteArray.empty) 1 16 info_strT Tryd.underlying55 rfl (by omega) encT_len encT_one A k cA _ (by rw [List.length_map, List.length_range]) rfl Hown.out (some ⟨wr.heap.size, 0, none⟩) 1 1 [[42]] rfl rfl Hrd.out (by omega) (by omega) ?_; refine stop ?_)
        refine go ?_
        intro A3 c3 w3 hown3 ht3 hf3
        rw [← HTk.out] at hown3
        have tt : Touch [] w1 w3 := (ht.trans0 ta).trans ht3 (fun b hb => .inr (hge.out b hb))
        have hws := ht.size
        go_wp2_with fail
        go_roundw
        case rel => exact ⟨k + 1, A3, c3, by omega, by go_num, rfl, Lib.hid hown3, Lib.hid (fun b hb => by
          rcases hf3 b hb with e | e
          · exact hge.out b e
          · (try rw [World.size_alloc] at e); omega), tt⟩
        case measure => simp [intOf]; omega
    · obtain rfl : k = 5 := by omega
      have hj := join_any 32 ((List.range 5).map fun f => fldT (c.any f) (L f)) A cA 5 (by simp) wr hown.out (by simp) (Hlen.out 5 (by omega))
      rw [← Hshow.out] at hj
      have Hj := Lib.hid hj
      clear hj hown i0 i1 i2 i3 i4
      go_wp2_with fail
      refine Hj.out.mono ?_
      rintro e w2 ⟨rfl, t2⟩
      go_wp2_with fail
      go_ret
      exact ⟨rfl, (T1.trans0 ht).trans0 t2⟩
end Go.Proofs.YtoabloeechphkaaDoor
