/- Part 32 of the texts of this proof, one behind the other; each begins with its own sentence. No condition beyond those that its theorems state. -/
import Derived.Test.YtafoklilkdnepaaGreatDoorRu31
import Derived.Deep.DrawnRows
/- expr.Expr.copied: an expression in new memory. For every expression. -/
namespace Go.Proofs.YtafoklilkdnepaaGreatDoor
open Go.RowKit
attribute [local go_sem ↓] Go.wp_at_zero Go.wp_at_succ

theorem info_expr : (Tryz.prog.info? 44).map (fun i => (i.zero, i.size, i.bytes)) = some (some (.agg #[.int .i64 0, .string ⟨#[]⟩, .int .i64 0, .int .i64 0, .string ⟨#[]⟩, .string ⟨#[]⟩, .slice none 0 0]), 7, 96) := by kernel_rfl

set_option maxRecDepth 100000 in
set_option maxHeartbeats 6400000 in
theorem copiedX_any (n : Nat) : ∀ (e : TX n) (x : XC) (w : World), ExP xcE anyB n w x e → sizeX n e ≤ 1000000 →
  Calls Tryz.prog 58 #[x.val] w fun r w' => ∃ x', r = .returned x'.val ∧ ExP xcE (Fr w.heap.size w') n w' x' e ∧ Touch [] w w' := by
 induction n with
 | zero => intro e; exact e.elim
 | succ n ih =>
  intro e x w hx hs
  obtain ⟨nd, args⟩ := e
  obtain ⟨h1, h2, h3⟩ := hx.args
  have hsum : sumX n args ≤ 1000000 := by have hs' : 1 + sumX n args ≤ 1000000 := hs; omega
  have hlen := len_le_sum n args
  obtain ⟨⟨k, nm, ⟨vk, vn, vt⟩, op⟩, A, m, c⟩ := x
  dsimp only at h1 h2 h3
  subst h2
  dsimp only [XC.val]
  have Ih := Lib.hid ih; have H1 := Lib.hid h1
  clear ih hx h1 hs
  have t0 := (((Touch.refl [] w).alloc (.cells #[.int .i64 k, .string nm, .int .i64 vk, .int .i64 vn, .string vt, .string op, .slice none 0 0] 44)).alloc (.cells #[.int .i64 0, .string ⟨#[]⟩, .int .i64 0, .int .i64 0, .string ⟨#[]⟩, .string ⟨#[]⟩, .slice none 0 0] 44))
  have hbx := (((Touch.refl [] (w.alloc (.cells #[.int .i64 k, .string nm, .int .i64 vk, .int .i64 vn, .string vt, .string op, .slice none 0 0] 44))).alloc (.cells #[.int .i64 0, .string ⟨#[]⟩, .int .i64 0, .int .i64 0, .string ⟨#[]⟩, .string ⟨#[]⟩, .slice none 0 0] 44)).blk (heap_alloc_new w (.cells #[.int .i64 k, .string nm, .int .i64 vk, .int .i64 vn, .string vt, .string op, .slice none 0 0] 44)) (by simp))
  have hbr := (heap_alloc_new (w.alloc (.cells #[.int .i64 k, .string nm, .int .i64 vk, .int .i64 vn, .string vt, .string op, .slice none 0 0] 44)) (.cells #[.int .i64 0, .string ⟨#[]⟩, .int .i64 0, .int .i64 0, .string ⟨#[]⟩, .string ⟨#[]⟩, .slice none 0 0] 44))
  simp only [World.size_alloc] at hbx hbr
  go_enter Tryz.func58, Tryz.ntmps58
  go_wp2_with fail
  go_loopw [11] (fun i wr => ∃ (j : Nat) (B : Option Addr) (cB : Nat), j ≤ args.length ∧ i = .int .i64 j ∧ wr.heap[w.heap.size]? = some (.cells #[.int .i64 k, .string nm, .int .i64 vk, .int .i64 vn, .string vt, .string op, .slice B j cB] 44 (0, 0)) ∧
    wr.heap[w.heap.size + 1]? = some (.cells #[.int .i64 0, .string ⟨#[]⟩, .int .i64 0, .int .i64 0, .string ⟨#[]⟩, .string ⟨#[]⟩, .slice none 0 0] 44 (0, 0)) ∧ OwnX 44 xcE (w.heap.size + 2) n wr B cB (args.take j) ∧ Touch [] w wr) (fun i _ => args.length - (intOf i).toNat)
  case atStart => exact ⟨0, none, 0, by omega, rfl, hbx, hbr, OwnX.nil _ _ _ _ _, t0⟩
  case round =>
   obtain ⟨j, B, cB, hj, rfl, hX, hR, hown, ht⟩ := hrel
   have hBlt := fun b hb => (hown.lt b hb).2
   have hBlo := fun b hb => (hown.lt b hb).1
   have hXB : w.heap.size ∉ fpo B := fun hm => by have := hBlo _ hm; omega
   have hRB : w.heap.size + 1 ∉ fpo B := fun hm => by have := hBlo _ hm; omega
   have hlR := lt_of_block hR
   have hlX := lt_of_block hX
   by_cases hlt : j < args.length
   ·obtain ⟨ad, b, off, y, rfl, hadd, hy, hcell⟩ := (h3.touch0 ht).at_ xcE_length j hlt
    have hsn := List.take_succ_eq_append_getElem hlt
    have hms := size_mem (List.getElem_mem hlt)
    have Htl := Lib.hid (show (args.take j).length = j by rw [List.length_take]; omega)
    obtain ⟨a, hae⟩ : ∃ a, a = args[j] := ⟨_, rfl⟩
    rw [← hae] at hy hsn hms
    have Ta := Lib.hid (((Touch.refl [] wr).alloc (.cells #[.int .i64 y.nd.kind, .string y.nd.name, .int .i64 y.nd.v.kind, .int .i64 y.nd.v.num, .string y.nd.v.text, .string y.nd.op, .slice y.A y.n y.c] 44)).drew)
    have Hc := Lib.hid (Ih.out a y _ (hy.touch0 Ta.out) (by omega))
    have hbv := heap_alloc_new wr (.cells #[.int .i64 y.nd.kind, .string y.nd.name, .int .i64 y.nd.v.kind, .int .i64 y.nd.v.num, .string y.nd.v.text, .string y.nd.op, .slice y.A y.n y.c] 44)
    have c0 := hcell 0 _ rfl; have c1 := hcell 1 _ rfl; have c2 := hcell 2 _ rfl; have c3 := hcell 3 _ rfl; have c4 := hcell 4 _ rfl; have c5 := hcell 5 _ rfl; have c6 := hcell 6 _ rfl
    rw [Nat.add_zero] at c0
    have z0 := Ta.out.cell (cell_blk hX (i := 6) rfl) (by simp)
    have sTa : wr.heap.size ≤ (wr.alloc (.cells #[.int .i64 y.nd.kind, .string y.nd.name, .int .i64 y.nd.v.kind, .int .i64 y.nd.v.num, .string y.nd.v.text, .string y.nd.op, .slice y.A y.n y.c] 44)).drew.heap.size := Ta.out.size
    have Hsn := Lib.hid hsn
    obtain ⟨⟨k2, nm2, ⟨vk2, vn2, vt2⟩, op2⟩, A2, m2, c2'⟩ := y
    simp only [XC.val] at Hc
    simp only at c0 c1 c2 c3 c4 c5 c6 Ta hbv z0 sTa
    have ff0 : (wr.alloc (.cells #[.int .i64 k2, .string nm2, .int .i64 vk2, .int .i64 vn2, .string vt2, .string op2, .slice A2 m2 c2'] 44)).drew.cell? ⟨wr.heap.size, 0, none⟩ = some (.int .i64 k2) := cell_blk hbv rfl
    have ff1 : (wr.alloc (.cells #[.int .i64 k2, .string nm2, .int .i64 vk2, .int .i64 vn2, .string vt2, .string op2, .slice A2 m2 c2'] 44)).drew.cell? ⟨wr.heap.size, 1, none⟩ = some (.string nm2) := cell_blk hbv rfl
    have ff2 : (wr.alloc (.cells #[.int .i64 k2, .string nm2, .int .i64 vk2, .int .i64 vn2, .string vt2, .string op2, .slice A2 m2 c2'] 44)).drew.cell? ⟨wr.heap.size, 2, none⟩ = some (.int .i64 vk2) := cell_blk hbv rfl
    have ff3 : (wr.alloc (.cells #[.int .i64 k2, .string nm2, .int .i64 vk2, .int .i64 vn2, .string vt2, .string op2, .slice A2 m2 c2'] 44)).drew.cell? ⟨wr.heap.size, 3, none⟩ = some (.int .i64 vn2) := cell_blk hbv rfl
    have ff4 : (wr.alloc (.cells #[.int .i64 k2, .string nm2, .int .i64 vk2, .int .i64 vn2, .string vt2, .string op2, .slice A2 m2 c2'] 44)).drew.cell? ⟨wr.heap.size, 4, none⟩ = some (.string vt2) := cell_blk hbv rfl
    have ff5 : (wr.alloc (.cells #[.int .i64 k2, .string nm2, .int .i64 vk2, .int .i64 vn2, .string vt2, .string op2, .slice A2 m2 c2'] 44)).drew.cell? ⟨wr.heap.size, 5, none⟩ = some (.string op2) := cell_blk hbv rfl
    have ff6 : (wr.alloc (.cells #[.int .i64 k2, .string nm2, .int .i64 vk2, .int .i64 vn2, .string vt2, .string op2, .slice A2 m2 c2'] 44)).drew.cell? ⟨wr.heap.size, 6, none⟩ = some (.slice A2 m2 c2') := cell_blk hbv rfl
    clear hsn hae hcell hbv hms
    go_wp2_with fail
    refine wp_region_held_drew (S := fun w' => w'.cell? ⟨wr.heap.size, 0, none⟩ = some (.int .i64 k2) ∧ w'.cell? ⟨wr.heap.size, 1, none⟩ = some (.string nm2) ∧ w'.cell? ⟨wr.heap.size, 2, none⟩ = some (.int .i64 vk2) ∧ w'.cell? ⟨wr.heap.size, 3, none⟩ = some (.int .i64 vn2) ∧ w'.cell? ⟨wr.heap.size, 4, none⟩ = some (.string vt2) ∧ w'.cell? ⟨wr.heap.size, 5, none⟩ = some (.string op2) ∧ w'.cell? ⟨wr.heap.size, 6, none⟩ = some (.slice A2 m2 c2')) (by kernel_rfl) ⟨ff0, ff1, ff2, ff3, ff4, ff5, ff6⟩ (fun hHeld => ?_)
    refine take_d (i := 0) (d := 15) (v := ?_) rfl rfl (by kernel_rfl) (by kernel_rfl) (by kernel_rfl) (fun _ _ _ h => h) (Or.inl ⟨by rfl, ?_⟩) (by assumption) ?_
    rotate_left
    ·intro w hSw; (try dsimp only at hSw); go_simp; (try with_reducible rfl)
    try simp only [Act.put, List.setIfInBounds_toArray, List.set_cons_zero, List.set_cons_succ]
    refine take_d (i := 2) (d := 17) (v := ?_) rfl rfl (by kernel_rfl) (by kernel_rfl) (by kernel_rfl) (fun _ _ _ h => h) (Or.inl ⟨by rfl, ?_⟩) (by assumption) ?_
    rotate_left
    ·intro w hSw; (try dsimp only at hSw); go_simp; (try with_reducible rfl)
    try simp only [Act.put, List.setIfInBounds_toArray, List.set_cons_zero, List.set_cons_succ]
    refine wpAnyH_ready (rs := [1, 3]) (by kernel_rfl) (by simp) ?_
    refine AllReadyH.cons rfl (fun K hK => ?_) (AllReadyH.cons rfl (fun K hK => ?_) AllReadyH.nil)
    ·go_simp
     (try go_wp2_with fail)
     refine hK.out _ _ ⟨ff0, ff1, ff2, ff3, ff4, ff5, ff6⟩ (fun _hH => ?_)
     clear hK K
     try simp only [Act.put, List.setIfInBounds_toArray, List.set_cons_zero, List.set_cons_succ]
     refine wpAnyH_ready (rs := [3]) (by kernel_rfl) (by simp) ?_
     refine AllReadyH.cons rfl (fun K hK => ?_) AllReadyH.nil
     go_simp
     go_at_call 58
     refine (Hc.out).mono ?_
     rintro e w1 ⟨x1, rfl, hx1, t1⟩
     obtain ⟨⟨k3, nm3, ⟨vk3, vn3, vt3⟩, op3⟩, A3, m3, c3⟩ := x1
     have mm0 := t1.cell ff0 (by simp)
     have mm1 := t1.cell ff1 (by simp)
     have mm2 := t1.cell ff2 (by simp)
     have mm3 := t1.cell ff3 (by simp)
     have mm4 := t1.cell ff4 (by simp)
     have mm5 := t1.cell ff5 (by simp)
     have mm6 := t1.cell ff6 (by simp)
     have z1 := t1.cell z0 (by simp)
     have tn := (Touch.refl [] w1).alloc (.cells #[.int .i64 k3, .string nm3, .int .i64 vk3, .int .i64 vn3, .string vt3, .string op3, .slice A3 m3 c3] 44)
     have z2 := tn.cell z1 (by simp)
     have q0 := tn.cell mm0 (by simp)
     have q1 := tn.cell mm1 (by simp)
     have q2 := tn.cell mm2 (by simp)
     have q3 := tn.cell mm3 (by simp)
     have q4 := tn.cell mm4 (by simp)
     have q5 := tn.cell mm5 (by simp)
     have q6 := tn.cell mm6 (by simp)
     have hown1 := (hown.touch0 Ta.out).touch0 t1
     have s1 := t1.size
     (try go_wp2_with fail)
     refine hK.out _ _ ⟨mm0, mm1, mm2, mm3, mm4, mm5, mm6⟩ (fun _hH => ?_)
     clear hK K
     try simp only [Act.put, List.setIfInBounds_toArray, List.set_cons_zero, List.set_cons_succ]
     refine wpAnyH_ready (rs := [4]) (by kernel_rfl) (by simp) ?_
     refine AllReadyH.cons rfl (fun K hK => ?_) AllReadyH.nil
     go_simp
     (try go_wp2_with fail)
     refine hK.out _ _ ⟨q0, q1, q2, q3, q4, q5, q6⟩ (fun _hH => ?_)
     clear hK K
     try simp only [Act.put, List.setIfInBounds_toArray, List.set_cons_zero, List.set_cons_succ]
     refine wpAnyH_ready (rs := [5]) (by kernel_rfl) (by simp) ?_
     refine AllReadyH.cons rfl (fun K hK => ?_) AllReadyH.nil
     refine step_appX xcE_length xcE_one rfl (.tmp 16) (.tmp 19) 42 (by rfl) 44 _ 96 info_expr Tryz.underlying42 rfl (by omega) (w.heap.size + 2) n B j cB (args.take j) Htl.out (by rfl) hown1 ⟨⟨k3, nm3, ⟨vk3, vn3, vt3⟩, op3⟩, A3, m3, c3⟩ a (hx1.mono fun b hb => ⟨⟨by have := hb.1; omega, hb.2⟩, fun hm => by have := hBlt b hm; have := hb.1; omega⟩) (by omega) 1 (by rfl) (by omega) rfl ?_
     intro B5 cB5 w5 hown5 ht5 hf5
     have hVB : wr.heap.size ∉ fpo B := fun hm => by have := hBlt _ hm; omega
     have p0 := ht5.cell mm0 hVB
     have p1 := ht5.cell mm1 hVB
     have p2 := ht5.cell mm2 hVB
     have p3 := ht5.cell mm3 hVB
     have p4 := ht5.cell mm4 hVB
     have p5 := ht5.cell mm5 hVB
     have p6 := ht5.cell mm6 hVB
     have hX5 := ht5.blk ((Ta.out.trans0 t1).blk hX (by simp)) hXB
     have hR5 := ht5.blk ((Ta.out.trans0 t1).blk hR (by simp)) hRB
     have T5 := ((ht.trans0 Ta.out).trans0 t1).trans ht5 (fun b hb => .inr (by have := hBlo b hb; omega))
     have z5 := cell_blk hX5 (i := 6) rfl
     have f5 : w5.frozen? ⟨w.heap.size, 6, none⟩ = false := by simp [World.frozen?, hX5]
     have t7 := (Touch.refl [w.heap.size] w5).setCell (p := ⟨w.heap.size, 6, none⟩) (.inl (by simp)) (.slice B5 (j + 1) cB5)
     have r0 := t7.cell p0 (by simp; omega)
     have r1 := t7.cell p1 (by simp; omega)
     have r2 := t7.cell p2 (by simp; omega)
     have r3 := t7.cell p3 (by simp; omega)
     have r4 := t7.cell p4 (by simp; omega)
     have r5 := t7.cell p5 (by simp; omega)
     have r6 := t7.cell p6 (by simp; omega)
     refine hK.out _ _ ⟨p0, p1, p2, p3, p4, p5, p6⟩ (fun _hH => ?_)
     clear hK K
     try simp only [Act.put, List.setIfInBounds_toArray]
     refine take_d (i := 6) (d := 21) (v := ?_) rfl rfl (by kernel_rfl) (by kernel_rfl) (by kernel_rfl) (fun _ _ _ h => h) (Or.inl ⟨by rfl, ?_⟩) (by assumption) ?_
     rotate_left
     ·intro w hSw; (try dsimp only at hSw); go_simp; (try with_reducible rfl)
     try simp only [Act.put]
     refine wpAnyH_ready (rs := [7]) (by kernel_rfl) (by simp) ?_
     refine AllReadyH.cons rfl (fun K hK => ?_) AllReadyH.nil
     go_simp
     (try go_wp2_with fail)
     refine hK.out _ _ ⟨r0, r1, r2, r3, r4, r5, r6⟩ (fun _hH => ?_)
     clear hK K
     try simp only [Act.put, List.setIfInBounds_toArray, List.set_cons_zero, List.set_cons_succ]
     refine wpAnyH_done (by kernel_rfl) ?_ _
     go_wp2
     go_roundw
     case rel => exact ⟨j + 1, B5, cB5, by omega, by go_num, set_blk hX5 6 _, (t7.blk hR5 (by simp)), by rw [Hsn.out]; exact hown5.touch t7 (fun b hb => by simp at hb; omega), T5.setCell (p := ⟨w.heap.size, 6, none⟩) (.inr (by simp only; omega)) _⟩
     case measure => simp [intOf]; omega
    ·go_simp
     go_at_call 58
     refine (Hc.out).mono ?_
     rintro e w1 ⟨x1, rfl, hx1, t1⟩
     obtain ⟨⟨k3, nm3, ⟨vk3, vn3, vt3⟩, op3⟩, A3, m3, c3⟩ := x1
     have mm0 := t1.cell ff0 (by simp)
     have mm1 := t1.cell ff1 (by simp)
     have mm2 := t1.cell ff2 (by simp)
     have mm3 := t1.cell ff3 (by simp)
     have mm4 := t1.cell ff4 (by simp)
     have mm5 := t1.cell ff5 (by simp)
     have mm6 := t1.cell ff6 (by simp)
     have z1 := t1.cell z0 (by simp)
     have tn := (Touch.refl [] w1).alloc (.cells #[.int .i64 k3, .string nm3, .int .i64 vk3, .int .i64 vn3, .string vt3, .string op3, .slice A3 m3 c3] 44)
     have z2 := tn.cell z1 (by simp)
     have q0 := tn.cell mm0 (by simp)
     have q1 := tn.cell mm1 (by simp)
     have q2 := tn.cell mm2 (by simp)
     have q3 := tn.cell mm3 (by simp)
     have q4 := tn.cell mm4 (by simp)
     have q5 := tn.cell mm5 (by simp)
     have q6 := tn.cell mm6 (by simp)
     have hown1 := (hown.touch0 Ta.out).touch0 t1
     have s1 := t1.size
     (try go_wp2_with fail)
     refine hK.out _ _ ⟨mm0, mm1, mm2, mm3, mm4, mm5, mm6⟩ (fun _hH => ?_)
     clear hK K
     try simp only [Act.put, List.setIfInBounds_toArray, List.set_cons_zero, List.set_cons_succ]
     refine wpAnyH_ready (rs := [1, 4]) (by kernel_rfl) (by simp) ?_
     refine AllReadyH.cons rfl (fun K hK => ?_) (AllReadyH.cons rfl (fun K hK => ?_) AllReadyH.nil)
     ·go_simp
      (try go_wp2_with fail)
      refine hK.out _ _ ⟨mm0, mm1, mm2, mm3, mm4, mm5, mm6⟩ (fun _hH => ?_)
      clear hK K
      try simp only [Act.put, List.setIfInBounds_toArray, List.set_cons_zero, List.set_cons_succ]
      refine wpAnyH_ready (rs := [4]) (by kernel_rfl) (by simp) ?_
      refine AllReadyH.cons rfl (fun K hK => ?_) AllReadyH.nil
      go_simp
      (try go_wp2_with fail)
      refine hK.out _ _ ⟨q0, q1, q2, q3, q4, q5, q6⟩ (fun _hH => ?_)
      clear hK K
      try simp only [Act.put, List.setIfInBounds_toArray, List.set_cons_zero, List.set_cons_succ]
      refine wpAnyH_ready (rs := [5]) (by kernel_rfl) (by simp) ?_
      refine AllReadyH.cons rfl (fun K hK => ?_) AllReadyH.nil
      refine step_appX xcE_length xcE_one rfl (.tmp 16) (.tmp 19) 42 (by rfl) 44 _ 96 info_expr Tryz.underlying42 rfl (by omega) (w.heap.size + 2) n B j cB (args.take j) Htl.out (by rfl) hown1 ⟨⟨k3, nm3, ⟨vk3, vn3, vt3⟩, op3⟩, A3, m3, c3⟩ a (hx1.mono fun b hb => ⟨⟨by have := hb.1; omega, hb.2⟩, fun hm => by have := hBlt b hm; have := hb.1; omega⟩) (by omega) 1 (by rfl) (by omega) rfl ?_
      intro B5 cB5 w5 hown5 ht5 hf5
      have hVB : wr.heap.size ∉ fpo B := fun hm => by have := hBlt _ hm; omega
      have p0 := ht5.cell mm0 hVB
      have p1 := ht5.cell mm1 hVB
      have p2 := ht5.cell mm2 hVB
      have p3 := ht5.cell mm3 hVB
      have p4 := ht5.cell mm4 hVB
      have p5 := ht5.cell mm5 hVB
      have p6 := ht5.cell mm6 hVB
      have hX5 := ht5.blk ((Ta.out.trans0 t1).blk hX (by simp)) hXB
      have hR5 := ht5.blk ((Ta.out.trans0 t1).blk hR (by simp)) hRB
      have T5 := ((ht.trans0 Ta.out).trans0 t1).trans ht5 (fun b hb => .inr (by have := hBlo b hb; omega))
      have z5 := cell_blk hX5 (i := 6) rfl
      have f5 : w5.frozen? ⟨w.heap.size, 6, none⟩ = false := by simp [World.frozen?, hX5]
      have t7 := (Touch.refl [w.heap.size] w5).setCell (p := ⟨w.heap.size, 6, none⟩) (.inl (by simp)) (.slice B5 (j + 1) cB5)
      have r0 := t7.cell p0 (by simp; omega)
      have r1 := t7.cell p1 (by simp; omega)
      have r2 := t7.cell p2 (by simp; omega)
      have r3 := t7.cell p3 (by simp; omega)
      have r4 := t7.cell p4 (by simp; omega)
      have r5 := t7.cell p5 (by simp; omega)
      have r6 := t7.cell p6 (by simp; omega)
      refine hK.out _ _ ⟨p0, p1, p2, p3, p4, p5, p6⟩ (fun _hH => ?_)
      clear hK K
      try simp only [Act.put, List.setIfInBounds_toArray]
      refine take_d (i := 6) (d := 21) (v := ?_) rfl rfl (by kernel_rfl) (by kernel_rfl) (by kernel_rfl) (fun _ _ _ h => h) (Or.inl ⟨by rfl, ?_⟩) (by assumption) ?_
      rotate_left
      ·intro w hSw; (try dsimp only at hSw); go_simp; (try with_reducible rfl)
      try simp only [Act.put]
      refine wpAnyH_ready (rs := [7]) (by kernel_rfl) (by simp) ?_
      refine AllReadyH.cons rfl (fun K hK => ?_) AllReadyH.nil
      go_simp
      (try go_wp2_with fail)
      refine hK.out _ _ ⟨r0, r1, r2, r3, r4, r5, r6⟩ (fun _hH => ?_)
      clear hK K
      try simp only [Act.put, List.setIfInBounds_toArray, List.set_cons_zero, List.set_cons_succ]
      refine wpAnyH_done (by kernel_rfl) ?_ _
      go_wp2
      go_roundw
      case rel => exact ⟨j + 1, B5, cB5, by omega, by go_num, set_blk hX5 6 _, (t7.blk hR5 (by simp)), by rw [Hsn.out]; exact hown5.touch t7 (fun b hb => by simp at hb; omega), T5.setCell (p := ⟨w.heap.size, 6, none⟩) (.inr (by simp only; omega)) _⟩
      case measure => simp [intOf]; omega
     ·go_simp
      (try go_wp2_with fail)
      refine hK.out _ _ ⟨q0, q1, q2, q3, q4, q5, q6⟩ (fun _hH => ?_)
      clear hK K
      try simp only [Act.put, List.setIfInBounds_toArray, List.set_cons_zero, List.set_cons_succ]
      refine wpAnyH_ready (rs := [1]) (by kernel_rfl) (by simp) ?_
      refine AllReadyH.cons rfl (fun K hK => ?_) AllReadyH.nil
      go_simp
      (try go_wp2_with fail)
      refine hK.out _ _ ⟨q0, q1, q2, q3, q4, q5, q6⟩ (fun _hH => ?_)
      clear hK K
      try simp only [Act.put, List.setIfInBounds_toArray, List.set_cons_zero, List.set_cons_succ]
      refine wpAnyH_ready (rs := [5]) (by kernel_rfl) (by simp) ?_
      refine AllReadyH.cons rfl (fun K hK => ?_) AllReadyH.nil
      refine step_appX xcE_length xcE_one rfl (.tmp 16) (.tmp 19) 42 (by rfl) 44 _ 96 info_expr Tryz.underlying42 rfl (by omega) (w.heap.size + 2) n B j cB (args.take j) Htl.out (by rfl) hown1 ⟨⟨k3, nm3, ⟨vk3, vn3, vt3⟩, op3⟩, A3, m3, c3⟩ a (hx1.mono fun b hb => ⟨⟨by have := hb.1; omega, hb.2⟩, fun hm => by have := hBlt b hm; have := hb.1; omega⟩) (by omega) 1 (by rfl) (by omega) rfl ?_
      intro B5 cB5 w5 hown5 ht5 hf5
      have hVB : wr.heap.size ∉ fpo B := fun hm => by have := hBlt _ hm; omega
      have p0 := ht5.cell mm0 hVB
      have p1 := ht5.cell mm1 hVB
      have p2 := ht5.cell mm2 hVB
      have p3 := ht5.cell mm3 hVB
      have p4 := ht5.cell mm4 hVB
      have p5 := ht5.cell mm5 hVB
      have p6 := ht5.cell mm6 hVB
      have hX5 := ht5.blk ((Ta.out.trans0 t1).blk hX (by simp)) hXB
      have hR5 := ht5.blk ((Ta.out.trans0 t1).blk hR (by simp)) hRB
      have T5 := ((ht.trans0 Ta.out).trans0 t1).trans ht5 (fun b hb => .inr (by have := hBlo b hb; omega))
      have z5 := cell_blk hX5 (i := 6) rfl
      have f5 : w5.frozen? ⟨w.heap.size, 6, none⟩ = false := by simp [World.frozen?, hX5]
      have t7 := (Touch.refl [w.heap.size] w5).setCell (p := ⟨w.heap.size, 6, none⟩) (.inl (by simp)) (.slice B5 (j + 1) cB5)
      have r0 := t7.cell p0 (by simp; omega)
      have r1 := t7.cell p1 (by simp; omega)
      have r2 := t7.cell p2 (by simp; omega)
      have r3 := t7.cell p3 (by simp; omega)
      have r4 := t7.cell p4 (by simp; omega)
      have r5 := t7.cell p5 (by simp; omega)
      have r6 := t7.cell p6 (by simp; omega)
      refine hK.out _ _ ⟨p0, p1, p2, p3, p4, p5, p6⟩ (fun _hH => ?_)
      clear hK K
      try simp only [Act.put, List.setIfInBounds_toArray]
      refine take_d (i := 6) (d := 21) (v := ?_) rfl rfl (by kernel_rfl) (by kernel_rfl) (by kernel_rfl) (fun _ _ _ h => h) (Or.inl ⟨by rfl, ?_⟩) (by assumption) ?_
      rotate_left
      ·intro w hSw; (try dsimp only at hSw); go_simp; (try with_reducible rfl)
      try simp only [Act.put]
      refine wpAnyH_ready (rs := [7]) (by kernel_rfl) (by simp) ?_
      refine AllReadyH.cons rfl (fun K hK => ?_) AllReadyH.nil
      go_simp
      (try go_wp2_with fail)
      refine hK.out _ _ ⟨r0, r1, r2, r3, r4, r5, r6⟩ (fun _hH => ?_)
      clear hK K
      try simp only [Act.put, List.setIfInBounds_toArray, List.set_cons_zero, List.set_cons_succ]
      refine wpAnyH_done (by kernel_rfl) ?_ _
      go_wp2
      go_roundw
      case rel => exact ⟨j + 1, B5, cB5, by omega, by go_num, set_blk hX5 6 _, (t7.blk hR5 (by simp)), by rw [Hsn.out]; exact hown5.touch t7 (fun b hb => by simp at hb; omega), T5.setCell (p := ⟨w.heap.size, 6, none⟩) (.inr (by simp only; omega)) _⟩
      case measure => simp [intOf]; omega
   ·obtain rfl : j = args.length := by omega
    rw [List.take_length] at hown
    have H7 := Lib.hid (fun (v0 v1 v2 v3 v4 v5 v6 : Value) => out7 hR v0 v1 v2 v3 v4 v5 v6)
    obtain ⟨d0, d1, d2, d3, d4, d5, d6, _⟩ := blk7 hX
    obtain ⟨e0, e1, e2, e3, e4, e5, e6, g0, g1, g2, g3, g4, g5, g6⟩ := blk7 hR
    go_wp2
    obtain ⟨q1, q2⟩ := H7.out (.int .i64 k) (.string nm) (.int .i64 vk) (.int .i64 vn) (.string vt) (.string op) (.slice B args.length cB)
    refine bodyPost_ret (results_cell_row rfl _ _ (w.heap.size + 1) _ _ _ _ rfl q1 Tryz.underlying44 rfl rfl) rfl ⟨⟨⟨k, nm, ⟨vk, vn, vt⟩, op⟩, B, args.length, cB⟩, rfl, ?_, ht.trans q2 (fun b hb => .inr (by simp at hb; omega))⟩
    have hT := (hown.touch q2 (fun b hb => by simp at hb; omega)).tree ⟨k, nm, ⟨vk, vn, vt⟩, op⟩ args.length rfl
    rw [H1.out] at hT ⊢
    exact hT.mono fun b hb => ⟨by have := hb.1; omega, hb.2⟩
end Go.Proofs.YtafoklilkdnepaaGreatDoor

/- expr.Column, Const, Unary, Binary: expressions made of expressions, in new memory. For all. -/
namespace Go.Proofs.YtafoklilkdnepaaGreatDoor
open Go.RowKit
attribute [local go_sem ↓] Go.wp_at_zero Go.wp_at_succ

theorem leafX {enc : XC → List Value} {p : Nat → Prop} (n : Nat) (w : World) (d : ND) : ExP enc p (n + 1) w ⟨d, none, 0, 0⟩ (d, []) := ⟨rfl, rfl, by simp [fpo], [], rfl, RdK.nil _ _ _, fun i h => absurd h (by simp)⟩

set_option maxRecDepth 20000 in
set_option maxHeartbeats 1600000 in
theorem unaryX_any (n : Nat) (op : ByteArray) (a : TX n) (x : XC) (w : World) (ha : ExP xcE anyB n w x a) (hs : sizeX n a ≤ 1000000) : Calls Tryz.prog 27 #[.string op, x.val] w fun r w' => ∃ x', r = .returned x'.val ∧ ExP xcE (Fr w.heap.size w') (n + 1) w' x' (⟨3, ⟨#[]⟩, ⟨0, 0, ⟨#[]⟩⟩, op⟩, [a]) ∧ Touch [] w w' := by
 have Hc := Lib.hid fun w' (t : Touch [] w w') => copiedX_any n a x w' (ha.touch0 t) hs
 obtain ⟨⟨k1, nm1, ⟨vk1, vn1, vt1⟩, op1⟩, A1, m1, c1⟩ := x
 simp only [XC.val] at Hc ⊢
 have t0 := ((Touch.refl [] w).alloc (.cells #[.int .i64 k1, .string nm1, .int .i64 vk1, .int .i64 vn1, .string vt1, .string op1, .slice A1 m1 c1] 44)).alloc (.cells #[.int .i64 0, .string ⟨#[]⟩, .int .i64 0, .int .i64 0, .string ⟨#[]⟩, .string ⟨#[]⟩, .slice none 0 0] 44)
 have hbr := heap_alloc_new (w.alloc (.cells #[.int .i64 k1, .string nm1, .int .i64 vk1, .int .i64 vn1, .string vt1, .string op1, .slice A1 m1 c1] 44)) (.cells #[.int .i64 0, .string ⟨#[]⟩, .int .i64 0, .int .i64 0, .string ⟨#[]⟩, .string ⟨#[]⟩, .slice none 0 0] 44)
 rw [World.size_alloc] at hbr
 have Hbr := Lib.hid hbr
 clear hbr
 go_enter Tryz.func27, Tryz.ntmps27
 go_wp2_with fail
 refine (Hc.out _ t0).mono ?_
 rintro e w1 ⟨x1, rfl, hx1, t1⟩
 obtain ⟨⟨k2, nm2, ⟨vk2, vn2, vt2⟩, op2⟩, A2, m2, c2⟩ := x1
 dsimp only
 have s1 := t1.size
 simp only [World.size_alloc] at s1
 have tb := (Touch.refl [] w1).alloc (.cells #[.int .i64 k2, .string nm2, .int .i64 vk2, .int .i64 vn2, .string vt2, .string op2, .slice A2 m2 c2] 44)
 have hb2 := tb.blk (t1.blk Hbr.out (by simp)) (by simp)
 obtain ⟨e0, e1, e2, e3, e4, e5, e6, g0, g1, g2, g3, g4, g5, g6⟩ := blk7 hb2
 go_wp2_with fail
 obtain ⟨q1, q2⟩ := out7 hb2 (.int .i64 3) (.string ⟨#[]⟩) (.int .i64 0) (.int .i64 0) (.string ⟨#[]⟩) (.string op) (.slice (some ⟨w1.heap.size, 0, none⟩) 1 1)
 refine bodyPost_ret (results_cell_row rfl _ _ (w.heap.size + 1) _ _ _ _ rfl q1 Tryz.underlying44 rfl rfl) rfl ⟨⟨⟨3, ⟨#[]⟩, ⟨0, 0, ⟨#[]⟩⟩, op⟩, some ⟨w1.heap.size, 0, none⟩, 1, 1⟩, rfl, ?_, ((t0.trans0 t1).trans0 tb).trans q2 (fun b hb => .inr (by simp at hb; omega))⟩
 have sq := q2.size
 simp only [World.size_alloc] at sq
 refine ⟨rfl, rfl, fun b hb => ?_, [⟨⟨k2, nm2, ⟨vk2, vn2, vt2⟩, op2⟩, A2, m2, c2⟩], rfl, RdK.touch (RdK.row w1 44 [(⟨⟨k2, nm2, ⟨vk2, vn2, vt2⟩, op2⟩, A2, m2, c2⟩ : XC)] _ rfl) q2 (by simp [fpo]; omega), fun i a1 b1 => ?_⟩
 ·simp [fpo] at hb
  subst hb
  exact ⟨by omega, by omega⟩
 ·obtain rfl : i = 0 := by simp at a1; omega
  exact ((hx1.touch0 tb).touch q2 (fun b hb hp => by simp at hb; have := hp.1; simp at this; omega)).mono fun b hb => ⟨by have := hb.1; simp at this; omega, by have := hb.2; omega⟩

end Go.Proofs.YtafoklilkdnepaaGreatDoor

/- table.Table.Equal at two tables that are one: true. For every such tables. -/
namespace Go.Proofs.YtafoklilkdnepaaGreatDoor
open Go.RowKit

theorem eq1_any (A B : Option Addr) (c1 c2 n m : Nat) (l r : List VD) (hn : l.length = n) (hm : r.length = m) (w : World) (h : ValsAt w A l) (h2 : ValsAt w B r) (hl : n ≤ 140737000000000) (hl2 : m ≤ 140737000000000) :
  Calls Tryz.prog 53 #[.slice A n c1, .slice B m c2] w fun e w' => e = .returned (.bool (eqVs l r)) ∧ Touch [] w w' := by
 have Hcf := Lib.hid (equalV_any A B c1 c2 n m l r hn hm w h h2 hl hl2)
 go_enter Tryz.func53, Tryz.ntmps53
 go_wp2_with fail
 refine Hcf.out.mono ?_
 rintro e w1 ⟨rfl, t1⟩
 go_wp2
 go_ret
 exact ⟨rfl, t1⟩

set_option maxRecDepth 20000 in
set_option maxHeartbeats 1600000 in
theorem equalFunc_same (A B : Option Addr) (c1 c2 n : Nat) (rows : List (List VD)) (hn : rows.length = n) (hr : ∀ r ∈ rows, r.length ≤ 140737000000000) (w : World) (h : RowsAt w A rows) (h2 : RowsAt w B rows) (hl : n ≤ 140737000000000) :
  Calls Tryz.prog 52 #[.slice A n c1, .slice B n c2, .func (.func 53) #[] #[]] w fun e w' => e = .returned (.bool true) ∧ Touch [] w w' := by
 subst hn
 have hnb : ((rows.length : Int) != (rows.length : Int)) = false := by simp
 go_enter Tryz.func52, Tryz.ntmps52
 go_wp2
 clear hnb
 go_loopw [17] (fun i wr => ∃ k : Nat, k ≤ rows.length ∧ i = .int .i64 k ∧ Touch [] w wr) (fun i _ => rows.length - (intOf i).toNat)
 case atStart => exact ⟨0, by omega, rfl, Touch.refl _ _⟩
 case round =>
  obtain ⟨k, hk, rfl, ht⟩ := hrel
  by_cases hlt : k < rows.length
  ·obtain ⟨ad, A1, d1, rfl, e0, hv1⟩ := (h.touch0 ht).at_ k hlt
   obtain ⟨bd, B1, d2, rfl, e1, hv2⟩ := (h2.touch0 ht).at_ k hlt
   have hrl := hr _ (List.getElem_mem hlt)
   obtain ⟨r, hre⟩ : ∃ r, r = rows[k] := ⟨_, rfl⟩
   rw [← hre] at e0 e1 hv1 hv2 hrl
   have hf := eq1_any A1 B1 d1 d2 r.length r.length r r rfl rfl wr hv1 hv2 hrl hrl
   rw [(eqVs_iff _ _).2 rfl] at hf
   have Hf := Lib.hid hf
   have hkI : (k : Int) < (rows.length : Int) := by omega
   clear hf hre
   go_wp2_with fail
   refine Hf.out.mono ?_
   rintro e w1 ⟨rfl, t1⟩
   go_wp2
   go_roundw
   case rel => exact ⟨k + 1, by omega, by go_num, ht.trans0 t1⟩
   case measure => simp [intOf]; omega
  ·obtain rfl : k = rows.length := by omega
   go_wp2
   go_ret
   exact ⟨rfl, ht⟩

set_option maxRecDepth 20000 in
set_option maxHeartbeats 1600000 in
theorem tabEqual_same (A1 B1 A2 B2 : Option Addr) (c1 d1 c2 d2 n m : Nat) (cs : List CD) (rows : List (List VD)) (hn : cs.length = n) (hm : rows.length = m) (hr : ∀ r ∈ rows, r.length ≤ 140737000000000) (w : World)
  (h1 : ColsAt w A1 cs) (h2 : ColsAt w A2 cs) (g1 : RowsAt w B1 rows) (g2 : RowsAt w B2 rows) (hl : n ≤ 140737000000000) (hl2 : m ≤ 140737000000000) :
  Calls Tryz.prog 24 #[.agg #[.slice A1 n c1, .slice B1 m d1], .agg #[.slice A2 n c2, .slice B2 m d2]] w fun e w' => e = .returned (.bool true) ∧ Touch [] w w' := by
 have t0 := ((Touch.refl [] w).alloc (.cells #[.slice A1 n c1, .slice B1 m d1] 27)).alloc (.cells #[.slice A2 n c2, .slice B2 m d2] 27)
 have hb1 := ((Touch.refl [] (w.alloc (.cells #[.slice A1 n c1, .slice B1 m d1] 27))).alloc (.cells #[.slice A2 n c2, .slice B2 m d2] 27)).blk (heap_alloc_new w (.cells #[.slice A1 n c1, .slice B1 m d1] 27)) (by simp)
 have hb2 := heap_alloc_new (w.alloc (.cells #[.slice A1 n c1, .slice B1 m d1] 27)) (.cells #[.slice A2 n c2, .slice B2 m d2] 27)
 rw [World.size_alloc] at hb2
 have he := schEqual_any A1 A2 c1 c2 n n cs cs hn hn _ (h1.touch0 t0) (h2.touch0 t0) hl hl
 rw [(eqCs_iff _ _).2 rfl] at he
 have He := Lib.hid he
 have Hf := Lib.hid fun w' (t : Touch [] w w') => equalFunc_same B1 B2 d1 d2 m rows hm hr w' (g1.touch0 t) (g2.touch0 t) hl2
 have Hb1 := Lib.hid hb1; have Hb2 := Lib.hid hb2
 clear he hb1 hb2
 go_enter Tryz.func24, Tryz.ntmps24
 go_wp2_with fail
 refine He.out.mono ?_
 rintro e w1 ⟨rfl, t1⟩
 have x1 := t1.cell (cell_blk Hb1.out (i := 1) (v := .slice B1 m d1) rfl) (by simp)
 have x2 := t1.cell (cell_blk Hb2.out (i := 1) (v := .slice B2 m d2) rfl) (by simp)
 go_wp2_with fail
 refine (Hf.out _ (t0.trans0 t1)).mono ?_
 rintro e w2 ⟨rfl, t2⟩
 go_wp2
 go_ret
 exact ⟨rfl, (t0.trans0 t1).trans0 t2⟩
end Go.Proofs.YtafoklilkdnepaaGreatDoor

/- bywashlaw05.smallTable: what it lets by is within bounds. For every table. -/
namespace Go.Proofs.YtafoklilkdnepaaGreatDoor
open Go.RowKit

def smN (c : CD) : Bool := decide (c.name.size ≤ 50)
def smV (v : VD) : Bool := decide (v.text.size ≤ 100)
def smR (r : List VD) : Bool := decide (r.length ≤ 20) && r.all smV
def smallT (cs : List CD) (rows : List (List VD)) : Bool := cs.all smN && (rows.all smR && (decide (cs.length ≤ 16) && decide (rows.length ≤ 30)))
theorem smallT_true {cs : List CD} {rows : List (List VD)} (h : smallT cs rows = true) : (∀ c ∈ cs, c.name.size ≤ 50) ∧ (∀ r ∈ rows, r.length ≤ 20 ∧ ∀ v ∈ r, v.text.size ≤ 100) ∧ cs.length ≤ 16 ∧ rows.length ≤ 30 := by
 unfold smallT at h
 rw [Bool.and_eq_true, Bool.and_eq_true, Bool.and_eq_true, List.all_eq_true, List.all_eq_true] at h
 refine ⟨fun c hc => by simpa [smN] using h.1 c hc, fun r hr => ?_, of_decide_eq_true h.2.2.1, of_decide_eq_true h.2.2.2⟩
 have := h.2.1 r hr
 unfold smR at this
 rw [Bool.and_eq_true, List.all_eq_true] at this
 exact ⟨of_decide_eq_true this.1, fun v hv => by simpa [smV] using this.2 v hv⟩

set_option maxRecDepth 20000 in
set_option maxHeartbeats 3200000 in
theorem smallTable_any (A B : Option Addr) (c1 c2 n m : Nat) (cs : List CD) (rows : List (List VD)) (hn : cs.length = n) (hm : rows.length = m) (hc : n ≤ 9223372036854775807 ∧ ∀ c ∈ cs, c.name.size ≤ 9223372036854775807 ∧ -9223372036854775808 ≤ c.typ ∧ c.typ ≤ 9223372036854775807)
  (hr : m ≤ 9223372036854775807 ∧ ∀ r ∈ rows, r.length ≤ 9223372036854775807 ∧ ∀ v ∈ r, v.Ok 9223372036854775807) (w : World) (h : ColsAt w A cs) (h2 : RowsAt w B rows) :
  Calls Tryz.prog 13 #[.agg #[.slice A n c1, .slice B m c2]] w fun e w' => e = .returned (.bool (smallT cs rows)) ∧ Touch [] w w' := by
 obtain ⟨hc1, hc2⟩ := hc
 obtain ⟨hr1, hr2⟩ := hr
 subst hn hm
 go_enter Tryz.func13, Tryz.ntmps13
 have t0 := (Touch.refl [] w).alloc (.cells #[.slice A cs.length c1, .slice B rows.length c2] 27)
 have hbx := heap_alloc_new w (.cells #[.slice A cs.length c1, .slice B rows.length c2] 27)
 have Hbx := Lib.hid hbx
 clear hbx
 go_wp2
 go_loopw [12] (fun i wr => ∃ k : Nat, k ≤ cs.length ∧ i = .int .i64 k ∧ Hid ((cs.take k).all smN = true) ∧ Touch [] (w.alloc (.cells #[.slice A cs.length c1, .slice B rows.length c2] 27)) wr) (fun i _ => cs.length - (intOf i).toNat)
 case atStart => exact ⟨0, by omega, rfl, Lib.hid rfl, Touch.refl _ _⟩
 case round =>
  obtain ⟨k, hk, rfl, Hall, ht'⟩ := hrel
  have ht := t0.trans0 ht'
  by_cases hlt : k < cs.length
  ·obtain ⟨ad, b, off, rfl, hadd, e0, e1⟩ := (h.touch0 ht).at_ k hlt
   have hcok := hc2 _ (List.getElem_mem hlt)
   have hno := all_no (p := smN) hlt
   have hyes := all_snoc (p := smN) hlt Hall.out
   obtain ⟨c, hce⟩ : ∃ c, c = cs[k] := ⟨_, rfl⟩
   rw [← hce] at e0 e1 hcok hno hyes
   obtain ⟨hcn, hct1, hct2⟩ := hcok
   have Hno := Lib.hid hno; have Hyes := Lib.hid hyes
   clear hce hno hyes Hall
   by_cases h1 : 50 < c.name.size
   ·have Hs := Lib.hid (Hno.out (by simp [smN]; omega))
    go_wp2
    go_ret
    exact ⟨ret_bool (by unfold smallT; rw [Hs.out]; rfl), ht.alloc _⟩
   ·have Hs := Lib.hid (Hyes.out (by simp [smN]; omega))
    go_wp2
    go_roundw
    case rel => exact ⟨k + 1, by omega, by go_num, Hs, ht'.alloc _⟩
    case measure => simp [intOf]; omega
  ·obtain rfl : k = cs.length := by omega
   have hall := Hall.out
   rw [List.take_length] at hall
   have HA := Lib.hid hall
   have x1 := ht'.cell (cell_blk Hbx.out (i := 1) (v := .slice B rows.length c2) rfl) (by simp)
   clear hall Hall
   go_wp2
   clear x1
   go_loopw [24] (fun i wr2 => ∃ q : Nat, q ≤ rows.length ∧ i = .int .i64 q ∧ Hid ((rows.take q).all smR = true) ∧ Touch [] (w.alloc (.cells #[.slice A cs.length c1, .slice B rows.length c2] 27)) wr2) (fun i _ => rows.length - (intOf i).toNat)
   case atStart => exact ⟨0, by omega, rfl, Lib.hid rfl, ht'⟩
   case round =>
    clear ht' ht
    obtain ⟨q, hq, rfl, Hall, ht'⟩ := hrel
    have ht := t0.trans0 ht'
    by_cases hltq : q < rows.length
    ·obtain ⟨bd, RA, rc, rfl, r0, hrv⟩ := (h2.touch0 ht).at_ q hltq
     have hro := hr2 _ (List.getElem_mem hltq)
     have hno := all_no (p := smR) hltq
     have hyes := all_snoc (p := smR) hltq Hall.out
     obtain ⟨r, hre⟩ : ∃ r, r = rows[q] := ⟨_, rfl⟩
     rw [← hre] at r0 hrv hro hno hyes
     have Hno := Lib.hid hno; have Hyes := Lib.hid hyes
     obtain ⟨hrl, hrok⟩ := hro
     clear hre hno hyes Hall
     by_cases h20 : 20 < r.length
     ·have Hs := Lib.hid (Hno.out (by unfold smR; rw [decide_eq_false (by omega)]; rfl))
      go_wp2
      go_ret
      exact ⟨ret_bool (by unfold smallT; rw [HA.out, Hs.out]; rfl), ht⟩
     ·have HsR := Lib.hid (show smR r = r.all smV by unfold smR; rw [decide_eq_true (by omega)]; rfl)
      go_wp2
      go_loopw [33] (fun i w3 => ∃ j : Nat, j ≤ r.length ∧ i = .int .i64 j ∧ Hid ((r.take j).all smV = true) ∧ Touch [] wr w3) (fun i _ => r.length - (intOf i).toNat)
      case atStart => exact ⟨0, by omega, rfl, Lib.hid rfl, Touch.refl _ _⟩
      case round =>
       obtain ⟨j, hj, rfl, Hall, ht3⟩ := hrel
       by_cases hltj : j < r.length
       ·obtain ⟨vd, vb, voff, rfl, hvadd, f0, f1, f2⟩ := (hrv.touch0 ht3).at_ j hltj
        have hvo := hrok _ (List.getElem_mem hltj)
        have hno := all_no (p := smV) hltj
        have hyes := all_snoc (p := smV) hltj Hall.out
        obtain ⟨v, hve⟩ : ∃ v, v = r[j] := ⟨_, rfl⟩
        rw [← hve] at f0 f1 f2 hvo hno hyes
        obtain ⟨_, _, hvt⟩ := hvo
        have Hvno := Lib.hid hno; have Hvyes := Lib.hid hyes
        clear hve hno hyes Hall
        by_cases h1 : 100 < v.text.size
        ·have Hs := Lib.hid (Hno.out (by rw [HsR.out]; exact Hvno.out (by simp [smV]; omega)))
         go_wp2
         go_ret
         exact ⟨ret_bool (by unfold smallT; rw [HA.out, Hs.out]; rfl), (ht.trans0 ht3).alloc _⟩
        ·have Hs := Lib.hid (Hvyes.out (by simp [smV]; omega))
         go_wp2
         go_roundw
         case rel => exact ⟨j + 1, by omega, by go_num, Hs, ht3.alloc _⟩
         case measure => simp [intOf]; omega
       ·obtain rfl : j = r.length := by omega
        have hall := Hall.out
        rw [List.take_length] at hall
        have Hs := Lib.hid (Hyes.out (by rw [HsR.out]; exact hall))
        clear hall Hall
        go_wp2
        go_roundw
        case rel => exact ⟨q + 1, by omega, by go_num, Hs, ht'.trans0 ht3⟩
        case measure => simp [intOf]; omega
    ·obtain rfl : q = rows.length := by omega
     have hall := Hall.out
     rw [List.take_length] at hall
     have Hs := Lib.hid (show smallT cs rows = (decide ((cs.length : Int) ≤ 16) && decide ((rows.length : Int) ≤ 30)) by
      unfold smallT
      rw [HA.out, hall, Bool.true_and, Bool.true_and, Bool.eq_iff_iff]
      simp
      omega)
     have x0 := ht'.cell (cell_blk Hbx.out (i := 0) (v := .slice A cs.length c1) rfl) (by simp)
     have x1 := ht'.cell (cell_blk Hbx.out (i := 1) (v := .slice B rows.length c2) rfl) (by simp)
     clear hall Hall
     by_cases h20 : (cs.length : Int) ≤ 16
     ·go_wp2
      go_ret
      exact ⟨ret_bool (by rw [Hs.out, decide_eq_true h20, Bool.true_and]), ht⟩
     ·go_wp2
      go_ret
      exact ⟨ret_bool (by rw [Hs.out, decide_eq_false (by omega), Bool.false_and]), ht⟩
end Go.Proofs.YtafoklilkdnepaaGreatDoor
