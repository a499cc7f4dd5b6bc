/- Part 6 of the texts of this proof, one behind the other; each begins with its own sentence. No condition beyond those that its theorems state. -/
import Derived.Test.YtlkckkagoommaaaEt5
import Derived.Deep.DrawnRows
/- expr.Expr.copied: an expression in new memory. For every expression. -/
namespace Go.Proofs.Ytlkckkagoommaaa
open Go.RowKit
attribute [local go_sem ↓] Go.wp_at_zero Go.wp_at_succ

theorem info_expr : (Try.prog.info? 33).map (fun i => (i.zero, i.size, i.bytes)) = some (some (.agg #[.int .i64 0, .string ⟨#[]⟩, .int .i64 0, .int .i64 0, .string ⟨#[]⟩, .string ⟨#[]⟩, .slice none 0 0]), 7, 96) := by kernel_rfl

set_option maxRecDepth 100000 in
set_option maxHeartbeats 6400000 in
theorem copied_any (n : Nat) : ∀ (e : TX n) (x : XC) (w : World), ExP xcE anyB n w x e → sizeX n e ≤ 1000000 →
    Calls Try.prog 44 #[x.val] w fun r w' => ∃ x', r = .returned x'.val ∧ ExP xcE (Fr w.heap.size w') n w' x' e ∧ Touch [] w w' := by
  induction n with
  | zero => intro e; exact e.elim
  | succ n ih =>
    intro e x w hx hs
    obtain ⟨nd, args⟩ := e
    obtain ⟨h1, h2, h3⟩ := hx.args
    have hsum : sumX n args ≤ 1000000 := by have hs' : 1 + sumX n args ≤ 1000000 := hs; omega
    have hlen := len_le_sum n args
    obtain ⟨⟨k, nm, ⟨vk, vn, vt⟩, op⟩, A, m, c⟩ := x
    dsimp only at h1 h2 h3
    subst h2
    dsimp only [XC.val]
    have Ih := Lib.hid ih; have H1 := Lib.hid h1
    clear ih hx h1 hs
    have t0 := (((Touch.refl [] w).alloc (.cells #[.int .i64 k, .string nm, .int .i64 vk, .int .i64 vn, .string vt, .string op, .slice none 0 0] 33)).alloc (.cells #[.int .i64 0, .string ⟨#[]⟩, .int .i64 0, .int .i64 0, .string ⟨#[]⟩, .string ⟨#[]⟩, .slice none 0 0] 33))
    have hbx := (((Touch.refl [] (w.alloc (.cells #[.int .i64 k, .string nm, .int .i64 vk, .int .i64 vn, .string vt, .string op, .slice none 0 0] 33))).alloc (.cells #[.int .i64 0, .string ⟨#[]⟩, .int .i64 0, .int .i64 0, .string ⟨#[]⟩, .string ⟨#[]⟩, .slice none 0 0] 33)).blk (heap_alloc_new w (.cells #[.int .i64 k, .string nm, .int .i64 vk, .int .i64 vn, .string vt, .string op, .slice none 0 0] 33)) (by simp))
    have hbr := (heap_alloc_new (w.alloc (.cells #[.int .i64 k, .string nm, .int .i64 vk, .int .i64 vn, .string vt, .string op, .slice none 0 0] 33)) (.cells #[.int .i64 0, .string ⟨#[]⟩, .int .i64 0, .int .i64 0, .string ⟨#[]⟩, .string ⟨#[]⟩, .slice none 0 0] 33))
    simp only [World.size_alloc] at hbx hbr
    go_enter Try.func44, Try.ntmps44
    go_wp2_with fail
    go_loopw [11] (fun i wr => ∃ (j : Nat) (B : Option Addr) (cB : Nat), j ≤ args.length ∧ i = .int .i64 j ∧ wr.heap[w.heap.size]? = some (.cells #[.int .i64 k, .string nm, .int .i64 vk, .int .i64 vn, .string vt, .string op, .slice B j cB] 33 (0, 0)) ∧
        wr.heap[w.heap.size + 1]? = some (.cells #[.int .i64 0, .string ⟨#[]⟩, .int .i64 0, .int .i64 0, .string ⟨#[]⟩, .string ⟨#[]⟩, .slice none 0 0] 33 (0, 0)) ∧ OwnX 33 xcE (w.heap.size + 2) n wr B cB (args.take j) ∧ Touch [] w wr) (fun i _ => args.length - (intOf i).toNat)
    case atStart => exact ⟨0, none, 0, by omega, rfl, hbx, hbr, OwnX.nil _ _ _ _ _, t0⟩
    case round =>
      obtain ⟨j, B, cB, hj, rfl, hX, hR, hown, ht⟩ := hrel
      have hBlt := fun b hb => (hown.lt b hb).2
      have hBlo := fun b hb => (hown.lt b hb).1
      have hXB : w.heap.size ∉ fpo B := fun hm => by have := hBlo _ hm; omega
      have hRB : w.heap.size + 1 ∉ fpo B := fun hm => by have := hBlo _ hm; omega
      have hlR := lt_of_block hR
      have hlX := lt_of_block hX
      by_cases hlt : j < args.length
      · obtain ⟨ad, b, off, y, rfl, hadd, hy, hcell⟩ := (h3.touch0 ht).at_ xcE_length j hlt
        have hsn := List.take_succ_eq_append_getElem hlt
        have hms := size_mem (List.getElem_mem hlt)
        have Htl := Lib.hid (show (args.take j).length = j by rw [List.length_take]; omega)
        obtain ⟨a, hae⟩ : ∃ a, a = args[j] := ⟨_, rfl⟩
        rw [← hae] at hy hsn hms
        have Ta := Lib.hid (((Touch.refl [] wr).alloc (.cells #[.int .i64 y.nd.kind, .string y.nd.name, .int .i64 y.nd.v.kind, .int .i64 y.nd.v.num, .string y.nd.v.text, .string y.nd.op, .slice y.A y.n y.c] 33)).drew)
        have Hc := Lib.hid (Ih.out a y _ (hy.touch0 Ta.out) (by omega))
        have hbv := heap_alloc_new wr (.cells #[.int .i64 y.nd.kind, .string y.nd.name, .int .i64 y.nd.v.kind, .int .i64 y.nd.v.num, .string y.nd.v.text, .string y.nd.op, .slice y.A y.n y.c] 33)
        have c0 := hcell 0 _ rfl; have c1 := hcell 1 _ rfl; have c2 := hcell 2 _ rfl; have c3 := hcell 3 _ rfl; have c4 := hcell 4 _ rfl; have c5 := hcell 5 _ rfl; have c6 := hcell 6 _ rfl
        rw [Nat.add_zero] at c0
        have z0 := Ta.out.cell (cell_blk hX (i := 6) rfl) (by simp)
        have sTa : wr.heap.size ≤ (wr.alloc (.cells #[.int .i64 y.nd.kind, .string y.nd.name, .int .i64 y.nd.v.kind, .int .i64 y.nd.v.num, .string y.nd.v.text, .string y.nd.op, .slice y.A y.n y.c] 33)).drew.heap.size := Ta.out.size
        have Hsn := Lib.hid hsn
        obtain ⟨⟨k2, nm2, ⟨vk2, vn2, vt2⟩, op2⟩, A2, m2, c2'⟩ := y
        simp only [XC.val] at Hc
        simp only at c0 c1 c2 c3 c4 c5 c6 Ta hbv z0 sTa
        have ff0 : (wr.alloc (.cells #[.int .i64 k2, .string nm2, .int .i64 vk2, .int .i64 vn2, .string vt2, .string op2, .slice A2 m2 c2'] 33)).drew.cell? ⟨wr.heap.size, 0, none⟩ = some (.int .i64 k2) := cell_blk hbv rfl
        have ff1 : (wr.alloc (.cells #[.int .i64 k2, .string nm2, .int .i64 vk2, .int .i64 vn2, .string vt2, .string op2, .slice A2 m2 c2'] 33)).drew.cell? ⟨wr.heap.size, 1, none⟩ = some (.string nm2) := cell_blk hbv rfl
        have ff2 : (wr.alloc (.cells #[.int .i64 k2, .string nm2, .int .i64 vk2, .int .i64 vn2, .string vt2, .string op2, .slice A2 m2 c2'] 33)).drew.cell? ⟨wr.heap.size, 2, none⟩ = some (.int .i64 vk2) := cell_blk hbv rfl
        have ff3 : (wr.alloc (.cells #[.int .i64 k2, .string nm2, .int .i64 vk2, .int .i64 vn2, .string vt2, .string op2, .slice A2 m2 c2'] 33)).drew.cell? ⟨wr.heap.size, 3, none⟩ = some (.int .i64 vn2) := cell_blk hbv rfl
        have ff4 : (wr.alloc (.cells #[.int .i64 k2, .string nm2, .int .i64 vk2, .int .i64 vn2, .string vt2, .string op2, .slice A2 m2 c2'] 33)).drew.cell? ⟨wr.heap.size, 4, none⟩ = some (.string vt2) := cell_blk hbv rfl
        have ff5 : (wr.alloc (.cells #[.int .i64 k2, .string nm2, .int .i64 vk2, .int .i64 vn2, .string vt2, .string op2, .slice A2 m2 c2'] 33)).drew.cell? ⟨wr.heap.size, 5, none⟩ = some (.string op2) := cell_blk hbv rfl
        have ff6 : (wr.alloc (.cells #[.int .i64 k2, .string nm2, .int .i64 vk2, .int .i64 vn2, .string vt2, .string op2, .slice A2 m2 c2'] 33)).drew.cell? ⟨wr.heap.size, 6, none⟩ = some (.slice A2 m2 c2') := cell_blk hbv rfl
        clear hsn hae hcell hbv hms
        go_wp2_with fail
        refine wp_region_held_drew (S := fun w' => w'.cell? ⟨wr.heap.size, 0, none⟩ = some (.int .i64 k2) ∧ w'.cell? ⟨wr.heap.size, 1, none⟩ = some (.string nm2) ∧ w'.cell? ⟨wr.heap.size, 2, none⟩ = some (.int .i64 vk2) ∧ w'.cell? ⟨wr.heap.size, 3, none⟩ = some (.int .i64 vn2) ∧ w'.cell? ⟨wr.heap.size, 4, none⟩ = some (.string vt2) ∧ w'.cell? ⟨wr.heap.size, 5, none⟩ = some (.string op2) ∧ w'.cell? ⟨wr.heap.size, 6, none⟩ = some (.slice A2 m2 c2')) (by kernel_rfl) ⟨ff0, ff1, ff2, ff3, ff4, ff5, ff6⟩ (fun hHeld => ?_)
        refine take_d (i := 0) (d := 15) (v := ?_) rfl rfl (by kernel_rfl) (by kernel_rfl) (by kernel_rfl) (fun _ _ _ h => h) (Or.inl ⟨by rfl, ?_⟩) (by assumption) ?_
        rotate_left
        · intro w hSw; (try dsimp only at hSw); go_simp; (try with_reducible rfl)
        try simp only [Act.put, List.setIfInBounds_toArray, List.set_cons_zero, List.set_cons_succ]
        refine take_d (i := 2) (d := 17) (v := ?_) rfl rfl (by kernel_rfl) (by kernel_rfl) (by kernel_rfl) (fun _ _ _ h => h) (Or.inl ⟨by rfl, ?_⟩) (by assumption) ?_
        rotate_left
        · intro w hSw; (try dsimp only at hSw); go_simp; (try with_reducible rfl)
        try simp only [Act.put, List.setIfInBounds_toArray, List.set_cons_zero, List.set_cons_succ]
        refine wpAnyH_ready (rs := [1, 3]) (by kernel_rfl) (by simp) ?_
        refine AllReadyH.cons rfl (fun K hK => ?_) (AllReadyH.cons rfl (fun K hK => ?_) AllReadyH.nil)
        · go_simp
          (try go_wp2_with fail)
          refine hK.out _ _ ⟨ff0, ff1, ff2, ff3, ff4, ff5, ff6⟩ (fun _hH => ?_)
          clear hK K
          try simp only [Act.put, List.setIfInBounds_toArray, List.set_cons_zero, List.set_cons_succ]
          refine wpAnyH_ready (rs := [3]) (by kernel_rfl) (by simp) ?_
          refine AllReadyH.cons rfl (fun K hK => ?_) AllReadyH.nil
          go_simp
          go_at_call 44
          refine (Hc.out).mono ?_
          rintro e w1 ⟨x1, rfl, hx1, t1⟩
          obtain ⟨⟨k3, nm3, ⟨vk3, vn3, vt3⟩, op3⟩, A3, m3, c3⟩ := x1
          have mm0 := t1.cell ff0 (by simp)
          have mm1 := t1.cell ff1 (by simp)
          have mm2 := t1.cell ff2 (by simp)
          have mm3 := t1.cell ff3 (by simp)
          have mm4 := t1.cell ff4 (by simp)
          have mm5 := t1.cell ff5 (by simp)
          have mm6 := t1.cell ff6 (by simp)
          have z1 := t1.cell z0 (by simp)
          have tn := (Touch.refl [] w1).alloc (.cells #[.int .i64 k3, .string nm3, .int .i64 vk3, .int .i64 vn3, .string vt3, .string op3, .slice A3 m3 c3] 33)
          have z2 := tn.cell z1 (by simp)
          have q0 := tn.cell mm0 (by simp)
          have q1 := tn.cell mm1 (by simp)
          have q2 := tn.cell mm2 (by simp)
          have q3 := tn.cell mm3 (by simp)
          have q4 := tn.cell mm4 (by simp)
          have q5 := tn.cell mm5 (by simp)
          have q6 := tn.cell mm6 (by simp)
          have hown1 := (hown.touch0 Ta.out).touch0 t1
          have s1 := t1.size
          (try go_wp2_with fail)
          refine hK.out _ _ ⟨mm0, mm1, mm2, mm3, mm4, mm5, mm6⟩ (fun _hH => ?_)
          clear hK K
          try simp only [Act.put, List.setIfInBounds_toArray, List.set_cons_zero, List.set_cons_succ]
          refine wpAnyH_ready (rs := [4]) (by kernel_rfl) (by simp) ?_
          refine AllReadyH.cons rfl (fun K hK => ?_) AllReadyH.nil
          go_simp
          (try go_wp2_with fail)
          refine hK.out _ _ ⟨q0, q1, q2, q3, q4, q5, q6⟩ (fun _hH => ?_)
          clear hK K
          try simp only [Act.put, List.setIfInBounds_toArray, List.set_cons_zero, List.set_cons_succ]
          refine wpAnyH_ready (rs := [5]) (by kernel_rfl) (by simp) ?_
          refine AllReadyH.cons rfl (fun K hK => ?_) AllReadyH.nil
          refine step_appX xcE_length xcE_one rfl (.tmp 16) (.tmp 19) 31 (by rfl) 33 _ 96 info_expr Try.underlying31 rfl (by omega) (w.heap.size + 2) n B j cB (args.take j) Htl.out (by rfl) hown1 ⟨⟨k3, nm3, ⟨vk3, vn3, vt3⟩, op3⟩, A3, m3, c3⟩ a (hx1.mono fun b hb => ⟨⟨by have := hb.1; omega, hb.2⟩, fun hm => by have := hBlt b hm; have := hb.1; omega⟩) (by omega) 1 (by rfl) (by omega) rfl ?_
          intro B5 cB5 w5 hown5 ht5 hf5
          have hVB : wr.heap.size ∉ fpo B := fun hm => by have := hBlt _ hm; omega
          have p0 := ht5.cell mm0 hVB
          have p1 := ht5.cell mm1 hVB
          have p2 := ht5.cell mm2 hVB
          have p3 := ht5.cell mm3 hVB
          have p4 := ht5.cell mm4 hVB
          have p5 := ht5.cell mm5 hVB
          have p6 := ht5.cell mm6 hVB
          have hX5 := ht5.blk ((Ta.out.trans0 t1).blk hX (by simp)) hXB
          have hR5 := ht5.blk ((Ta.out.trans0 t1).blk hR (by simp)) hRB
          have T5 := ((ht.trans0 Ta.out).trans0 t1).trans ht5 (fun b hb => .inr (by have := hBlo b hb; omega))
          have z5 := cell_blk hX5 (i := 6) rfl
          have f5 : w5.frozen? ⟨w.heap.size, 6, none⟩ = false := by simp [World.frozen?, hX5]
          have t7 := (Touch.refl [w.heap.size] w5).setCell (p := ⟨w.heap.size, 6, none⟩) (.inl (by simp)) (.slice B5 (j + 1) cB5)
          have r0 := t7.cell p0 (by simp; omega)
          have r1 := t7.cell p1 (by simp; omega)
          have r2 := t7.cell p2 (by simp; omega)
          have r3 := t7.cell p3 (by simp; omega)
          have r4 := t7.cell p4 (by simp; omega)
          have r5 := t7.cell p5 (by simp; omega)
          have r6 := t7.cell p6 (by simp; omega)
          refine hK.out _ _ ⟨p0, p1, p2, p3, p4, p5, p6⟩ (fun _hH => ?_)
          clear hK K
          try simp only [Act.put, List.setIfInBounds_toArray]
          refine take_d (i := 6) (d := 21) (v := ?_) rfl rfl (by kernel_rfl) (by kernel_rfl) (by kernel_rfl) (fun _ _ _ h => h) (Or.inl ⟨by rfl, ?_⟩) (by assumption) ?_
          rotate_left
          · intro w hSw; (try dsimp only at hSw); go_simp; (try with_reducible rfl)
          try simp only [Act.put]
          refine wpAnyH_ready (rs := [7]) (by kernel_rfl) (by simp) ?_
          refine AllReadyH.cons rfl (fun K hK => ?_) AllReadyH.nil
          go_simp
          (try go_wp2_with fail)
          refine hK.out _ _ ⟨r0, r1, r2, r3, r4, r5, r6⟩ (fun _hH => ?_)
          clear hK K
          try simp only [Act.put, List.setIfInBounds_toArray, List.set_cons_zero, List.set_cons_succ]
          refine wpAnyH_done (by kernel_rfl) ?_ _
          go_wp2
          go_roundw
          case rel => exact ⟨j + 1, B5, cB5, by omega, by go_num, set_blk hX5 6 _, (t7.blk hR5 (by simp)), by rw [Hsn.out]; exact hown5.touch t7 (fun b hb => by simp at hb; omega), T5.setCell (p := ⟨w.heap.size, 6, none⟩) (.inr (by simp only; omega)) _⟩
          case measure => simp [intOf]; omega
        · go_simp
          go_at_call 44
          refine (Hc.out).mono ?_
          rintro e w1 ⟨x1, rfl, hx1, t1⟩
          obtain ⟨⟨k3, nm3, ⟨vk3, vn3, vt3⟩, op3⟩, A3, m3, c3⟩ := x1
          have mm0 := t1.cell ff0 (by simp)
          have mm1 := t1.cell ff1 (by simp)
          have mm2 := t1.cell ff2 (by simp)
          have mm3 := t1.cell ff3 (by simp)
          have mm4 := t1.cell ff4 (by simp)
          have mm5 := t1.cell ff5 (by simp)
          have mm6 := t1.cell ff6 (by simp)
          have z1 := t1.cell z0 (by simp)
          have tn := (Touch.refl [] w1).alloc (.cells #[.int .i64 k3, .string nm3, .int .i64 vk3, .int .i64 vn3, .string vt3, .string op3, .slice A3 m3 c3] 33)
          have z2 := tn.cell z1 (by simp)
          have q0 := tn.cell mm0 (by simp)
          have q1 := tn.cell mm1 (by simp)
          have q2 := tn.cell mm2 (by simp)
          have q3 := tn.cell mm3 (by simp)
          have q4 := tn.cell mm4 (by simp)
          have q5 := tn.cell mm5 (by simp)
          have q6 := tn.cell mm6 (by simp)
          have hown1 := (hown.touch0 Ta.out).touch0 t1
          have s1 := t1.size
          (try go_wp2_with fail)
          refine hK.out _ _ ⟨mm0, mm1, mm2, mm3, mm4, mm5, mm6⟩ (fun _hH => ?_)
          clear hK K
          try simp only [Act.put, List.setIfInBounds_toArray, List.set_cons_zero, List.set_cons_succ]
          refine wpAnyH_ready (rs := [1, 4]) (by kernel_rfl) (by simp) ?_
          refine AllReadyH.cons rfl (fun K hK => ?_) (AllReadyH.cons rfl (fun K hK => ?_) AllReadyH.nil)
          · go_simp
            (try go_wp2_with fail)
            refine hK.out _ _ ⟨mm0, mm1, mm2, mm3, mm4, mm5, mm6⟩ (fun _hH => ?_)
            clear hK K
            try simp only [Act.put, List.setIfInBounds_toArray, List.set_cons_zero, List.set_cons_succ]
            refine wpAnyH_ready (rs := [4]) (by kernel_rfl) (by simp) ?_
            refine AllReadyH.cons rfl (fun K hK => ?_) AllReadyH.nil
            go_simp
            (try go_wp2_with fail)
            refine hK.out _ _ ⟨q0, q1, q2, q3, q4, q5, q6⟩ (fun _hH => ?_)
            clear hK K
            try simp only [Act.put, List.setIfInBounds_toArray, List.set_cons_zero, List.set_cons_succ]
            refine wpAnyH_ready (rs := [5]) (by kernel_rfl) (by simp) ?_
            refine AllReadyH.cons rfl (fun K hK => ?_) AllReadyH.nil
            refine step_appX xcE_length xcE_one rfl (.tmp 16) (.tmp 19) 31 (by rfl) 33 _ 96 info_expr Try.underlying31 rfl (by omega) (w.heap.size + 2) n B j cB (args.take j) Htl.out (by rfl) hown1 ⟨⟨k3, nm3, ⟨vk3, vn3, vt3⟩, op3⟩, A3, m3, c3⟩ a (hx1.mono fun b hb => ⟨⟨by have := hb.1; omega, hb.2⟩, fun hm => by have := hBlt b hm; have := hb.1; omega⟩) (by omega) 1 (by rfl) (by omega) rfl ?_
            intro B5 cB5 w5 hown5 ht5 hf5
            have hVB : wr.heap.size ∉ fpo B := fun hm => by have := hBlt _ hm; omega
            have p0 := ht5.cell mm0 hVB
            have p1 := ht5.cell mm1 hVB
            have p2 := ht5.cell mm2 hVB
            have p3 := ht5.cell mm3 hVB
            have p4 := ht5.cell mm4 hVB
            have p5 := ht5.cell mm5 hVB
            have p6 := ht5.cell mm6 hVB
            have hX5 := ht5.blk ((Ta.out.trans0 t1).blk hX (by simp)) hXB
            have hR5 := ht5.blk ((Ta.out.trans0 t1).blk hR (by simp)) hRB
            have T5 := ((ht.trans0 Ta.out).trans0 t1).trans ht5 (fun b hb => .inr (by have := hBlo b hb; omega))
            have z5 := cell_blk hX5 (i := 6) rfl
            have f5 : w5.frozen? ⟨w.heap.size, 6, none⟩ = false := by simp [World.frozen?, hX5]
            have t7 := (Touch.refl [w.heap.size] w5).setCell (p := ⟨w.heap.size, 6, none⟩) (.inl (by simp)) (.slice B5 (j + 1) cB5)
            have r0 := t7.cell p0 (by simp; omega)
            have r1 := t7.cell p1 (by simp; omega)
            have r2 := t7.cell p2 (by simp; omega)
            have r3 := t7.cell p3 (by simp; omega)
            have r4 := t7.cell p4 (by simp; omega)
            have r5 := t7.cell p5 (by simp; omega)
            have r6 := t7.cell p6 (by simp; omega)
            refine hK.out _ _ ⟨p0, p1, p2, p3, p4, p5, p6⟩ (fun _hH => ?_)
            clear hK K
            try simp only [Act.put, List.setIfInBounds_toArray]
            refine take_d (i := 6) (d := 21) (v := ?_) rfl rfl (by kernel_rfl) (by kernel_rfl) (by kernel_rfl) (fun _ _ _ h => h) (Or.inl ⟨by rfl, ?_⟩) (by assumption) ?_
            rotate_left
            · intro w hSw; (try dsimp only at hSw); go_simp; (try with_reducible rfl)
            try simp only [Act.put]
            refine wpAnyH_ready (rs := [7]) (by kernel_rfl) (by simp) ?_
            refine AllReadyH.cons rfl (fun K hK => ?_) AllReadyH.nil
            go_simp
            (try go_wp2_with fail)
            refine hK.out _ _ ⟨r0, r1, r2, r3, r4, r5, r6⟩ (fun _hH => ?_)
            clear hK K
            try simp only [Act.put, List.setIfInBounds_toArray, List.set_cons_zero, List.set_cons_succ]
            refine wpAnyH_done (by kernel_rfl) ?_ _
            go_wp2
            go_roundw
            case rel => exact ⟨j + 1, B5, cB5, by omega, by go_num, set_blk hX5 6 _, (t7.blk hR5 (by simp)), by rw [Hsn.out]; exact hown5.touch t7 (fun b hb => by simp at hb; omega), T5.setCell (p := ⟨w.heap.size, 6, none⟩) (.inr (by simp only; omega)) _⟩
            case measure => simp [intOf]; omega
          · go_simp
            (try go_wp2_with fail)
            refine hK.out _ _ ⟨q0, q1, q2, q3, q4, q5, q6⟩ (fun _hH => ?_)
            clear hK K
            try simp only [Act.put, List.setIfInBounds_toArray, List.set_cons_zero, List.set_cons_succ]
            refine wpAnyH_ready (rs := [1]) (by kernel_rfl) (by simp) ?_
            refine AllReadyH.cons rfl (fun K hK => ?_) AllReadyH.nil
            go_simp
            (try go_wp2_with fail)
            refine hK.out _ _ ⟨q0, q1, q2, q3, q4, q5, q6⟩ (fun _hH => ?_)
            clear hK K
            try simp only [Act.put, List.setIfInBounds_toArray, List.set_cons_zero, List.set_cons_succ]
            refine wpAnyH_ready (rs := [5]) (by kernel_rfl) (by simp) ?_
            refine AllReadyH.cons rfl (fun K hK => ?_) AllReadyH.nil
            refine step_appX xcE_length xcE_one rfl (.tmp 16) (.tmp 19) 31 (by rfl) 33 _ 96 info_expr Try.underlying31 rfl (by omega) (w.heap.size + 2) n B j cB (args.take j) Htl.out (by rfl) hown1 ⟨⟨k3, nm3, ⟨vk3, vn3, vt3⟩, op3⟩, A3, m3, c3⟩ a (hx1.mono fun b hb => ⟨⟨by have := hb.1; omega, hb.2⟩, fun hm => by have := hBlt b hm; have := hb.1; omega⟩) (by omega) 1 (by rfl) (by omega) rfl ?_
            intro B5 cB5 w5 hown5 ht5 hf5
            have hVB : wr.heap.size ∉ fpo B := fun hm => by have := hBlt _ hm; omega
            have p0 := ht5.cell mm0 hVB
            have p1 := ht5.cell mm1 hVB
            have p2 := ht5.cell mm2 hVB
            have p3 := ht5.cell mm3 hVB
            have p4 := ht5.cell mm4 hVB
            have p5 := ht5.cell mm5 hVB
            have p6 := ht5.cell mm6 hVB
            have hX5 := ht5.blk ((Ta.out.trans0 t1).blk hX (by simp)) hXB
            have hR5 := ht5.blk ((Ta.out.trans0 t1).blk hR (by simp)) hRB
            have T5 := ((ht.trans0 Ta.out).trans0 t1).trans ht5 (fun b hb => .inr (by have := hBlo b hb; omega))
            have z5 := cell_blk hX5 (i := 6) rfl
            have f5 : w5.frozen? ⟨w.heap.size, 6, none⟩ = false := by simp [World.frozen?, hX5]
            have t7 := (Touch.refl [w.heap.size] w5).setCell (p := ⟨w.heap.size, 6, none⟩) (.inl (by simp)) (.slice B5 (j + 1) cB5)
            have r0 := t7.cell p0 (by simp; omega)
            have r1 := t7.cell p1 (by simp; omega)
            have r2 := t7.cell p2 (by simp; omega)
            have r3 := t7.cell p3 (by simp; omega)
            have r4 := t7.cell p4 (by simp; omega)
            have r5 := t7.cell p5 (by simp; omega)
            have r6 := t7.cell p6 (by simp; omega)
            refine hK.out _ _ ⟨p0, p1, p2, p3, p4, p5, p6⟩ (fun _hH => ?_)
            clear hK K
            try simp only [Act.put, List.setIfInBounds_toArray]
            refine take_d (i := 6) (d := 21) (v := ?_) rfl rfl (by kernel_rfl) (by kernel_rfl) (by kernel_rfl) (fun _ _ _ h => h) (Or.inl ⟨by rfl, ?_⟩) (by assumption) ?_
            rotate_left
            · intro w hSw; (try dsimp only at hSw); go_simp; (try with_reducible rfl)
            try simp only [Act.put]
            refine wpAnyH_ready (rs := [7]) (by kernel_rfl) (by simp) ?_
            refine AllReadyH.cons rfl (fun K hK => ?_) AllReadyH.nil
            go_simp
            (try go_wp2_with fail)
            refine hK.out _ _ ⟨r0, r1, r2, r3, r4, r5, r6⟩ (fun _hH => ?_)
            clear hK K
            try simp only [Act.put, List.setIfInBounds_toArray, List.set_cons_zero, List.set_cons_succ]
            refine wpAnyH_done (by kernel_rfl) ?_ _
            go_wp2
            go_roundw
            case rel => exact ⟨j + 1, B5, cB5, by omega, by go_num, set_blk hX5 6 _, (t7.blk hR5 (by simp)), by rw [Hsn.out]; exact hown5.touch t7 (fun b hb => by simp at hb; omega), T5.setCell (p := ⟨w.heap.size, 6, none⟩) (.inr (by simp only; omega)) _⟩
            case measure => simp [intOf]; omega
      · obtain rfl : j = args.length := by omega
        rw [List.take_length] at hown
        have H7 := Lib.hid (fun (v0 v1 v2 v3 v4 v5 v6 : Value) => out7 hR v0 v1 v2 v3 v4 v5 v6)
        obtain ⟨d0, d1, d2, d3, d4, d5, d6, _⟩ := blk7 hX
        obtain ⟨e0, e1, e2, e3, e4, e5, e6, g0, g1, g2, g3, g4, g5, g6⟩ := blk7 hR
        go_wp2
        obtain ⟨q1, q2⟩ := H7.out (.int .i64 k) (.string nm) (.int .i64 vk) (.int .i64 vn) (.string vt) (.string op) (.slice B args.length cB)
        refine bodyPost_ret (results_cell_row rfl _ _ (w.heap.size + 1) _ _ _ _ rfl q1 Try.underlying33 rfl rfl) rfl ⟨⟨⟨k, nm, ⟨vk, vn, vt⟩, op⟩, B, args.length, cB⟩, rfl, ?_, ht.trans q2 (fun b hb => .inr (by simp at hb; omega))⟩
        have hT := (hown.touch q2 (fun b hb => by simp at hb; omega)).tree ⟨k, nm, ⟨vk, vn, vt⟩, op⟩ args.length rfl
        rw [H1.out] at hT ⊢
        exact hT.mono fun b hb => ⟨by have := hb.1; omega, hb.2⟩
end Go.Proofs.Ytlkckkagoommaaa

/- bywashlaw04.ref: an expression as the document's answer lays it. For every expression. -/
namespace Go.Proofs.Ytlkckkagoommaaa
open Go.RowKit
attribute [local go_sem ↓] Go.wp_at_zero Go.wp_at_succ

theorem info_rexpr : (Try.prog.info? 61).map (fun i => (i.zero, i.size, i.bytes)) = some (some (.agg #[.int .i64 0, .string ⟨#[]⟩, .string ⟨#[]⟩, .int .i64 0, .int .i64 0, .string ⟨#[]⟩, .slice none 0 0]), 7, 96) := by kernel_rfl

set_option maxRecDepth 100000 in
set_option maxHeartbeats 6400000 in
theorem refX_any (n : Nat) : ∀ (e : TX n) (x : XC) (w : World), ExP xcE anyB n w x e → sizeX n e ≤ 1000000 →
    Calls Try.prog 28 #[x.val] w fun r w' => ∃ x', r = .returned x'.valR ∧ ExP xcR (Fr w.heap.size w') n w' x' e ∧ Touch [] w w' := by
  induction n with
  | zero => intro e; exact e.elim
  | succ n ih =>
    intro e x w hx hs
    obtain ⟨nd, args⟩ := e
    obtain ⟨h1, h2, h3⟩ := hx.args
    have hsum : sumX n args ≤ 1000000 := by have hs' : 1 + sumX n args ≤ 1000000 := hs; omega
    have hlen := len_le_sum n args
    obtain ⟨⟨k, nm, ⟨vk, vn, vt⟩, op⟩, A, m, c⟩ := x
    dsimp only at h1 h2 h3
    subst h2
    dsimp only [XC.val]
    have Ih := Lib.hid ih; have H1 := Lib.hid h1
    clear ih hx h1 hs
    have t0 := ((((Touch.refl [] w).alloc (.cells #[.int .i64 k, .string nm, .int .i64 vk, .int .i64 vn, .string vt, .string op, .slice A args.length c] 33)).alloc (.cells #[.int .i64 0, .string ⟨#[]⟩, .string ⟨#[]⟩, .int .i64 0, .int .i64 0, .string ⟨#[]⟩, .slice none 0 0] 61)).alloc (.cells #[.int .i64 k, .string nm, .string op, .int .i64 vk, .int .i64 vn, .string vt, .slice none 0 0] 61))
    have hbx := (heap_alloc_new ((w.alloc (.cells #[.int .i64 k, .string nm, .int .i64 vk, .int .i64 vn, .string vt, .string op, .slice A args.length c] 33)).alloc (.cells #[.int .i64 0, .string ⟨#[]⟩, .string ⟨#[]⟩, .int .i64 0, .int .i64 0, .string ⟨#[]⟩, .slice none 0 0] 61)) (.cells #[.int .i64 k, .string nm, .string op, .int .i64 vk, .int .i64 vn, .string vt, .slice none 0 0] 61))
    have hbr := (((Touch.refl [] ((w.alloc (.cells #[.int .i64 k, .string nm, .int .i64 vk, .int .i64 vn, .string vt, .string op, .slice A args.length c] 33)).alloc (.cells #[.int .i64 0, .string ⟨#[]⟩, .string ⟨#[]⟩, .int .i64 0, .int .i64 0, .string ⟨#[]⟩, .slice none 0 0] 61))).alloc (.cells #[.int .i64 k, .string nm, .string op, .int .i64 vk, .int .i64 vn, .string vt, .slice none 0 0] 61)).blk (heap_alloc_new (w.alloc (.cells #[.int .i64 k, .string nm, .int .i64 vk, .int .i64 vn, .string vt, .string op, .slice A args.length c] 33)) (.cells #[.int .i64 0, .string ⟨#[]⟩, .string ⟨#[]⟩, .int .i64 0, .int .i64 0, .string ⟨#[]⟩, .slice none 0 0] 61)) (by simp))
    simp only [World.size_alloc] at hbx hbr
    go_enter Try.func28, Try.ntmps28
    go_wp2_with fail
    go_loopw [26] (fun i wr => ∃ (j : Nat) (B : Option Addr) (cB : Nat), j ≤ args.length ∧ i = .int .i64 j ∧ wr.heap[w.heap.size + 1 + 1]? = some (.cells #[.int .i64 k, .string nm, .string op, .int .i64 vk, .int .i64 vn, .string vt, .slice B j cB] 61 (0, 0)) ∧
        wr.heap[w.heap.size + 1]? = some (.cells #[.int .i64 0, .string ⟨#[]⟩, .string ⟨#[]⟩, .int .i64 0, .int .i64 0, .string ⟨#[]⟩, .slice none 0 0] 61 (0, 0)) ∧ OwnX 61 xcR (w.heap.size + 3) n wr B cB (args.take j) ∧ Touch [] w wr) (fun i _ => args.length - (intOf i).toNat)
    case atStart => exact ⟨0, none, 0, by omega, rfl, hbx, hbr, OwnX.nil _ _ _ _ _, t0⟩
    case round =>
      obtain ⟨j, B, cB, hj, rfl, hX, hR, hown, ht⟩ := hrel
      have hBlt := fun b hb => (hown.lt b hb).2
      have hBlo := fun b hb => (hown.lt b hb).1
      have hXB : w.heap.size + 1 + 1 ∉ fpo B := fun hm => by have := hBlo _ hm; omega
      have hRB : w.heap.size + 1 ∉ fpo B := fun hm => by have := hBlo _ hm; omega
      have hlR := lt_of_block hR
      have hlX := lt_of_block hX
      by_cases hlt : j < args.length
      · obtain ⟨ad, b, off, y, rfl, hadd, hy, hcell⟩ := (h3.touch0 ht).at_ xcE_length j hlt
        have hsn := List.take_succ_eq_append_getElem hlt
        have hms := size_mem (List.getElem_mem hlt)
        have Htl := Lib.hid (show (args.take j).length = j by rw [List.length_take]; omega)
        obtain ⟨a, hae⟩ : ∃ a, a = args[j] := ⟨_, rfl⟩
        rw [← hae] at hy hsn hms
        have Ta := Lib.hid (((Touch.refl [] wr).alloc (.cells #[.int .i64 y.nd.kind, .string y.nd.name, .int .i64 y.nd.v.kind, .int .i64 y.nd.v.num, .string y.nd.v.text, .string y.nd.op, .slice y.A y.n y.c] 33)).drew)
        have Hc := Lib.hid (Ih.out a y _ (hy.touch0 Ta.out) (by omega))
        have hbv := heap_alloc_new wr (.cells #[.int .i64 y.nd.kind, .string y.nd.name, .int .i64 y.nd.v.kind, .int .i64 y.nd.v.num, .string y.nd.v.text, .string y.nd.op, .slice y.A y.n y.c] 33)
        have c0 := hcell 0 _ rfl; have c1 := hcell 1 _ rfl; have c2 := hcell 2 _ rfl; have c3 := hcell 3 _ rfl; have c4 := hcell 4 _ rfl; have c5 := hcell 5 _ rfl; have c6 := hcell 6 _ rfl
        rw [Nat.add_zero] at c0
        have z0 := Ta.out.cell (cell_blk hX (i := 6) rfl) (by simp)
        have sTa : wr.heap.size ≤ (wr.alloc (.cells #[.int .i64 y.nd.kind, .string y.nd.name, .int .i64 y.nd.v.kind, .int .i64 y.nd.v.num, .string y.nd.v.text, .string y.nd.op, .slice y.A y.n y.c] 33)).drew.heap.size := Ta.out.size
        have Hsn := Lib.hid hsn
        obtain ⟨⟨k2, nm2, ⟨vk2, vn2, vt2⟩, op2⟩, A2, m2, c2'⟩ := y
        simp only [XC.val, XC.valR] at Hc
        simp only at c0 c1 c2 c3 c4 c5 c6 Ta hbv z0 sTa
        have ff0 : (wr.alloc (.cells #[.int .i64 k2, .string nm2, .int .i64 vk2, .int .i64 vn2, .string vt2, .string op2, .slice A2 m2 c2'] 33)).drew.cell? ⟨wr.heap.size, 0, none⟩ = some (.int .i64 k2) := cell_blk hbv rfl
        have ff1 : (wr.alloc (.cells #[.int .i64 k2, .string nm2, .int .i64 vk2, .int .i64 vn2, .string vt2, .string op2, .slice A2 m2 c2'] 33)).drew.cell? ⟨wr.heap.size, 1, none⟩ = some (.string nm2) := cell_blk hbv rfl
        have ff2 : (wr.alloc (.cells #[.int .i64 k2, .string nm2, .int .i64 vk2, .int .i64 vn2, .string vt2, .string op2, .slice A2 m2 c2'] 33)).drew.cell? ⟨wr.heap.size, 2, none⟩ = some (.int .i64 vk2) := cell_blk hbv rfl
        have ff3 : (wr.alloc (.cells #[.int .i64 k2, .string nm2, .int .i64 vk2, .int .i64 vn2, .string vt2, .string op2, .slice A2 m2 c2'] 33)).drew.cell? ⟨wr.heap.size, 3, none⟩ = some (.int .i64 vn2) := cell_blk hbv rfl
        have ff4 : (wr.alloc (.cells #[.int .i64 k2, .string nm2, .int .i64 vk2, .int .i64 vn2, .string vt2, .string op2, .slice A2 m2 c2'] 33)).drew.cell? ⟨wr.heap.size, 4, none⟩ = some (.string vt2) := cell_blk hbv rfl
        have ff5 : (wr.alloc (.cells #[.int .i64 k2, .string nm2, .int .i64 vk2, .int .i64 vn2, .string vt2, .string op2, .slice A2 m2 c2'] 33)).drew.cell? ⟨wr.heap.size, 5, none⟩ = some (.string op2) := cell_blk hbv rfl
        have ff6 : (wr.alloc (.cells #[.int .i64 k2, .string nm2, .int .i64 vk2, .int .i64 vn2, .string vt2, .string op2, .slice A2 m2 c2'] 33)).drew.cell? ⟨wr.heap.size, 6, none⟩ = some (.slice A2 m2 c2') := cell_blk hbv rfl
        clear hsn hae hcell hbv hms
        go_wp2_with fail
        refine wp_region_held_drew (S := fun w' => w'.cell? ⟨wr.heap.size, 0, none⟩ = some (.int .i64 k2) ∧ w'.cell? ⟨wr.heap.size, 1, none⟩ = some (.string nm2) ∧ w'.cell? ⟨wr.heap.size, 2, none⟩ = some (.int .i64 vk2) ∧ w'.cell? ⟨wr.heap.size, 3, none⟩ = some (.int .i64 vn2) ∧ w'.cell? ⟨wr.heap.size, 4, none⟩ = some (.string vt2) ∧ w'.cell? ⟨wr.heap.size, 5, none⟩ = some (.string op2) ∧ w'.cell? ⟨wr.heap.size, 6, none⟩ = some (.slice A2 m2 c2')) (by kernel_rfl) ⟨ff0, ff1, ff2, ff3, ff4, ff5, ff6⟩ (fun hHeld => ?_)
        refine take_d (i := 0) (d := 30) (v := ?_) rfl rfl (by kernel_rfl) (by kernel_rfl) (by kernel_rfl) (fun _ _ _ h => h) (Or.inl ⟨by rfl, ?_⟩) (by assumption) ?_
        rotate_left
        · intro w hSw; (try dsimp only at hSw); go_simp; (try with_reducible rfl)
        try simp only [Act.put, List.setIfInBounds_toArray, List.set_cons_zero, List.set_cons_succ]
        refine take_d (i := 2) (d := 32) (v := ?_) rfl rfl (by kernel_rfl) (by kernel_rfl) (by kernel_rfl) (fun _ _ _ h => h) (Or.inl ⟨by rfl, ?_⟩) (by assumption) ?_
        rotate_left
        · intro w hSw; (try dsimp only at hSw); go_simp; (try with_reducible rfl)
        try simp only [Act.put, List.setIfInBounds_toArray, List.set_cons_zero, List.set_cons_succ]
        refine wpAnyH_ready (rs := [1, 3]) (by kernel_rfl) (by simp) ?_
        refine AllReadyH.cons rfl (fun K hK => ?_) (AllReadyH.cons rfl (fun K hK => ?_) AllReadyH.nil)
        · go_simp
          (try go_wp2_with fail)
          refine hK.out _ _ ⟨ff0, ff1, ff2, ff3, ff4, ff5, ff6⟩ (fun _hH => ?_)
          clear hK K
          try simp only [Act.put, List.setIfInBounds_toArray, List.set_cons_zero, List.set_cons_succ]
          refine wpAnyH_ready (rs := [3]) (by kernel_rfl) (by simp) ?_
          refine AllReadyH.cons rfl (fun K hK => ?_) AllReadyH.nil
          go_simp
          go_at_call 28
          refine (Hc.out).mono ?_
          rintro e w1 ⟨x1, rfl, hx1, t1⟩
          obtain ⟨⟨k3, nm3, ⟨vk3, vn3, vt3⟩, op3⟩, A3, m3, c3⟩ := x1
          have mm0 := t1.cell ff0 (by simp)
          have mm1 := t1.cell ff1 (by simp)
          have mm2 := t1.cell ff2 (by simp)
          have mm3 := t1.cell ff3 (by simp)
          have mm4 := t1.cell ff4 (by simp)
          have mm5 := t1.cell ff5 (by simp)
          have mm6 := t1.cell ff6 (by simp)
          have z1 := t1.cell z0 (by simp)
          have tn := (Touch.refl [] w1).alloc (.cells #[.int .i64 k3, .string nm3, .string op3, .int .i64 vk3, .int .i64 vn3, .string vt3, .slice A3 m3 c3] 61)
          have z2 := tn.cell z1 (by simp)
          have q0 := tn.cell mm0 (by simp)
          have q1 := tn.cell mm1 (by simp)
          have q2 := tn.cell mm2 (by simp)
          have q3 := tn.cell mm3 (by simp)
          have q4 := tn.cell mm4 (by simp)
          have q5 := tn.cell mm5 (by simp)
          have q6 := tn.cell mm6 (by simp)
          have hown1 := (hown.touch0 Ta.out).touch0 t1
          have s1 := t1.size
          (try go_wp2_with fail)
          refine hK.out _ _ ⟨mm0, mm1, mm2, mm3, mm4, mm5, mm6⟩ (fun _hH => ?_)
          clear hK K
          try simp only [Act.put, List.setIfInBounds_toArray, List.set_cons_zero, List.set_cons_succ]
          refine wpAnyH_ready (rs := [4]) (by kernel_rfl) (by simp) ?_
          refine AllReadyH.cons rfl (fun K hK => ?_) AllReadyH.nil
          go_simp
          (try go_wp2_with fail)
          refine hK.out _ _ ⟨q0, q1, q2, q3, q4, q5, q6⟩ (fun _hH => ?_)
          clear hK K
          try simp only [Act.put, List.setIfInBounds_toArray, List.set_cons_zero, List.set_cons_succ]
          refine wpAnyH_ready (rs := [5]) (by kernel_rfl) (by simp) ?_
          refine AllReadyH.cons rfl (fun K hK => ?_) AllReadyH.nil
          refine step_appX xcR_length xcR_one rfl (.tmp 31) (.tmp 34) 59 (by rfl) 61 _ 96 info_rexpr Try.underlying59 rfl (by omega) (w.heap.size + 3) n B j cB (args.take j) Htl.out (by rfl) hown1 ⟨⟨k3, nm3, ⟨vk3, vn3, vt3⟩, op3⟩, A3, m3, c3⟩ a (hx1.mono fun b hb => ⟨⟨by have := hb.1; omega, hb.2⟩, fun hm => by have := hBlt b hm; have := hb.1; omega⟩) (by omega) 1 (by rfl) (by omega) rfl ?_
          intro B5 cB5 w5 hown5 ht5 hf5
          have hVB : wr.heap.size ∉ fpo B := fun hm => by have := hBlt _ hm; omega
          have p0 := ht5.cell mm0 hVB
          have p1 := ht5.cell mm1 hVB
          have p2 := ht5.cell mm2 hVB
          have p3 := ht5.cell mm3 hVB
          have p4 := ht5.cell mm4 hVB
          have p5 := ht5.cell mm5 hVB
          have p6 := ht5.cell mm6 hVB
          have hX5 := ht5.blk ((Ta.out.trans0 t1).blk hX (by simp)) hXB
          have hR5 := ht5.blk ((Ta.out.trans0 t1).blk hR (by simp)) hRB
          have T5 := ((ht.trans0 Ta.out).trans0 t1).trans ht5 (fun b hb => .inr (by have := hBlo b hb; omega))
          have z5 := cell_blk hX5 (i := 6) rfl
          have f5 : w5.frozen? ⟨w.heap.size + 1 + 1, 6, none⟩ = false := by simp [World.frozen?, hX5]
          have t7 := (Touch.refl [w.heap.size + 1 + 1] w5).setCell (p := ⟨w.heap.size + 1 + 1, 6, none⟩) (.inl (by simp)) (.slice B5 (j + 1) cB5)
          have r0 := t7.cell p0 (by simp; omega)
          have r1 := t7.cell p1 (by simp; omega)
          have r2 := t7.cell p2 (by simp; omega)
          have r3 := t7.cell p3 (by simp; omega)
          have r4 := t7.cell p4 (by simp; omega)
          have r5 := t7.cell p5 (by simp; omega)
          have r6 := t7.cell p6 (by simp; omega)
          refine hK.out _ _ ⟨p0, p1, p2, p3, p4, p5, p6⟩ (fun _hH => ?_)
          clear hK K
          try simp only [Act.put, List.setIfInBounds_toArray, List.set_cons_zero, List.set_cons_succ]
          refine take_d (i := 6) (d := 36) (v := ?_) rfl rfl (by kernel_rfl) (by kernel_rfl) (by kernel_rfl) (fun _ _ _ h => h) (Or.inl ⟨by rfl, ?_⟩) (by assumption) ?_
          rotate_left
          · intro w hSw; (try dsimp only at hSw); go_simp; (try with_reducible rfl)
          try simp only [Act.put, List.setIfInBounds_toArray, List.set_cons_zero, List.set_cons_succ]
          refine wpAnyH_ready (rs := [7]) (by kernel_rfl) (by simp) ?_
          refine AllReadyH.cons rfl (fun K hK => ?_) AllReadyH.nil
          go_simp
          (try go_wp2_with fail)
          refine hK.out _ _ ⟨r0, r1, r2, r3, r4, r5, r6⟩ (fun _hH => ?_)
          clear hK K
          try simp only [Act.put, List.setIfInBounds_toArray, List.set_cons_zero, List.set_cons_succ]
          refine wpAnyH_done (by kernel_rfl) ?_ _
          go_wp2
          go_roundw
          case rel => exact ⟨j + 1, B5, cB5, by omega, by go_num, set_blk hX5 6 _, (t7.blk hR5 (by simp)), by rw [Hsn.out]; exact hown5.touch t7 (fun b hb => by simp at hb; omega), T5.setCell (p := ⟨w.heap.size + 1 + 1, 6, none⟩) (.inr (by simp only; omega)) _⟩
          case measure => simp [intOf]; omega
        · go_simp
          go_at_call 28
          refine (Hc.out).mono ?_
          rintro e w1 ⟨x1, rfl, hx1, t1⟩
          obtain ⟨⟨k3, nm3, ⟨vk3, vn3, vt3⟩, op3⟩, A3, m3, c3⟩ := x1
          have mm0 := t1.cell ff0 (by simp)
          have mm1 := t1.cell ff1 (by simp)
          have mm2 := t1.cell ff2 (by simp)
          have mm3 := t1.cell ff3 (by simp)
          have mm4 := t1.cell ff4 (by simp)
          have mm5 := t1.cell ff5 (by simp)
          have mm6 := t1.cell ff6 (by simp)
          have z1 := t1.cell z0 (by simp)
          have tn := (Touch.refl [] w1).alloc (.cells #[.int .i64 k3, .string nm3, .string op3, .int .i64 vk3, .int .i64 vn3, .string vt3, .slice A3 m3 c3] 61)
          have z2 := tn.cell z1 (by simp)
          have q0 := tn.cell mm0 (by simp)
          have q1 := tn.cell mm1 (by simp)
          have q2 := tn.cell mm2 (by simp)
          have q3 := tn.cell mm3 (by simp)
          have q4 := tn.cell mm4 (by simp)
          have q5 := tn.cell mm5 (by simp)
          have q6 := tn.cell mm6 (by simp)
          have hown1 := (hown.touch0 Ta.out).touch0 t1
          have s1 := t1.size
          (try go_wp2_with fail)
          refine hK.out _ _ ⟨mm0, mm1, mm2, mm3, mm4, mm5, mm6⟩ (fun _hH => ?_)
          clear hK K
          try simp only [Act.put, List.setIfInBounds_toArray, List.set_cons_zero, List.set_cons_succ]
          refine wpAnyH_ready (rs := [1, 4]) (by kernel_rfl) (by simp) ?_
          refine AllReadyH.cons rfl (fun K hK => ?_) (AllReadyH.cons rfl (fun K hK => ?_) AllReadyH.nil)
          · go_simp
            (try go_wp2_with fail)
            refine hK.out _ _ ⟨mm0, mm1, mm2, mm3, mm4, mm5, mm6⟩ (fun _hH => ?_)
            clear hK K
            try simp only [Act.put, List.setIfInBounds_toArray, List.set_cons_zero, List.set_cons_succ]
            refine wpAnyH_ready (rs := [4]) (by kernel_rfl) (by simp) ?_
            refine AllReadyH.cons rfl (fun K hK => ?_) AllReadyH.nil
            go_simp
            (try go_wp2_with fail)
            refine hK.out _ _ ⟨q0, q1, q2, q3, q4, q5, q6⟩ (fun _hH => ?_)
            clear hK K
            try simp only [Act.put, List.setIfInBounds_toArray, List.set_cons_zero, List.set_cons_succ]
            refine wpAnyH_ready (rs := [5]) (by kernel_rfl) (by simp) ?_
            refine AllReadyH.cons rfl (fun K hK => ?_) AllReadyH.nil
            refine step_appX xcR_length xcR_one rfl (.tmp 31) (.tmp 34) 59 (by rfl) 61 _ 96 info_rexpr Try.underlying59 rfl (by omega) (w.heap.size + 3) n B j cB (args.take j) Htl.out (by rfl) hown1 ⟨⟨k3, nm3, ⟨vk3, vn3, vt3⟩, op3⟩, A3, m3, c3⟩ a (hx1.mono fun b hb => ⟨⟨by have := hb.1; omega, hb.2⟩, fun hm => by have := hBlt b hm; have := hb.1; omega⟩) (by omega) 1 (by rfl) (by omega) rfl ?_
            intro B5 cB5 w5 hown5 ht5 hf5
            have hVB : wr.heap.size ∉ fpo B := fun hm => by have := hBlt _ hm; omega
            have p0 := ht5.cell mm0 hVB
            have p1 := ht5.cell mm1 hVB
            have p2 := ht5.cell mm2 hVB
            have p3 := ht5.cell mm3 hVB
            have p4 := ht5.cell mm4 hVB
            have p5 := ht5.cell mm5 hVB
            have p6 := ht5.cell mm6 hVB
            have hX5 := ht5.blk ((Ta.out.trans0 t1).blk hX (by simp)) hXB
            have hR5 := ht5.blk ((Ta.out.trans0 t1).blk hR (by simp)) hRB
            have T5 := ((ht.trans0 Ta.out).trans0 t1).trans ht5 (fun b hb => .inr (by have := hBlo b hb; omega))
            have z5 := cell_blk hX5 (i := 6) rfl
            have f5 : w5.frozen? ⟨w.heap.size + 1 + 1, 6, none⟩ = false := by simp [World.frozen?, hX5]
            have t7 := (Touch.refl [w.heap.size + 1 + 1] w5).setCell (p := ⟨w.heap.size + 1 + 1, 6, none⟩) (.inl (by simp)) (.slice B5 (j + 1) cB5)
            have r0 := t7.cell p0 (by simp; omega)
            have r1 := t7.cell p1 (by simp; omega)
            have r2 := t7.cell p2 (by simp; omega)
            have r3 := t7.cell p3 (by simp; omega)
            have r4 := t7.cell p4 (by simp; omega)
            have r5 := t7.cell p5 (by simp; omega)
            have r6 := t7.cell p6 (by simp; omega)
            refine hK.out _ _ ⟨p0, p1, p2, p3, p4, p5, p6⟩ (fun _hH => ?_)
            clear hK K
            try simp only [Act.put, List.setIfInBounds_toArray, List.set_cons_zero, List.set_cons_succ]
            refine take_d (i := 6) (d := 36) (v := ?_) rfl rfl (by kernel_rfl) (by kernel_rfl) (by kernel_rfl) (fun _ _ _ h => h) (Or.inl ⟨by rfl, ?_⟩) (by assumption) ?_
            rotate_left
            · intro w hSw; (try dsimp only at hSw); go_simp; (try with_reducible rfl)
            try simp only [Act.put, List.setIfInBounds_toArray, List.set_cons_zero, List.set_cons_succ]
            refine wpAnyH_ready (rs := [7]) (by kernel_rfl) (by simp) ?_
            refine AllReadyH.cons rfl (fun K hK => ?_) AllReadyH.nil
            go_simp
            (try go_wp2_with fail)
            refine hK.out _ _ ⟨r0, r1, r2, r3, r4, r5, r6⟩ (fun _hH => ?_)
            clear hK K
            try simp only [Act.put, List.setIfInBounds_toArray, List.set_cons_zero, List.set_cons_succ]
            refine wpAnyH_done (by kernel_rfl) ?_ _
            go_wp2
            go_roundw
            case rel => exact ⟨j + 1, B5, cB5, by omega, by go_num, set_blk hX5 6 _, (t7.blk hR5 (by simp)), by rw [Hsn.out]; exact hown5.touch t7 (fun b hb => by simp at hb; omega), T5.setCell (p := ⟨w.heap.size + 1 + 1, 6, none⟩) (.inr (by simp only; omega)) _⟩
            case measure => simp [intOf]; omega
          · go_simp
            (try go_wp2_with fail)
            refine hK.out _ _ ⟨q0, q1, q2, q3, q4, q5, q6⟩ (fun _hH => ?_)
            clear hK K
            try simp only [Act.put, List.setIfInBounds_toArray, List.set_cons_zero, List.set_cons_succ]
            refine wpAnyH_ready (rs := [1]) (by kernel_rfl) (by simp) ?_
            refine AllReadyH.cons rfl (fun K hK => ?_) AllReadyH.nil
            go_simp
            (try go_wp2_with fail)
            refine hK.out _ _ ⟨q0, q1, q2, q3, q4, q5, q6⟩ (fun _hH => ?_)
            clear hK K
            try simp only [Act.put, List.setIfInBounds_toArray, List.set_cons_zero, List.set_cons_succ]
            refine wpAnyH_ready (rs := [5]) (by kernel_rfl) (by simp) ?_
            refine AllReadyH.cons rfl (fun K hK => ?_) AllReadyH.nil
            refine step_appX xcR_length xcR_one rfl (.tmp 31) (.tmp 34) 59 (by rfl) 61 _ 96 info_rexpr Try.underlying59 rfl (by omega) (w.heap.size + 3) n B j cB (args.take j) Htl.out (by rfl) hown1 ⟨⟨k3, nm3, ⟨vk3, vn3, vt3⟩, op3⟩, A3, m3, c3⟩ a (hx1.mono fun b hb => ⟨⟨by have := hb.1; omega, hb.2⟩, fun hm => by have := hBlt b hm; have := hb.1; omega⟩) (by omega) 1 (by rfl) (by omega) rfl ?_
            intro B5 cB5 w5 hown5 ht5 hf5
            have hVB : wr.heap.size ∉ fpo B := fun hm => by have := hBlt _ hm; omega
            have p0 := ht5.cell mm0 hVB
            have p1 := ht5.cell mm1 hVB
            have p2 := ht5.cell mm2 hVB
            have p3 := ht5.cell mm3 hVB
            have p4 := ht5.cell mm4 hVB
            have p5 := ht5.cell mm5 hVB
            have p6 := ht5.cell mm6 hVB
            have hX5 := ht5.blk ((Ta.out.trans0 t1).blk hX (by simp)) hXB
            have hR5 := ht5.blk ((Ta.out.trans0 t1).blk hR (by simp)) hRB
            have T5 := ((ht.trans0 Ta.out).trans0 t1).trans ht5 (fun b hb => .inr (by have := hBlo b hb; omega))
            have z5 := cell_blk hX5 (i := 6) rfl
            have f5 : w5.frozen? ⟨w.heap.size + 1 + 1, 6, none⟩ = false := by simp [World.frozen?, hX5]
            have t7 := (Touch.refl [w.heap.size + 1 + 1] w5).setCell (p := ⟨w.heap.size + 1 + 1, 6, none⟩) (.inl (by simp)) (.slice B5 (j + 1) cB5)
            have r0 := t7.cell p0 (by simp; omega)
            have r1 := t7.cell p1 (by simp; omega)
            have r2 := t7.cell p2 (by simp; omega)
            have r3 := t7.cell p3 (by simp; omega)
            have r4 := t7.cell p4 (by simp; omega)
            have r5 := t7.cell p5 (by simp; omega)
            have r6 := t7.cell p6 (by simp; omega)
            refine hK.out _ _ ⟨p0, p1, p2, p3, p4, p5, p6⟩ (fun _hH => ?_)
            clear hK K
            try simp only [Act.put, List.setIfInBounds_toArray, List.set_cons_zero, List.set_cons_succ]
            refine take_d (i := 6) (d := 36) (v := ?_) rfl rfl (by kernel_rfl) (by kernel_rfl) (by kernel_rfl) (fun _ _ _ h => h) (Or.inl ⟨by rfl, ?_⟩) (by assumption) ?_
            rotate_left
            · intro w hSw; (try dsimp only at hSw); go_simp; (try with_reducible rfl)
            try simp only [Act.put, List.setIfInBounds_toArray, List.set_cons_zero, List.set_cons_succ]
            refine wpAnyH_ready (rs := [7]) (by kernel_rfl) (by simp) ?_
            refine AllReadyH.cons rfl (fun K hK => ?_) AllReadyH.nil
            go_simp
            (try go_wp2_with fail)
            refine hK.out _ _ ⟨r0, r1, r2, r3, r4, r5, r6⟩ (fun _hH => ?_)
            clear hK K
            try simp only [Act.put, List.setIfInBounds_toArray, List.set_cons_zero, List.set_cons_succ]
            refine wpAnyH_done (by kernel_rfl) ?_ _
            go_wp2
            go_roundw
            case rel => exact ⟨j + 1, B5, cB5, by omega, by go_num, set_blk hX5 6 _, (t7.blk hR5 (by simp)), by rw [Hsn.out]; exact hown5.touch t7 (fun b hb => by simp at hb; omega), T5.setCell (p := ⟨w.heap.size + 1 + 1, 6, none⟩) (.inr (by simp only; omega)) _⟩
            case measure => simp [intOf]; omega
      · obtain rfl : j = args.length := by omega
        rw [List.take_length] at hown
        have H7 := Lib.hid (fun (v0 v1 v2 v3 v4 v5 v6 : Value) => out7 hR v0 v1 v2 v3 v4 v5 v6)
        obtain ⟨d0, d1, d2, d3, d4, d5, d6, _⟩ := blk7 hX
        obtain ⟨e0, e1, e2, e3, e4, e5, e6, g0, g1, g2, g3, g4, g5, g6⟩ := blk7 hR
        go_wp2
        obtain ⟨q1, q2⟩ := H7.out (.int .i64 k) (.string nm) (.string op) (.int .i64 vk) (.int .i64 vn) (.string vt) (.slice B args.length cB)
        refine bodyPost_ret (results_cell_row rfl _ _ (w.heap.size + 1) _ _ _ _ rfl q1 Try.underlying61 rfl rfl) rfl ⟨⟨⟨k, nm, ⟨vk, vn, vt⟩, op⟩, B, args.length, cB⟩, rfl, ?_, ht.trans q2 (fun b hb => .inr (by simp at hb; omega))⟩
        have hT := (hown.touch q2 (fun b hb => by simp at hb; omega)).tree ⟨k, nm, ⟨vk, vn, vt⟩, op⟩ args.length rfl
        rw [H1.out] at hT ⊢
        exact hT.mono fun b hb => ⟨by have := hb.1; omega, hb.2⟩
end Go.Proofs.Ytlkckkagoommaaa

/- bywashref02.Name: is it a right name? For every text. -/
namespace Go.Proofs.Ytlkckkagoommaaa
open Go.RowKit

set_option maxRecDepth 20000 in
set_option maxHeartbeats 1600000 in
theorem refName_any (t : List UInt8) (hs : t.length ≤ 140737000000000) (w : World) :
    Calls Try.prog 57 #[.string (S t)] w fun e w' => e = .returned (.bool (nameV t)) ∧ w = w' := by
  have hsz := S_size t
  go_enter Try.func57, Try.ntmps57
  go_wp2
  go_loop [3] (fun i => ∃ k : Nat, k ≤ t.length ∧ i = .int .i64 k ∧ Hid ((t.take k).all innB = true ∧ (0 < k → ∃ x, t[0]? = some x ∧ letB x = true))) (fun i => t.length - (intOf i).toNat)
  case atStart => exact ⟨0, by omega, rfl, Lib.hid ⟨rfl, fun h => by omega⟩⟩
  case round =>
    obtain ⟨k, hk, rfl, hall⟩ := hrel
    by_cases hlt : k < t.length
    · obtain ⟨x, hx⟩ : ∃ x, x = t[k] := ⟨_, rfl⟩
      have hg := S_get t k (by rw [hsz]; exact hlt)
      rw [← hx] at hg
      have hxl := x.toNat_lt
      have hgood : innB x = true → (k = 0 → letB x = true) → (t.take (k + 1)).all innB = true ∧ (0 < k + 1 → ∃ x, t[0]? = some x ∧ letB x = true) := fun h1 h2 => by
        refine ⟨by rw [List.take_succ_eq_append_getElem hlt, List.all_append, hall.out.1, ← hx]; simp [h1], fun _ => ?_⟩
        rcases Nat.eq_zero_or_pos k with e | e
        · subst e; exact ⟨x, by rw [hx]; exact List.getElem?_eq_getElem hlt, h2 rfl⟩
        · exact hall.out.2 e
      have hbad : innB x = false → nameV t = false := fun h => nameV_bad hlt (by rw [← hx]; exact h)
      have hbad0 : k = 0 → letB x = false → nameV t = false := fun e h => by
        subst e
        cases t with
        | nil => rfl
        | cons c r =>
          have e : x = c := hx
          rw [nameV_cons, ← e, h, Bool.false_and, Bool.and_false]
      have Hg := Lib.hid hgood; have Hb := Lib.hid hbad; have Hb0 := Lib.hid hbad0
      clear hgood hbad hbad0 hx
      have hkk : (k : Int) < t.length := by omega
      have Hlv := Lib.hid (letB_int x); have Hiv := Lib.hid (innB_int x)
      by_cases hsm : 97 ≤ x.toNat ∧ x.toNat ≤ 122
      · obtain ⟨hs1, hs2⟩ := hsm
        have Hl : Hid (letB x = true) := Lib.hid (by simp [letB, hs1, hs2])
        go_wp2
        go_round
        case rel => exact ⟨k + 1, by omega, by go_num, Lib.hid (Hg.out (by simp [innB, Hl.out]) (fun _ => Hl.out))⟩
        case measure => simp [intOf]; omega
      have Hl : Hid (letB x = false) := Lib.hid (by simp [letB]; omega)
      have hdd : 122 < x.toNat → decide ((x.toNat : Int) ≤ 122) = false := fun h => decide_eq_false (by omega)
      have Hdd := Lib.hid hdd; clear hdd
      by_cases hk0 : k = 0
      · subst hk0
        have Hn := Lib.hid (Hb0.out rfl Hl.out)
        rcases (show x.toNat < 97 ∨ (97 ≤ x.toNat ∧ 122 < x.toNat) by omega) with hs1 | ⟨hs1, hs2⟩
        · go_wp2
          go_ret
          exact ⟨ret_bool Hn.out.symm, rfl⟩
        · have hd2 := Hdd.out hs2
          go_wp2
          go_ret
          exact ⟨ret_bool Hn.out.symm, rfl⟩
      · have hkz : ((k : Int) == 0) = false := by rw [beq_eq_false_iff_ne]; omega
        by_cases hi : innB x = true
        · have Hi := Lib.hid hi; clear hi
          have hcase : x.toNat = 95 ∨ (x.toNat ≠ 95 ∧ 48 ≤ x.toNat ∧ x.toNat ≤ 57) := by
            have h1 := Hi.out
            rw [Hiv.out, Hl.out] at h1
            simp at h1
            omega
          rcases hcase with h95 | ⟨h95, h48, h57⟩
          · have hq : ((x.toNat : Int) == 95) = true := by rw [h95]; rfl
            have hq' : ((x.toNat : Int) != 95) = false := by rw [h95]; rfl
            clear h95
            rcases (show x.toNat < 97 ∨ (97 ≤ x.toNat ∧ 122 < x.toNat) by omega) with hs1 | ⟨hs1, hs2⟩
            · go_wp2
              go_round
              case rel => exact ⟨k + 1, by omega, by go_num, Lib.hid (Hg.out Hi.out (fun e => absurd e hk0))⟩
              case measure => simp [intOf]; omega
            · have hd2 := Hdd.out hs2
              go_wp2
              go_round
              case rel => exact ⟨k + 1, by omega, by go_num, Lib.hid (Hg.out Hi.out (fun e => absurd e hk0))⟩
              case measure => simp [intOf]; omega
          · have hq : ((x.toNat : Int) == 95) = false := by rw [beq_eq_false_iff_ne]; omega
            have hq' : ((x.toNat : Int) != 95) = true := by rw [bne, hq]; rfl
            rcases (show x.toNat < 97 ∨ (97 ≤ x.toNat ∧ 122 < x.toNat) by omega) with hs1 | ⟨hs1, hs2⟩
            · go_wp2
              go_round
              case rel => exact ⟨k + 1, by omega, by go_num, Lib.hid (Hg.out Hi.out (fun e => absurd e hk0))⟩
              case measure => simp [intOf]; omega
            · omega
        · have Hn := Lib.hid (Hb.out (by simpa using hi))
          have Hi := Lib.hid hi; clear hi
          have h95 : x.toNat ≠ 95 ∧ (x.toNat < 48 ∨ 57 < x.toNat) := by
            have h1 := Hi.out
            rw [Hiv.out, Hl.out] at h1
            simp at h1; omega
          have hq : ((x.toNat : Int) == 95) = false := by rw [beq_eq_false_iff_ne]; omega
          have hq' : ((x.toNat : Int) != 95) = true := by rw [bne, hq]; rfl
          rcases h95 with ⟨_, h48 | h57⟩
          · go_wp2
            all_goals
              go_ret
              exact ⟨ret_bool Hn.out.symm, rfl⟩
          · rcases (show x.toNat < 97 ∨ (97 ≤ x.toNat ∧ 122 < x.toNat) by omega) with hs1 | ⟨hs1, hs2⟩
            · go_wp2
              go_ret
              exact ⟨ret_bool Hn.out.symm, rfl⟩
            · have hd2 := Hdd.out hs2
              go_wp2
              go_ret
              exact ⟨ret_bool Hn.out.symm, rfl⟩
    · obtain rfl : k = t.length := by omega
      have hall2 := hall.out
      rw [List.take_length] at hall2
      have hn : nameV t = (decide (1 ≤ (t.length : Int)) && decide ((t.length : Int) ≤ 16)) := by
        cases t with
        | nil => rfl
        | cons c r =>
          obtain ⟨x, hx, hl⟩ := hall2.2 (by simp)
          obtain rfl : c = x := by simpa using hx
          rw [nameV_cons, hall2.1, hl, Bool.eq_iff_iff]; simp; omega
      have Hn := Lib.hid hn; clear hn hall2 hall
      go_wp2
      all_goals
        go_ret
        exact ⟨ret_bool (by rw [Hn.out, Bool.eq_iff_iff]; simp; omega), rfl⟩
end Go.Proofs.Ytlkckkagoommaaa

/- bywashref02.Check: is a schema right, as the document says? For every schema. -/
namespace Go.Proofs.Ytlkckkagoommaaa
open Go.RowKit

theorem refName_anyB (s : ByteArray) (hs : s.size ≤ 140737000000000) (w : World) :
    Calls Try.prog 57 #[.string s] w fun e w' => e = .returned (.bool (nameV s.data.toList)) ∧ w = w' := by
  have := refName_any s.data.toList (by rw [size_toList]; exact hs) w
  rwa [S_of] at this

set_option maxRecDepth 20000 in
set_option maxHeartbeats 1600000 in
theorem refCheck_any (A : Option Addr) (cap n : Nat) (cs : List CD) (hn : cs.length = n) (hok : ∀ c ∈ cs, c.Ok) (w : World) (h : ColsAt w A cs) (hl : n ≤ 140737000000000) :
    Calls Try.prog 35 #[.slice A n cap] w fun e w' => e = .returned (.int .i64 (checkV cs)) ∧ Touch [] w w' := by
  subst hn
  by_cases h0 : cs.length < 1 ∨ 16 < cs.length
  · have hc : checkV cs = 31 := by unfold checkV; rw [if_pos h0]
    have Hc := Lib.hid hc; clear hc
    rcases h0 with h0 | h0
    · go_enter Try.func35, Try.ntmps35
      go_wp2
      go_ret
      exact ⟨ret_int Hc.out.symm, Touch.refl _ _⟩
    · go_enter Try.func35, Try.ntmps35
      go_wp2
      go_ret
      exact ⟨ret_int Hc.out.symm, Touch.refl _ _⟩
  · have h1 : 1 ≤ cs.length := by omega
    have h16 : cs.length ≤ 16 := by omega
    have hc : checkV cs = chkL (cs.take 0) (cs.drop 0) := by unfold checkV; rw [if_neg h0]; rfl
    have Hc := Lib.hid hc; clear hc h0
    go_enter Try.func35, Try.ntmps35
    go_wp2
    go_loopw [3] (fun i wr => ∃ k : Nat, k ≤ cs.length ∧ i = .int .i64 k ∧ Hid (checkV cs = chkL (cs.take k) (cs.drop k)) ∧ Touch [] w wr) (fun i _ => cs.length - (intOf i).toNat)
    case atStart => exact ⟨0, by omega, rfl, Hc, Touch.refl _ _⟩
    case round =>
      clear Hc
      obtain ⟨k, hk, rfl, Hc, ht⟩ := hrel
      by_cases hlt : k < cs.length
      · obtain ⟨ad, b, off, rfl, hadd, c0, c1⟩ := (h.touch0 ht).at_ k hlt
        have hcok := hok _ (List.getElem_mem hlt)
        have hst := chk_step hlt
        obtain ⟨c, hce⟩ : ∃ c, c = cs[k] := ⟨_, rfl⟩
        rw [← hce] at c0 c1 hst hcok
        have Hst := Lib.hid (Hc.out.trans hst)
        have Hce := Lib.hid hce
        clear hst Hc hce
        obtain ⟨hcn, hct1, hct2⟩ := hcok
        have hname := refName_anyB c.name hcn wr
        rcases hnv : nameV c.name.data.toList with _ | _
        · rw [hnv] at hname
          have Hname := Lib.hid hname; clear hname
          have he : errC (cs.take k) c = 13 := by unfold errC; rw [if_pos hnv]
          have He := Lib.hid (show checkV cs = 13 by rw [Hst.out, he]; rfl); clear he hnv
          go_wp2_with (go_at_call 57; refine Hname.out.mono ?_; rintro e w1 ⟨rfl, rfl⟩)
          go_ret
          exact ⟨ret_int He.out.symm, ht⟩
        · rw [hnv] at hname
          have Hname := Lib.hid hname; clear hname
          by_cases hty : c.typ ≠ 1 ∧ c.typ ≠ 2
          · have he : errC (cs.take k) c = 12 := by unfold errC; rw [if_neg (by rw [hnv]; simp), if_pos hty]
            have He := Lib.hid (show checkV cs = 12 by rw [Hst.out, he]; rfl); clear he hnv
            obtain ⟨q1, q2⟩ := hty
            have q1b : (c.typ == 1) = false := by rw [beq_eq_false_iff_ne]; exact q1
            have q2b : (c.typ == 2) = false := by rw [beq_eq_false_iff_ne]; exact q2
            have q1n : (c.typ != 1) = true := by rw [bne, q1b]; rfl
            have q2n : (c.typ != 2) = true := by rw [bne, q2b]; rfl
            go_wp2_with (go_at_call 57; refine Hname.out.mono ?_; rintro e w1 ⟨rfl, rfl⟩)
            go_ret
            exact ⟨ret_int He.out.symm, ht⟩
          · have hty2 : c.typ = 1 ∨ c.typ = 2 := by omega
            have Htyn := Lib.hid hty
            have Hnv := Lib.hid hnv
            clear hty hnv
            have c1' := c1
            rcases hty2 with q | q
            all_goals
              rw [q] at c1
              clear q c1'
              go_wp2_with (go_at_call 57; refine Hname.out.mono ?_; rintro e w1 ⟨rfl, rfl⟩)
              obtain ⟨wo, hwo⟩ : ∃ wo : World, wo = wr := ⟨_, rfl⟩
              clear Hname
              go_loopw [4] (fun i wr2 => ∃ j : Nat, j ≤ k ∧ i = .int .i64 j ∧ (∀ m (hm : m < j), cs[m]?.map (·.name) ≠ some c.name) ∧ Touch [] w wr2) (fun i _ => k - (intOf i).toNat)
              case atStart => exact ⟨0, by omega, rfl, fun m hm => absurd hm (by omega), ht⟩
              case round =>
                obtain ⟨j, hj, rfl, hno, ht2⟩ := hrel
                by_cases hjk : j < k
                · obtain ⟨ad2, b2, off2, e2, hadd2, e0, _⟩ := (h.touch0 ht2).at_ j (by omega)
                  obtain rfl : ad = ad2 := by injection e2
                  obtain ⟨ad3, b3, off3, e3, hadd3, f0, _⟩ := (h.touch0 ht2).at_ k hlt
                  obtain rfl : ad = ad3 := by injection e3
                  rw [hadd] at hadd3
                  cases hadd3
                  rw [← Hce.out] at f0
                  obtain ⟨d, hde⟩ : ∃ d, d = cs[j] := ⟨_, rfl⟩
                  rw [← hde] at e0
                  have Hde := Lib.hid hde
                  have hjkI : (j : Int) < (k : Int) := by omega
                  have hj0I : (0 : Int) ≤ (j : Int) := by omega
                  have hk0I : (0 : Int) ≤ (k : Int) := by omega
                  have hjlI : (j : Int) < (cs.length : Int) := by omega
                  have hklI : (k : Int) < (cs.length : Int) := by omega
                  have hno' := Lib.hid hno
                  clear hde e2 e3 hno c0 c1
                  have hbq := bs_beq d.name c.name
                  by_cases hdc : d.name = c.name
                  · have hany : ((cs.take k).any fun d => decide (d.name = c.name)) = true := List.any_eq_true.2 ⟨d, by
                      rw [List.mem_iff_getElem?]; exact ⟨j, by rw [List.getElem?_take, if_pos hjk, Hde.out]; exact List.getElem?_eq_getElem _⟩, by simpa using hdc⟩
                    have he : errC (cs.take k) c = 14 := by unfold errC; rw [if_neg (by rw [Hnv.out]; simp), if_neg Htyn.out, if_pos hany]
                    have He := Lib.hid (show checkV cs = 14 by rw [Hst.out, he]; rfl)
                    rw [decide_eq_true hdc] at hbq
                    clear he hany hdc
                    go_wp2
                    go_quiet (fail)
                    go_wp2
                    go_ret
                    exact ⟨ret_int He.out.symm, ht2.drewN _⟩
                  · rw [decide_eq_false hdc] at hbq
                    have Hdc := Lib.hid hdc
                    clear hdc
                    go_wp2
                    go_quiet (fail)
                    go_wp2
                    go_roundw
                    case rel => exact ⟨j + 1, by omega, by go_num, fun m hm => by
                      by_cases hmj : m < j
                      · exact hno'.out m hmj
                      · obtain rfl : m = j := by omega
                        rw [List.getElem?_eq_getElem (by omega), ← Hde.out]
                        simpa using Hdc.out, ht2.drewN _⟩
                    case measure => simp [intOf]; omega
                · obtain rfl : j = k := by omega
                  have hany : ¬ ((cs.take j).any fun d => decide (d.name = c.name)) = true := fun ha => by
                    obtain ⟨d, hd, hde⟩ := List.any_eq_true.1 ha
                    obtain ⟨m, hm⟩ := List.mem_iff_getElem?.1 hd
                    rw [List.getElem?_take] at hm
                    split at hm
                    · rename_i hmj
                      exact hno m hmj (by rw [hm]; simpa using hde)
                    · cases hm
                  have he : errC (cs.take j) c = 0 := by unfold errC; rw [if_neg (by rw [Hnv.out]; simp), if_neg Htyn.out, if_neg hany]
                  have He := Lib.hid (show checkV cs = chkL (cs.take (j + 1)) (cs.drop (j + 1)) by rw [Hst.out, he]; rfl)
                  clear he hany hno hwo
                  go_wp2
                  go_roundw
                  case rel => exact ⟨j + 1, by omega, by go_num, He, ht2⟩
                  case measure => simp [intOf]; omega
      · obtain rfl : k = cs.length := by omega
        have He := Lib.hid (show checkV cs = 0 by rw [Hc.out, List.drop_length]; rfl)
        go_wp2
        go_ret
        exact ⟨ret_int He.out.symm, ht⟩
end Go.Proofs.Ytlkckkagoommaaa
