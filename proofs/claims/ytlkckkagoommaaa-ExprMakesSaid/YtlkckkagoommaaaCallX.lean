/- expr.Call: a call of expressions, in new memory. For every expression. -/
import Derived.Test.YtlkckkagoommaaaCopied
import Derived.Test.YtlkckkagoommaaaHeld
import Derived.Deep.DrawnRows
namespace Go.Proofs.Ytlkckkagoommaaa
open Go.RowKit
attribute [local go_sem ↓] Go.wp_at_zero Go.wp_at_succ

set_option maxRecDepth 100000 in
set_option maxHeartbeats 6400000 in
theorem callX_any (n : Nat) (args : List (TX n)) (nm : ByteArray) (A : Option Addr) (m c : Nat) (hm : args.length = m) (w : World) (h3 : ArgsP xcE anyB n w A args) (hsum : sumX n args ≤ 1000000) :
    Calls Try.prog 31 #[.string nm, .slice A m c] w fun r w' => ∃ x', r = .returned x'.val ∧ ExP xcE (Fr w.heap.size w') (n + 1) w' x' (⟨5, nm, ⟨0, 0, ⟨#[]⟩⟩, ⟨#[]⟩⟩, args) ∧ Touch [] w w' := by
    subst hm
    have hlen := len_le_sum n args
    have Ih := Lib.hid (copied_any n)
    have t0 := (((Touch.refl [] w).alloc (.cells #[.int .i64 0, .string ⟨#[]⟩, .int .i64 0, .int .i64 0, .string ⟨#[]⟩, .string ⟨#[]⟩, .slice none 0 0] 33)).alloc (.cells #[.int .i64 5, .string nm, .int .i64 0, .int .i64 0, .string ⟨#[]⟩, .string ⟨#[]⟩, .slice none 0 0] 33))
    have hbx := (heap_alloc_new (w.alloc (.cells #[.int .i64 0, .string ⟨#[]⟩, .int .i64 0, .int .i64 0, .string ⟨#[]⟩, .string ⟨#[]⟩, .slice none 0 0] 33)) (.cells #[.int .i64 5, .string nm, .int .i64 0, .int .i64 0, .string ⟨#[]⟩, .string ⟨#[]⟩, .slice none 0 0] 33))
    have hbr := (((Touch.refl [] (w.alloc (.cells #[.int .i64 0, .string ⟨#[]⟩, .int .i64 0, .int .i64 0, .string ⟨#[]⟩, .string ⟨#[]⟩, .slice none 0 0] 33))).alloc (.cells #[.int .i64 5, .string nm, .int .i64 0, .int .i64 0, .string ⟨#[]⟩, .string ⟨#[]⟩, .slice none 0 0] 33)).blk (heap_alloc_new w (.cells #[.int .i64 0, .string ⟨#[]⟩, .int .i64 0, .int .i64 0, .string ⟨#[]⟩, .string ⟨#[]⟩, .slice none 0 0] 33)) (by simp))
    simp only [World.size_alloc] at hbx hbr
    go_enter Try.func31, Try.ntmps31
    go_wp2_with fail
    go_loopw [12] (fun i wr => ∃ (j : Nat) (B : Option Addr) (cB : Nat), j ≤ args.length ∧ i = .int .i64 j ∧ wr.heap[w.heap.size + 1]? = some (.cells #[.int .i64 5, .string nm, .int .i64 0, .int .i64 0, .string ⟨#[]⟩, .string ⟨#[]⟩, .slice B j cB] 33 (0, 0)) ∧
        wr.heap[w.heap.size]? = some (.cells #[.int .i64 0, .string ⟨#[]⟩, .int .i64 0, .int .i64 0, .string ⟨#[]⟩, .string ⟨#[]⟩, .slice none 0 0] 33 (0, 0)) ∧ OwnX 33 xcE (w.heap.size + 2) n wr B cB (args.take j) ∧ Touch [] w wr) (fun i _ => args.length - (intOf i).toNat)
    case atStart => exact ⟨0, none, 0, by omega, rfl, hbx, hbr, OwnX.nil _ _ _ _ _, t0⟩
    case round =>
      obtain ⟨j, B, cB, hj, rfl, hX, hR, hown, ht⟩ := hrel
      have hBlt := fun b hb => (hown.lt b hb).2
      have hBlo := fun b hb => (hown.lt b hb).1
      have hXB : w.heap.size + 1 ∉ fpo B := fun hm => by have := hBlo _ hm; omega
      have hRB : w.heap.size ∉ fpo B := fun hm => by have := hBlo _ hm; omega
      have hlR := lt_of_block hR
      have hlX := lt_of_block hX
      by_cases hlt : j < args.length
      · obtain ⟨ad, b, off, y, rfl, hadd, hy, hcell⟩ := (h3.touch0 ht).at_ xcE_length j hlt
        have hsn := List.take_succ_eq_append_getElem hlt
        have hms := size_mem (List.getElem_mem hlt)
        have Htl := Lib.hid (show (args.take j).length = j by rw [List.length_take]; omega)
        obtain ⟨a, hae⟩ : ∃ a, a = args[j] := ⟨_, rfl⟩
        rw [← hae] at hy hsn hms
        have Ta := Lib.hid (((Touch.refl [] wr).alloc (.cells #[.int .i64 y.nd.kind, .string y.nd.name, .int .i64 y.nd.v.kind, .int .i64 y.nd.v.num, .string y.nd.v.text, .string y.nd.op, .slice y.A y.n y.c] 33)).drew)
        have Hc := Lib.hid (Ih.out a y _ (hy.touch0 Ta.out) (by omega))
        have hbv := heap_alloc_new wr (.cells #[.int .i64 y.nd.kind, .string y.nd.name, .int .i64 y.nd.v.kind, .int .i64 y.nd.v.num, .string y.nd.v.text, .string y.nd.op, .slice y.A y.n y.c] 33)
        have c0 := hcell 0 _ rfl; have c1 := hcell 1 _ rfl; have c2 := hcell 2 _ rfl; have c3 := hcell 3 _ rfl; have c4 := hcell 4 _ rfl; have c5 := hcell 5 _ rfl; have c6 := hcell 6 _ rfl
        rw [Nat.add_zero] at c0
        have z0 := Ta.out.cell (cell_blk hX (i := 6) rfl) (by simp)
        have sTa : wr.heap.size ≤ (wr.alloc (.cells #[.int .i64 y.nd.kind, .string y.nd.name, .int .i64 y.nd.v.kind, .int .i64 y.nd.v.num, .string y.nd.v.text, .string y.nd.op, .slice y.A y.n y.c] 33)).drew.heap.size := Ta.out.size
        have Hsn := Lib.hid hsn
        obtain ⟨⟨k2, nm2, ⟨vk2, vn2, vt2⟩, op2⟩, A2, m2, c2'⟩ := y
        simp only [XC.val] at Hc
        simp only at c0 c1 c2 c3 c4 c5 c6 Ta hbv z0 sTa
        have ff0 : (wr.alloc (.cells #[.int .i64 k2, .string nm2, .int .i64 vk2, .int .i64 vn2, .string vt2, .string op2, .slice A2 m2 c2'] 33)).drew.cell? ⟨wr.heap.size, 0, none⟩ = some (.int .i64 k2) := cell_blk hbv rfl
        have ff1 : (wr.alloc (.cells #[.int .i64 k2, .string nm2, .int .i64 vk2, .int .i64 vn2, .string vt2, .string op2, .slice A2 m2 c2'] 33)).drew.cell? ⟨wr.heap.size, 1, none⟩ = some (.string nm2) := cell_blk hbv rfl
        have ff2 : (wr.alloc (.cells #[.int .i64 k2, .string nm2, .int .i64 vk2, .int .i64 vn2, .string vt2, .string op2, .slice A2 m2 c2'] 33)).drew.cell? ⟨wr.heap.size, 2, none⟩ = some (.int .i64 vk2) := cell_blk hbv rfl
        have ff3 : (wr.alloc (.cells #[.int .i64 k2, .string nm2, .int .i64 vk2, .int .i64 vn2, .string vt2, .string op2, .slice A2 m2 c2'] 33)).drew.cell? ⟨wr.heap.size, 3, none⟩ = some (.int .i64 vn2) := cell_blk hbv rfl
        have ff4 : (wr.alloc (.cells #[.int .i64 k2, .string nm2, .int .i64 vk2, .int .i64 vn2, .string vt2, .string op2, .slice A2 m2 c2'] 33)).drew.cell? ⟨wr.heap.size, 4, none⟩ = some (.string vt2) := cell_blk hbv rfl
        have ff5 : (wr.alloc (.cells #[.int .i64 k2, .string nm2, .int .i64 vk2, .int .i64 vn2, .string vt2, .string op2, .slice A2 m2 c2'] 33)).drew.cell? ⟨wr.heap.size, 5, none⟩ = some (.string op2) := cell_blk hbv rfl
        have ff6 : (wr.alloc (.cells #[.int .i64 k2, .string nm2, .int .i64 vk2, .int .i64 vn2, .string vt2, .string op2, .slice A2 m2 c2'] 33)).drew.cell? ⟨wr.heap.size, 6, none⟩ = some (.slice A2 m2 c2') := cell_blk hbv rfl
        clear hsn hae hcell hbv hms
        go_wp2_with fail
        refine wp_region_held_drew (S := fun w' => w'.cell? ⟨wr.heap.size, 0, none⟩ = some (.int .i64 k2) ∧ w'.cell? ⟨wr.heap.size, 1, none⟩ = some (.string nm2) ∧ w'.cell? ⟨wr.heap.size, 2, none⟩ = some (.int .i64 vk2) ∧ w'.cell? ⟨wr.heap.size, 3, none⟩ = some (.int .i64 vn2) ∧ w'.cell? ⟨wr.heap.size, 4, none⟩ = some (.string vt2) ∧ w'.cell? ⟨wr.heap.size, 5, none⟩ = some (.string op2) ∧ w'.cell? ⟨wr.heap.size, 6, none⟩ = some (.slice A2 m2 c2')) (by kernel_rfl) ⟨ff0, ff1, ff2, ff3, ff4, ff5, ff6⟩ (fun hHeld => ?_)
        refine take_d (i := 0) (d := 16) (v := ?_) rfl rfl (by kernel_rfl) (by kernel_rfl) (by kernel_rfl) (fun _ _ _ h => h) (Or.inl ⟨by rfl, ?_⟩) (by assumption) ?_
        rotate_left
        · intro w hSw; (try dsimp only at hSw); go_simp; (try with_reducible rfl)
        try simp only [Act.put, List.setIfInBounds_toArray, List.set_cons_zero, List.set_cons_succ]
        refine take_d (i := 2) (d := 18) (v := ?_) rfl rfl (by kernel_rfl) (by kernel_rfl) (by kernel_rfl) (fun _ _ _ h => h) (Or.inl ⟨by rfl, ?_⟩) (by assumption) ?_
        rotate_left
        · intro w hSw; (try dsimp only at hSw); go_simp; (try with_reducible rfl)
        try simp only [Act.put, List.setIfInBounds_toArray, List.set_cons_zero, List.set_cons_succ]
        refine wpAnyH_ready (rs := [1, 3]) (by kernel_rfl) (by simp) ?_
        refine AllReadyH.cons rfl (fun K hK => ?_) (AllReadyH.cons rfl (fun K hK => ?_) AllReadyH.nil)
        · go_simp
          (try go_wp2_with fail)
          refine hK.out _ _ ⟨ff0, ff1, ff2, ff3, ff4, ff5, ff6⟩ (fun _hH => ?_)
          clear hK K
          try simp only [Act.put, List.setIfInBounds_toArray, List.set_cons_zero, List.set_cons_succ]
          refine wpAnyH_ready (rs := [3]) (by kernel_rfl) (by simp) ?_
          refine AllReadyH.cons rfl (fun K hK => ?_) AllReadyH.nil
          go_simp
          go_at_call 44
          refine (Hc.out).mono ?_
          rintro e w1 ⟨x1, rfl, hx1, t1⟩
          obtain ⟨⟨k3, nm3, ⟨vk3, vn3, vt3⟩, op3⟩, A3, m3, c3⟩ := x1
          have mm0 := t1.cell ff0 (by simp)
          have mm1 := t1.cell ff1 (by simp)
          have mm2 := t1.cell ff2 (by simp)
          have mm3 := t1.cell ff3 (by simp)
          have mm4 := t1.cell ff4 (by simp)
          have mm5 := t1.cell ff5 (by simp)
          have mm6 := t1.cell ff6 (by simp)
          have z1 := t1.cell z0 (by simp)
          have tn := (Touch.refl [] w1).alloc (.cells #[.int .i64 k3, .string nm3, .int .i64 vk3, .int .i64 vn3, .string vt3, .string op3, .slice A3 m3 c3] 33)
          have z2 := tn.cell z1 (by simp)
          have q0 := tn.cell mm0 (by simp)
          have q1 := tn.cell mm1 (by simp)
          have q2 := tn.cell mm2 (by simp)
          have q3 := tn.cell mm3 (by simp)
          have q4 := tn.cell mm4 (by simp)
          have q5 := tn.cell mm5 (by simp)
          have q6 := tn.cell mm6 (by simp)
          have hown1 := (hown.touch0 Ta.out).touch0 t1
          have s1 := t1.size
          (try go_wp2_with fail)
          refine hK.out _ _ ⟨mm0, mm1, mm2, mm3, mm4, mm5, mm6⟩ (fun _hH => ?_)
          clear hK K
          try simp only [Act.put, List.setIfInBounds_toArray, List.set_cons_zero, List.set_cons_succ]
          refine wpAnyH_ready (rs := [4]) (by kernel_rfl) (by simp) ?_
          refine AllReadyH.cons rfl (fun K hK => ?_) AllReadyH.nil
          go_simp
          (try go_wp2_with fail)
          refine hK.out _ _ ⟨q0, q1, q2, q3, q4, q5, q6⟩ (fun _hH => ?_)
          clear hK K
          try simp only [Act.put, List.setIfInBounds_toArray, List.set_cons_zero, List.set_cons_succ]
          refine wpAnyH_ready (rs := [5]) (by kernel_rfl) (by simp) ?_
          refine AllReadyH.cons rfl (fun K hK => ?_) AllReadyH.nil
          refine step_appX xcE_length xcE_one rfl (.tmp 17) (.tmp 20) 31 (by rfl) 33 _ 96 info_expr Try.underlying31 rfl (by omega) (w.heap.size + 2) n B j cB (args.take j) Htl.out (by rfl) hown1 ⟨⟨k3, nm3, ⟨vk3, vn3, vt3⟩, op3⟩, A3, m3, c3⟩ a (hx1.mono fun b hb => ⟨⟨by have := hb.1; omega, hb.2⟩, fun hm => by have := hBlt b hm; have := hb.1; omega⟩) (by omega) 1 (by rfl) (by omega) rfl ?_
          intro B5 cB5 w5 hown5 ht5 hf5
          have hVB : wr.heap.size ∉ fpo B := fun hm => by have := hBlt _ hm; omega
          have p0 := ht5.cell mm0 hVB
          have p1 := ht5.cell mm1 hVB
          have p2 := ht5.cell mm2 hVB
          have p3 := ht5.cell mm3 hVB
          have p4 := ht5.cell mm4 hVB
          have p5 := ht5.cell mm5 hVB
          have p6 := ht5.cell mm6 hVB
          have hX5 := ht5.blk ((Ta.out.trans0 t1).blk hX (by simp)) hXB
          have hR5 := ht5.blk ((Ta.out.trans0 t1).blk hR (by simp)) hRB
          have T5 := ((ht.trans0 Ta.out).trans0 t1).trans ht5 (fun b hb => .inr (by have := hBlo b hb; omega))
          have z5 := cell_blk hX5 (i := 6) rfl
          have f5 : w5.frozen? ⟨w.heap.size + 1, 6, none⟩ = false := by simp [World.frozen?, hX5]
          have t7 := (Touch.refl [w.heap.size + 1] w5).setCell (p := ⟨w.heap.size + 1, 6, none⟩) (.inl (by simp)) (.slice B5 (j + 1) cB5)
          have r0 := t7.cell p0 (by simp; omega)
          have r1 := t7.cell p1 (by simp; omega)
          have r2 := t7.cell p2 (by simp; omega)
          have r3 := t7.cell p3 (by simp; omega)
          have r4 := t7.cell p4 (by simp; omega)
          have r5 := t7.cell p5 (by simp; omega)
          have r6 := t7.cell p6 (by simp; omega)
          refine hK.out _ _ ⟨p0, p1, p2, p3, p4, p5, p6⟩ (fun _hH => ?_)
          clear hK K
          try simp only [Act.put, List.setIfInBounds_toArray]
          refine take_d (i := 6) (d := 22) (v := ?_) rfl rfl (by kernel_rfl) (by kernel_rfl) (by kernel_rfl) (fun _ _ _ h => h) (Or.inl ⟨by rfl, ?_⟩) (by assumption) ?_
          rotate_left
          · intro w hSw; (try dsimp only at hSw); go_simp; (try with_reducible rfl)
          try simp only [Act.put]
          refine wpAnyH_ready (rs := [7]) (by kernel_rfl) (by simp) ?_
          refine AllReadyH.cons rfl (fun K hK => ?_) AllReadyH.nil
          go_simp
          (try go_wp2_with fail)
          refine hK.out _ _ ⟨r0, r1, r2, r3, r4, r5, r6⟩ (fun _hH => ?_)
          clear hK K
          try simp only [Act.put, List.setIfInBounds_toArray, List.set_cons_zero, List.set_cons_succ]
          refine wpAnyH_done (by kernel_rfl) ?_ _
          go_wp2
          go_roundw
          case rel => exact ⟨j + 1, B5, cB5, by omega, by go_num, set_blk hX5 6 _, (t7.blk hR5 (by simp)), by rw [Hsn.out]; exact hown5.touch t7 (fun b hb => by simp at hb; omega), T5.setCell (p := ⟨w.heap.size + 1, 6, none⟩) (.inr (by simp only; omega)) _⟩
          case measure => simp [intOf]; omega
        · go_simp
          go_at_call 44
          refine (Hc.out).mono ?_
          rintro e w1 ⟨x1, rfl, hx1, t1⟩
          obtain ⟨⟨k3, nm3, ⟨vk3, vn3, vt3⟩, op3⟩, A3, m3, c3⟩ := x1
          have mm0 := t1.cell ff0 (by simp)
          have mm1 := t1.cell ff1 (by simp)
          have mm2 := t1.cell ff2 (by simp)
          have mm3 := t1.cell ff3 (by simp)
          have mm4 := t1.cell ff4 (by simp)
          have mm5 := t1.cell ff5 (by simp)
          have mm6 := t1.cell ff6 (by simp)
          have z1 := t1.cell z0 (by simp)
          have tn := (Touch.refl [] w1).alloc (.cells #[.int .i64 k3, .string nm3, .int .i64 vk3, .int .i64 vn3, .string vt3, .string op3, .slice A3 m3 c3] 33)
          have z2 := tn.cell z1 (by simp)
          have q0 := tn.cell mm0 (by simp)
          have q1 := tn.cell mm1 (by simp)
          have q2 := tn.cell mm2 (by simp)
          have q3 := tn.cell mm3 (by simp)
          have q4 := tn.cell mm4 (by simp)
          have q5 := tn.cell mm5 (by simp)
          have q6 := tn.cell mm6 (by simp)
          have hown1 := (hown.touch0 Ta.out).touch0 t1
          have s1 := t1.size
          (try go_wp2_with fail)
          refine hK.out _ _ ⟨mm0, mm1, mm2, mm3, mm4, mm5, mm6⟩ (fun _hH => ?_)
          clear hK K
          try simp only [Act.put, List.setIfInBounds_toArray, List.set_cons_zero, List.set_cons_succ]
          refine wpAnyH_ready (rs := [1, 4]) (by kernel_rfl) (by simp) ?_
          refine AllReadyH.cons rfl (fun K hK => ?_) (AllReadyH.cons rfl (fun K hK => ?_) AllReadyH.nil)
          · go_simp
            (try go_wp2_with fail)
            refine hK.out _ _ ⟨mm0, mm1, mm2, mm3, mm4, mm5, mm6⟩ (fun _hH => ?_)
            clear hK K
            try simp only [Act.put, List.setIfInBounds_toArray, List.set_cons_zero, List.set_cons_succ]
            refine wpAnyH_ready (rs := [4]) (by kernel_rfl) (by simp) ?_
            refine AllReadyH.cons rfl (fun K hK => ?_) AllReadyH.nil
            go_simp
            (try go_wp2_with fail)
            refine hK.out _ _ ⟨q0, q1, q2, q3, q4, q5, q6⟩ (fun _hH => ?_)
            clear hK K
            try simp only [Act.put, List.setIfInBounds_toArray, List.set_cons_zero, List.set_cons_succ]
            refine wpAnyH_ready (rs := [5]) (by kernel_rfl) (by simp) ?_
            refine AllReadyH.cons rfl (fun K hK => ?_) AllReadyH.nil
            refine step_appX xcE_length xcE_one rfl (.tmp 17) (.tmp 20) 31 (by rfl) 33 _ 96 info_expr Try.underlying31 rfl (by omega) (w.heap.size + 2) n B j cB (args.take j) Htl.out (by rfl) hown1 ⟨⟨k3, nm3, ⟨vk3, vn3, vt3⟩, op3⟩, A3, m3, c3⟩ a (hx1.mono fun b hb => ⟨⟨by have := hb.1; omega, hb.2⟩, fun hm => by have := hBlt b hm; have := hb.1; omega⟩) (by omega) 1 (by rfl) (by omega) rfl ?_
            intro B5 cB5 w5 hown5 ht5 hf5
            have hVB : wr.heap.size ∉ fpo B := fun hm => by have := hBlt _ hm; omega
            have p0 := ht5.cell mm0 hVB
            have p1 := ht5.cell mm1 hVB
            have p2 := ht5.cell mm2 hVB
            have p3 := ht5.cell mm3 hVB
            have p4 := ht5.cell mm4 hVB
            have p5 := ht5.cell mm5 hVB
            have p6 := ht5.cell mm6 hVB
            have hX5 := ht5.blk ((Ta.out.trans0 t1).blk hX (by simp)) hXB
            have hR5 := ht5.blk ((Ta.out.trans0 t1).blk hR (by simp)) hRB
            have T5 := ((ht.trans0 Ta.out).trans0 t1).trans ht5 (fun b hb => .inr (by have := hBlo b hb; omega))
            have z5 := cell_blk hX5 (i := 6) rfl
            have f5 : w5.frozen? ⟨w.heap.size + 1, 6, none⟩ = false := by simp [World.frozen?, hX5]
            have t7 := (Touch.refl [w.heap.size + 1] w5).setCell (p := ⟨w.heap.size + 1, 6, none⟩) (.inl (by simp)) (.slice B5 (j + 1) cB5)
            have r0 := t7.cell p0 (by simp; omega)
            have r1 := t7.cell p1 (by simp; omega)
            have r2 := t7.cell p2 (by simp; omega)
            have r3 := t7.cell p3 (by simp; omega)
            have r4 := t7.cell p4 (by simp; omega)
            have r5 := t7.cell p5 (by simp; omega)
            have r6 := t7.cell p6 (by simp; omega)
            refine hK.out _ _ ⟨p0, p1, p2, p3, p4, p5, p6⟩ (fun _hH => ?_)
            clear hK K
            try simp only [Act.put, List.setIfInBounds_toArray]
            refine take_d (i := 6) (d := 22) (v := ?_) rfl rfl (by kernel_rfl) (by kernel_rfl) (by kernel_rfl) (fun _ _ _ h => h) (Or.inl ⟨by rfl, ?_⟩) (by assumption) ?_
            rotate_left
            · intro w hSw; (try dsimp only at hSw); go_simp; (try with_reducible rfl)
            try simp only [Act.put]
            refine wpAnyH_ready (rs := [7]) (by kernel_rfl) (by simp) ?_
            refine AllReadyH.cons rfl (fun K hK => ?_) AllReadyH.nil
            go_simp
            (try go_wp2_with fail)
            refine hK.out _ _ ⟨r0, r1, r2, r3, r4, r5, r6⟩ (fun _hH => ?_)
            clear hK K
            try simp only [Act.put, List.setIfInBounds_toArray, List.set_cons_zero, List.set_cons_succ]
            refine wpAnyH_done (by kernel_rfl) ?_ _
            go_wp2
            go_roundw
            case rel => exact ⟨j + 1, B5, cB5, by omega, by go_num, set_blk hX5 6 _, (t7.blk hR5 (by simp)), by rw [Hsn.out]; exact hown5.touch t7 (fun b hb => by simp at hb; omega), T5.setCell (p := ⟨w.heap.size + 1, 6, none⟩) (.inr (by simp only; omega)) _⟩
            case measure => simp [intOf]; omega
          · go_simp
            (try go_wp2_with fail)
            refine hK.out _ _ ⟨q0, q1, q2, q3, q4, q5, q6⟩ (fun _hH => ?_)
            clear hK K
            try simp only [Act.put, List.setIfInBounds_toArray, List.set_cons_zero, List.set_cons_succ]
            refine wpAnyH_ready (rs := [1]) (by kernel_rfl) (by simp) ?_
            refine AllReadyH.cons rfl (fun K hK => ?_) AllReadyH.nil
            go_simp
            (try go_wp2_with fail)
            refine hK.out _ _ ⟨q0, q1, q2, q3, q4, q5, q6⟩ (fun _hH => ?_)
            clear hK K
            try simp only [Act.put, List.setIfInBounds_toArray, List.set_cons_zero, List.set_cons_succ]
            refine wpAnyH_ready (rs := [5]) (by kernel_rfl) (by simp) ?_
            refine AllReadyH.cons rfl (fun K hK => ?_) AllReadyH.nil
            refine step_appX xcE_length xcE_one rfl (.tmp 17) (.tmp 20) 31 (by rfl) 33 _ 96 info_expr Try.underlying31 rfl (by omega) (w.heap.size + 2) n B j cB (args.take j) Htl.out (by rfl) hown1 ⟨⟨k3, nm3, ⟨vk3, vn3, vt3⟩, op3⟩, A3, m3, c3⟩ a (hx1.mono fun b hb => ⟨⟨by have := hb.1; omega, hb.2⟩, fun hm => by have := hBlt b hm; have := hb.1; omega⟩) (by omega) 1 (by rfl) (by omega) rfl ?_
            intro B5 cB5 w5 hown5 ht5 hf5
            have hVB : wr.heap.size ∉ fpo B := fun hm => by have := hBlt _ hm; omega
            have p0 := ht5.cell mm0 hVB
            have p1 := ht5.cell mm1 hVB
            have p2 := ht5.cell mm2 hVB
            have p3 := ht5.cell mm3 hVB
            have p4 := ht5.cell mm4 hVB
            have p5 := ht5.cell mm5 hVB
            have p6 := ht5.cell mm6 hVB
            have hX5 := ht5.blk ((Ta.out.trans0 t1).blk hX (by simp)) hXB
            have hR5 := ht5.blk ((Ta.out.trans0 t1).blk hR (by simp)) hRB
            have T5 := ((ht.trans0 Ta.out).trans0 t1).trans ht5 (fun b hb => .inr (by have := hBlo b hb; omega))
            have z5 := cell_blk hX5 (i := 6) rfl
            have f5 : w5.frozen? ⟨w.heap.size + 1, 6, none⟩ = false := by simp [World.frozen?, hX5]
            have t7 := (Touch.refl [w.heap.size + 1] w5).setCell (p := ⟨w.heap.size + 1, 6, none⟩) (.inl (by simp)) (.slice B5 (j + 1) cB5)
            have r0 := t7.cell p0 (by simp; omega)
            have r1 := t7.cell p1 (by simp; omega)
            have r2 := t7.cell p2 (by simp; omega)
            have r3 := t7.cell p3 (by simp; omega)
            have r4 := t7.cell p4 (by simp; omega)
            have r5 := t7.cell p5 (by simp; omega)
            have r6 := t7.cell p6 (by simp; omega)
            refine hK.out _ _ ⟨p0, p1, p2, p3, p4, p5, p6⟩ (fun _hH => ?_)
            clear hK K
            try simp only [Act.put, List.setIfInBounds_toArray]
            refine take_d (i := 6) (d := 22) (v := ?_) rfl rfl (by kernel_rfl) (by kernel_rfl) (by kernel_rfl) (fun _ _ _ h => h) (Or.inl ⟨by rfl, ?_⟩) (by assumption) ?_
            rotate_left
            · intro w hSw; (try dsimp only at hSw); go_simp; (try with_reducible rfl)
            try simp only [Act.put]
            refine wpAnyH_ready (rs := [7]) (by kernel_rfl) (by simp) ?_
            refine AllReadyH.cons rfl (fun K hK => ?_) AllReadyH.nil
            go_simp
            (try go_wp2_with fail)
            refine hK.out _ _ ⟨r0, r1, r2, r3, r4, r5, r6⟩ (fun _hH => ?_)
            clear hK K
            try simp only [Act.put, List.setIfInBounds_toArray, List.set_cons_zero, List.set_cons_succ]
            refine wpAnyH_done (by kernel_rfl) ?_ _
            go_wp2
            go_roundw
            case rel => exact ⟨j + 1, B5, cB5, by omega, by go_num, set_blk hX5 6 _, (t7.blk hR5 (by simp)), by rw [Hsn.out]; exact hown5.touch t7 (fun b hb => by simp at hb; omega), T5.setCell (p := ⟨w.heap.size + 1, 6, none⟩) (.inr (by simp only; omega)) _⟩
            case measure => simp [intOf]; omega
      · obtain rfl : j = args.length := by omega
        rw [List.take_length] at hown
        have H7 := Lib.hid (fun (v0 v1 v2 v3 v4 v5 v6 : Value) => out7 hR v0 v1 v2 v3 v4 v5 v6)
        obtain ⟨d0, d1, d2, d3, d4, d5, d6, _⟩ := blk7 hX
        obtain ⟨e0, e1, e2, e3, e4, e5, e6, g0, g1, g2, g3, g4, g5, g6⟩ := blk7 hR
        go_wp2
        obtain ⟨q1, q2⟩ := H7.out (.int .i64 5) (.string nm) (.int .i64 0) (.int .i64 0) (.string ⟨#[]⟩) (.string ⟨#[]⟩) (.slice B args.length cB)
        refine bodyPost_ret (results_cell_row rfl _ _ (w.heap.size) _ _ _ _ rfl q1 Try.underlying33 rfl rfl) rfl ⟨⟨⟨5, nm, ⟨0, 0, ⟨#[]⟩⟩, ⟨#[]⟩⟩, B, args.length, cB⟩, rfl, ?_, ht.trans q2 (fun b hb => .inr (by simp at hb; omega))⟩
        have hT := (hown.touch q2 (fun b hb => by simp at hb; omega)).tree ⟨5, nm, ⟨0, 0, ⟨#[]⟩⟩, ⟨#[]⟩⟩ args.length rfl
        exact hT.mono fun b hb => ⟨by have := hb.1; omega, hb.2⟩
end Go.Proofs.Ytlkckkagoommaaa
