/- Part 9 of the texts of this proof, one behind the other; each begins with its own sentence. No condition beyond those that its theorems state. -/
import Derived.Test.YtlkckkagoommaaaCo8
import Derived.Deep.DrawnRows
import Derived.ProofKit
import Derived.Deep.Slices
import Derived.Deep.Fields
import Derived.ChangeSame
import Derived.ChangeArms
/- expr.Expr.copied: an expression in new memory. For every expression. -/
namespace Go.Proofs.Ytlkckkagoommaaa
open Go.RowKit
attribute [local go_sem ↓] Go.wp_at_zero Go.wp_at_succ

theorem info_expr : (Try.prog.info? 33).map (fun i => (i.zero, i.size, i.bytes)) = some (some (.agg #[.int .i64 0, .string ⟨#[]⟩, .int .i64 0, .int .i64 0, .string ⟨#[]⟩, .string ⟨#[]⟩, .slice none 0 0]), 7, 96) := by kernel_rfl

set_option maxRecDepth 100000 in
set_option maxHeartbeats 6400000 in
theorem copied_any (n : Nat) : ∀ (e : TX n) (x : XC) (w : World), ExP xcE anyB n w x e → sizeX n e ≤ 1000000 →
    Calls Try.prog 44 #[x.val] w fun r w' => ∃ x', r = .returned x'.val ∧ ExP xcE (Fr w.heap.size w') n w' x' e ∧ Touch [] w w' := by
  induction n with
  | zero => intro e; exact e.elim
  | succ n ih =>
    intro e x w hx hs
    obtain ⟨nd, args⟩ := e
    obtain ⟨h1, h2, h3⟩ := hx.args
    have hsum : sumX n args ≤ 1000000 := by have hs' : 1 + sumX n args ≤ 1000000 := hs; omega
    have hlen := len_le_sum n args
    obtain ⟨⟨k, nm, ⟨vk, vn, vt⟩, op⟩, A, m, c⟩ := x
    dsimp only at h1 h2 h3
    subst h2
    dsimp only [XC.val]
    have Ih := Lib.hid ih; have H1 := Lib.hid h1
    clear ih hx h1 hs
    have t0 := (((Touch.refl [] w).alloc (.cells #[.int .i64 k, .string nm, .int .i64 vk, .int .i64 vn, .string vt, .string op, .slice none 0 0] 33)).alloc (.cells #[.int .i64 0, .string ⟨#[]⟩, .int .i64 0, .int .i64 0, .string ⟨#[]⟩, .string ⟨#[]⟩, .slice none 0 0] 33))
    have hbx := (((Touch.refl [] (w.alloc (.cells #[.int .i64 k, .string nm, .int .i64 vk, .int .i64 vn, .string vt, .string op, .slice none 0 0] 33))).alloc (.cells #[.int .i64 0, .string ⟨#[]⟩, .int .i64 0, .int .i64 0, .string ⟨#[]⟩, .string ⟨#[]⟩, .slice none 0 0] 33)).blk (heap_alloc_new w (.cells #[.int .i64 k, .string nm, .int .i64 vk, .int .i64 vn, .string vt, .string op, .slice none 0 0] 33)) (by simp))
    have hbr := (heap_alloc_new (w.alloc (.cells #[.int .i64 k, .string nm, .int .i64 vk, .int .i64 vn, .string vt, .string op, .slice none 0 0] 33)) (.cells #[.int .i64 0, .string ⟨#[]⟩, .int .i64 0, .int .i64 0, .string ⟨#[]⟩, .string ⟨#[]⟩, .slice none 0 0] 33))
    simp only [World.size_alloc] at hbx hbr
    go_enter Try.func44, Try.ntmps44
    go_wp2_with fail
    go_loopw [11] (fun i wr => ∃ (j : Nat) (B : Option Addr) (cB : Nat), j ≤ args.length ∧ i = .int .i64 j ∧ wr.heap[w.heap.size]? = some (.cells #[.int .i64 k, .string nm, .int .i64 vk, .int .i64 vn, .string vt, .string op, .slice B j cB] 33 (0, 0)) ∧
        wr.heap[w.heap.size + 1]? = some (.cells #[.int .i64 0, .string ⟨#[]⟩, .int .i64 0, .int .i64 0, .string ⟨#[]⟩, .string ⟨#[]⟩, .slice none 0 0] 33 (0, 0)) ∧ OwnX 33 xcE (w.heap.size + 2) n wr B cB (args.take j) ∧ Touch [] w wr) (fun i _ => args.length - (intOf i).toNat)
    case atStart => exact ⟨0, none, 0, by omega, rfl, hbx, hbr, OwnX.nil _ _ _ _ _, t0⟩
    case round =>
      obtain ⟨j, B, cB, hj, rfl, hX, hR, hown, ht⟩ := hrel
      have hBlt := fun b hb => (hown.lt b hb).2
      have hBlo := fun b hb => (hown.lt b hb).1
      have hXB : w.heap.size ∉ fpo B := fun hm => by have := hBlo _ hm; omega
      have hRB : w.heap.size + 1 ∉ fpo B := fun hm => by have := hBlo _ hm; omega
      have hlR := lt_of_block hR
      have hlX := lt_of_block hX
      by_cases hlt : j < args.length
      · obtain ⟨ad, b, off, y, rfl, hadd, hy, hcell⟩ := (h3.touch0 ht).at_ xcE_length j hlt
        have hsn := List.take_succ_eq_append_getElem hlt
        have hms := size_mem (List.getElem_mem hlt)
        have Htl := Lib.hid (show (args.take j).length = j by rw [List.length_take]; omega)
        obtain ⟨a, hae⟩ : ∃ a, a = args[j] := ⟨_, rfl⟩
        rw [← hae] at hy hsn hms
        have Ta := Lib.hid (((Touch.refl [] wr).alloc (.cells #[.int .i64 y.nd.kind, .string y.nd.name, .int .i64 y.nd.v.kind, .int .i64 y.nd.v.num, .string y.nd.v.text, .string y.nd.op, .slice y.A y.n y.c] 33)).drew)
        have Hc := Lib.hid (Ih.out a y _ (hy.touch0 Ta.out) (by omega))
        have hbv := heap_alloc_new wr (.cells #[.int .i64 y.nd.kind, .string y.nd.name, .int .i64 y.nd.v.kind, .int .i64 y.nd.v.num, .string y.nd.v.text, .string y.nd.op, .slice y.A y.n y.c] 33)
        have c0 := hcell 0 _ rfl; have c1 := hcell 1 _ rfl; have c2 := hcell 2 _ rfl; have c3 := hcell 3 _ rfl; have c4 := hcell 4 _ rfl; have c5 := hcell 5 _ rfl; have c6 := hcell 6 _ rfl
        rw [Nat.add_zero] at c0
        have z0 := Ta.out.cell (cell_blk hX (i := 6) rfl) (by simp)
        have sTa : wr.heap.size ≤ (wr.alloc (.cells #[.int .i64 y.nd.kind, .string y.nd.name, .int .i64 y.nd.v.kind, .int .i64 y.nd.v.num, .string y.nd.v.text, .string y.nd.op, .slice y.A y.n y.c] 33)).drew.heap.size := Ta.out.size
        have Hsn := Lib.hid hsn
        obtain ⟨⟨k2, nm2, ⟨vk2, vn2, vt2⟩, op2⟩, A2, m2, c2'⟩ := y
        simp only [XC.val] at Hc
        simp only at c0 c1 c2 c3 c4 c5 c6 Ta hbv z0 sTa
        have ff0 : (wr.alloc (.cells #[.int .i64 k2, .string nm2, .int .i64 vk2, .int .i64 vn2, .string vt2, .string op2, .slice A2 m2 c2'] 33)).drew.cell? ⟨wr.heap.size, 0, none⟩ = some (.int .i64 k2) := cell_blk hbv rfl
        have ff1 : (wr.alloc (.cells #[.int .i64 k2, .string nm2, .int .i64 vk2, .int .i64 vn2, .string vt2, .string op2, .slice A2 m2 c2'] 33)).drew.cell? ⟨wr.heap.size, 1, none⟩ = some (.string nm2) := cell_blk hbv rfl
        have ff2 : (wr.alloc (.cells #[.int .i64 k2, .string nm2, .int .i64 vk2, .int .i64 vn2, .string vt2, .string op2, .slice A2 m2 c2'] 33)).drew.cell? ⟨wr.heap.size, 2, none⟩ = some (.int .i64 vk2) := cell_blk hbv rfl
        have ff3 : (wr.alloc (.cells #[.int .i64 k2, .string nm2, .int .i64 vk2, .int .i64 vn2, .string vt2, .string op2, .slice A2 m2 c2'] 33)).drew.cell? ⟨wr.heap.size, 3, none⟩ = some (.int .i64 vn2) := cell_blk hbv rfl
        have ff4 : (wr.alloc (.cells #[.int .i64 k2, .string nm2, .int .i64 vk2, .int .i64 vn2, .string vt2, .string op2, .slice A2 m2 c2'] 33)).drew.cell? ⟨wr.heap.size, 4, none⟩ = some (.string vt2) := cell_blk hbv rfl
        have ff5 : (wr.alloc (.cells #[.int .i64 k2, .string nm2, .int .i64 vk2, .int .i64 vn2, .string vt2, .string op2, .slice A2 m2 c2'] 33)).drew.cell? ⟨wr.heap.size, 5, none⟩ = some (.string op2) := cell_blk hbv rfl
        have ff6 : (wr.alloc (.cells #[.int .i64 k2, .string nm2, .int .i64 vk2, .int .i64 vn2, .string vt2, .string op2, .slice A2 m2 c2'] 33)).drew.cell? ⟨wr.heap.size, 6, none⟩ = some (.slice A2 m2 c2') := cell_blk hbv rfl
        clear hsn hae hcell hbv hms
        go_wp2_with fail
        refine wp_region_held_drew (S := fun w' => w'.cell? ⟨wr.heap.size, 0, none⟩ = some (.int .i64 k2) ∧ w'.cell? ⟨wr.heap.size, 1, none⟩ = some (.string nm2) ∧ w'.cell? ⟨wr.heap.size, 2, none⟩ = some (.int .i64 vk2) ∧ w'.cell? ⟨wr.heap.size, 3, none⟩ = some (.int .i64 vn2) ∧ w'.cell? ⟨wr.heap.size, 4, none⟩ = some (.string vt2) ∧ w'.cell? ⟨wr.heap.size, 5, none⟩ = some (.string op2) ∧ w'.cell? ⟨wr.heap.size, 6, none⟩ = some (.slice A2 m2 c2')) (by kernel_rfl) ⟨ff0, ff1, ff2, ff3, ff4, ff5, ff6⟩ (fun hHeld => ?_)
        refine take_d (i := 0) (d := 15) (v := ?_) rfl rfl (by kernel_rfl) (by kernel_rfl) (by kernel_rfl) (fun _ _ _ h => h) (Or.inl ⟨by rfl, ?_⟩) (by assumption) ?_
        rotate_left
        · intro w hSw; (try dsimp only at hSw); go_simp; (try with_reducible rfl)
        try simp only [Act.put, List.setIfInBounds_toArray, List.set_cons_zero, List.set_cons_succ]
        refine take_d (i := 2) (d := 17) (v := ?_) rfl rfl (by kernel_rfl) (by kernel_rfl) (by kernel_rfl) (fun _ _ _ h => h) (Or.inl ⟨by rfl, ?_⟩) (by assumption) ?_
        rotate_left
        · intro w hSw; (try dsimp only at hSw); go_simp; (try with_reducible rfl)
        try simp only [Act.put, List.setIfInBounds_toArray, List.set_cons_zero, List.set_cons_succ]
        refine wpAnyH_ready (rs := [1, 3]) (by kernel_rfl) (by simp) ?_
        refine AllReadyH.cons rfl (fun K hK => ?_) (AllReadyH.cons rfl (fun K hK => ?_) AllReadyH.nil)
        · go_simp
          (try go_wp2_with fail)
          refine hK.out _ _ ⟨ff0, ff1, ff2, ff3, ff4, ff5, ff6⟩ (fun _hH => ?_)
          clear hK K
          try simp only [Act.put, List.setIfInBounds_toArray, List.set_cons_zero, List.set_cons_succ]
          refine wpAnyH_ready (rs := [3]) (by kernel_rfl) (by simp) ?_
          refine AllReadyH.cons rfl (fun K hK => ?_) AllReadyH.nil
          go_simp
          go_at_call 44
          refine (Hc.out).mono ?_
          rintro e w1 ⟨x1, rfl, hx1, t1⟩
          obtain ⟨⟨k3, nm3, ⟨vk3, vn3, vt3⟩, op3⟩, A3, m3, c3⟩ := x1
          have mm0 := t1.cell ff0 (by simp)
          have mm1 := t1.cell ff1 (by simp)
          have mm2 := t1.cell ff2 (by simp)
          have mm3 := t1.cell ff3 (by simp)
          have mm4 := t1.cell ff4 (by simp)
          have mm5 := t1.cell ff5 (by simp)
          have mm6 := t1.cell ff6 (by simp)
          have z1 := t1.cell z0 (by simp)
          have tn := (Touch.refl [] w1).alloc (.cells #[.int .i64 k3, .string nm3, .int .i64 vk3, .int .i64 vn3, .string vt3, .string op3, .slice A3 m3 c3] 33)
          have z2 := tn.cell z1 (by simp)
          have q0 := tn.cell mm0 (by simp)
          have q1 := tn.cell mm1 (by simp)
          have q2 := tn.cell mm2 (by simp)
          have q3 := tn.cell mm3 (by simp)
          have q4 := tn.cell mm4 (by simp)
          have q5 := tn.cell mm5 (by simp)
          have q6 := tn.cell mm6 (by simp)
          have hown1 := (hown.touch0 Ta.out).touch0 t1
          have s1 := t1.size
          (try go_wp2_with fail)
          refine hK.out _ _ ⟨mm0, mm1, mm2, mm3, mm4, mm5, mm6⟩ (fun _hH => ?_)
          clear hK K
          try simp only [Act.put, List.setIfInBounds_toArray, List.set_cons_zero, List.set_cons_succ]
          refine wpAnyH_ready (rs := [4]) (by kernel_rfl) (by simp) ?_
          refine AllReadyH.cons rfl (fun K hK => ?_) AllReadyH.nil
          go_simp
          (try go_wp2_with fail)
          refine hK.out _ _ ⟨q0, q1, q2, q3, q4, q5, q6⟩ (fun _hH => ?_)
          clear hK K
          try simp only [Act.put, List.setIfInBounds_toArray, List.set_cons_zero, List.set_cons_succ]
          refine wpAnyH_ready (rs := [5]) (by kernel_rfl) (by simp) ?_
          refine AllReadyH.cons rfl (fun K hK => ?_) AllReadyH.nil
          refine step_appX xcE_length xcE_one rfl (.tmp 16) (.tmp 19) 31 (by rfl) 33 _ 96 info_expr Try.underlying31 rfl (by omega) (w.heap.size + 2) n B j cB (args.take j) Htl.out (by rfl) hown1 ⟨⟨k3, nm3, ⟨vk3, vn3, vt3⟩, op3⟩, A3, m3, c3⟩ a (hx1.mono fun b hb => ⟨⟨by have := hb.1; omega, hb.2⟩, fun hm => by have := hBlt b hm; have := hb.1; omega⟩) (by omega) 1 (by rfl) (by omega) rfl ?_
          intro B5 cB5 w5 hown5 ht5 hf5
          have hVB : wr.heap.size ∉ fpo B := fun hm => by have := hBlt _ hm; omega
          have p0 := ht5.cell mm0 hVB
          have p1 := ht5.cell mm1 hVB
          have p2 := ht5.cell mm2 hVB
          have p3 := ht5.cell mm3 hVB
          have p4 := ht5.cell mm4 hVB
          have p5 := ht5.cell mm5 hVB
          have p6 := ht5.cell mm6 hVB
          have hX5 := ht5.blk ((Ta.out.trans0 t1).blk hX (by simp)) hXB
          have hR5 := ht5.blk ((Ta.out.trans0 t1).blk hR (by simp)) hRB
          have T5 := ((ht.trans0 Ta.out).trans0 t1).trans ht5 (fun b hb => .inr (by have := hBlo b hb; omega))
          have z5 := cell_blk hX5 (i := 6) rfl
          have f5 : w5.frozen? ⟨w.heap.size, 6, none⟩ = false := by simp [World.frozen?, hX5]
          have t7 := (Touch.refl [w.heap.size] w5).setCell (p := ⟨w.heap.size, 6, none⟩) (.inl (by simp)) (.slice B5 (j + 1) cB5)
          have r0 := t7.cell p0 (by simp; omega)
          have r1 := t7.cell p1 (by simp; omega)
          have r2 := t7.cell p2 (by simp; omega)
          have r3 := t7.cell p3 (by simp; omega)
          have r4 := t7.cell p4 (by simp; omega)
          have r5 := t7.cell p5 (by simp; omega)
          have r6 := t7.cell p6 (by simp; omega)
          refine hK.out _ _ ⟨p0, p1, p2, p3, p4, p5, p6⟩ (fun _hH => ?_)
          clear hK K
          try simp only [Act.put, List.setIfInBounds_toArray]
          refine take_d (i := 6) (d := 21) (v := ?_) rfl rfl (by kernel_rfl) (by kernel_rfl) (by kernel_rfl) (fun _ _ _ h => h) (Or.inl ⟨by rfl, ?_⟩) (by assumption) ?_
          rotate_left
          · intro w hSw; (try dsimp only at hSw); go_simp; (try with_reducible rfl)
          try simp only [Act.put]
          refine wpAnyH_ready (rs := [7]) (by kernel_rfl) (by simp) ?_
          refine AllReadyH.cons rfl (fun K hK => ?_) AllReadyH.nil
          go_simp
          (try go_wp2_with fail)
          refine hK.out _ _ ⟨r0, r1, r2, r3, r4, r5, r6⟩ (fun _hH => ?_)
          clear hK K
          try simp only [Act.put, List.setIfInBounds_toArray, List.set_cons_zero, List.set_cons_succ]
          refine wpAnyH_done (by kernel_rfl) ?_ _
          go_wp2
          go_roundw
          case rel => exact ⟨j + 1, B5, cB5, by omega, by go_num, set_blk hX5 6 _, (t7.blk hR5 (by simp)), by rw [Hsn.out]; exact hown5.touch t7 (fun b hb => by simp at hb; omega), T5.setCell (p := ⟨w.heap.size, 6, none⟩) (.inr (by simp only; omega)) _⟩
          case measure => simp [intOf]; omega
        · go_simp
          go_at_call 44
          refine (Hc.out).mono ?_
          rintro e w1 ⟨x1, rfl, hx1, t1⟩
          obtain ⟨⟨k3, nm3, ⟨vk3, vn3, vt3⟩, op3⟩, A3, m3, c3⟩ := x1
          have mm0 := t1.cell ff0 (by simp)
          have mm1 := t1.cell ff1 (by simp)
          have mm2 := t1.cell ff2 (by simp)
          have mm3 := t1.cell ff3 (by simp)
          have mm4 := t1.cell ff4 (by simp)
          have mm5 := t1.cell ff5 (by simp)
          have mm6 := t1.cell ff6 (by simp)
          have z1 := t1.cell z0 (by simp)
          have tn := (Touch.refl [] w1).alloc (.cells #[.int .i64 k3, .string nm3, .int .i64 vk3, .int .i64 vn3, .string vt3, .string op3, .slice A3 m3 c3] 33)
          have z2 := tn.cell z1 (by simp)
          have q0 := tn.cell mm0 (by simp)
          have q1 := tn.cell mm1 (by simp)
          have q2 := tn.cell mm2 (by simp)
          have q3 := tn.cell mm3 (by simp)
          have q4 := tn.cell mm4 (by simp)
          have q5 := tn.cell mm5 (by simp)
          have q6 := tn.cell mm6 (by simp)
          have hown1 := (hown.touch0 Ta.out).touch0 t1
          have s1 := t1.size
          (try go_wp2_with fail)
          refine hK.out _ _ ⟨mm0, mm1, mm2, mm3, mm4, mm5, mm6⟩ (fun _hH => ?_)
          clear hK K
          try simp only [Act.put, List.setIfInBounds_toArray, List.set_cons_zero, List.set_cons_succ]
          refine wpAnyH_ready (rs := [1, 4]) (by kernel_rfl) (by simp) ?_
          refine AllReadyH.cons rfl (fun K hK => ?_) (AllReadyH.cons rfl (fun K hK => ?_) AllReadyH.nil)
          · go_simp
            (try go_wp2_with fail)
            refine hK.out _ _ ⟨mm0, mm1, mm2, mm3, mm4, mm5, mm6⟩ (fun _hH => ?_)
            clear hK K
            try simp only [Act.put, List.setIfInBounds_toArray, List.set_cons_zero, List.set_cons_succ]
            refine wpAnyH_ready (rs := [4]) (by kernel_rfl) (by simp) ?_
            refine AllReadyH.cons rfl (fun K hK => ?_) AllReadyH.nil
            go_simp
            (try go_wp2_with fail)
            refine hK.out _ _ ⟨q0, q1, q2, q3, q4, q5, q6⟩ (fun _hH => ?_)
            clear hK K
            try simp only [Act.put, List.setIfInBounds_toArray, List.set_cons_zero, List.set_cons_succ]
            refine wpAnyH_ready (rs := [5]) (by kernel_rfl) (by simp) ?_
            refine AllReadyH.cons rfl (fun K hK => ?_) AllReadyH.nil
            refine step_appX xcE_length xcE_one rfl (.tmp 16) (.tmp 19) 31 (by rfl) 33 _ 96 info_expr Try.underlying31 rfl (by omega) (w.heap.size + 2) n B j cB (args.take j) Htl.out (by rfl) hown1 ⟨⟨k3, nm3, ⟨vk3, vn3, vt3⟩, op3⟩, A3, m3, c3⟩ a (hx1.mono fun b hb => ⟨⟨by have := hb.1; omega, hb.2⟩, fun hm => by have := hBlt b hm; have := hb.1; omega⟩) (by omega) 1 (by rfl) (by omega) rfl ?_
            intro B5 cB5 w5 hown5 ht5 hf5
            have hVB : wr.heap.size ∉ fpo B := fun hm => by have := hBlt _ hm; omega
            have p0 := ht5.cell mm0 hVB
            have p1 := ht5.cell mm1 hVB
            have p2 := ht5.cell mm2 hVB
            have p3 := ht5.cell mm3 hVB
            have p4 := ht5.cell mm4 hVB
            have p5 := ht5.cell mm5 hVB
            have p6 := ht5.cell mm6 hVB
            have hX5 := ht5.blk ((Ta.out.trans0 t1).blk hX (by simp)) hXB
            have hR5 := ht5.blk ((Ta.out.trans0 t1).blk hR (by simp)) hRB
            have T5 := ((ht.trans0 Ta.out).trans0 t1).trans ht5 (fun b hb => .inr (by have := hBlo b hb; omega))
            have z5 := cell_blk hX5 (i := 6) rfl
            have f5 : w5.frozen? ⟨w.heap.size, 6, none⟩ = false := by simp [World.frozen?, hX5]
            have t7 := (Touch.refl [w.heap.size] w5).setCell (p := ⟨w.heap.size, 6, none⟩) (.inl (by simp)) (.slice B5 (j + 1) cB5)
            have r0 := t7.cell p0 (by simp; omega)
            have r1 := t7.cell p1 (by simp; omega)
            have r2 := t7.cell p2 (by simp; omega)
            have r3 := t7.cell p3 (by simp; omega)
            have r4 := t7.cell p4 (by simp; omega)
            have r5 := t7.cell p5 (by simp; omega)
            have r6 := t7.cell p6 (by simp; omega)
            refine hK.out _ _ ⟨p0, p1, p2, p3, p4, p5, p6⟩ (fun _hH => ?_)
            clear hK K
            try simp only [Act.put, List.setIfInBounds_toArray]
            refine take_d (i := 6) (d := 21) (v := ?_) rfl rfl (by kernel_rfl) (by kernel_rfl) (by kernel_rfl) (fun _ _ _ h => h) (Or.inl ⟨by rfl, ?_⟩) (by assumption) ?_
            rotate_left
            · intro w hSw; (try dsimp only at hSw); go_simp; (try with_reducible rfl)
            try simp only [Act.put]
            refine wpAnyH_ready (rs := [7]) (by kernel_rfl) (by simp) ?_
            refine AllReadyH.cons rfl (fun K hK => ?_) AllReadyH.nil
            go_simp
            (try go_wp2_with fail)
            refine hK.out _ _ ⟨r0, r1, r2, r3, r4, r5, r6⟩ (fun _hH => ?_)
            clear hK K
            try simp only [Act.put, List.setIfInBounds_toArray, List.set_cons_zero, List.set_cons_succ]
            refine wpAnyH_done (by kernel_rfl) ?_ _
            go_wp2
            go_roundw
            case rel => exact ⟨j + 1, B5, cB5, by omega, by go_num, set_blk hX5 6 _, (t7.blk hR5 (by simp)), by rw [Hsn.out]; exact hown5.touch t7 (fun b hb => by simp at hb; omega), T5.setCell (p := ⟨w.heap.size, 6, none⟩) (.inr (by simp only; omega)) _⟩
            case measure => simp [intOf]; omega
          · go_simp
            (try go_wp2_with fail)
            refine hK.out _ _ ⟨q0, q1, q2, q3, q4, q5, q6⟩ (fun _hH => ?_)
            clear hK K
            try simp only [Act.put, List.setIfInBounds_toArray, List.set_cons_zero, List.set_cons_succ]
            refine wpAnyH_ready (rs := [1]) (by kernel_rfl) (by simp) ?_
            refine AllReadyH.cons rfl (fun K hK => ?_) AllReadyH.nil
            go_simp
            (try go_wp2_with fail)
            refine hK.out _ _ ⟨q0, q1, q2, q3, q4, q5, q6⟩ (fun _hH => ?_)
            clear hK K
            try simp only [Act.put, List.setIfInBounds_toArray, List.set_cons_zero, List.set_cons_succ]
            refine wpAnyH_ready (rs := [5]) (by kernel_rfl) (by simp) ?_
            refine AllReadyH.cons rfl (fun K hK => ?_) AllReadyH.nil
            refine step_appX xcE_length xcE_one rfl (.tmp 16) (.tmp 19) 31 (by rfl) 33 _ 96 info_expr Try.underlying31 rfl (by omega) (w.heap.size + 2) n B j cB (args.take j) Htl.out (by rfl) hown1 ⟨⟨k3, nm3, ⟨vk3, vn3, vt3⟩, op3⟩, A3, m3, c3⟩ a (hx1.mono fun b hb => ⟨⟨by have := hb.1; omega, hb.2⟩, fun hm => by have := hBlt b hm; have := hb.1; omega⟩) (by omega) 1 (by rfl) (by omega) rfl ?_
            intro B5 cB5 w5 hown5 ht5 hf5
            have hVB : wr.heap.size ∉ fpo B := fun hm => by have := hBlt _ hm; omega
            have p0 := ht5.cell mm0 hVB
            have p1 := ht5.cell mm1 hVB
            have p2 := ht5.cell mm2 hVB
            have p3 := ht5.cell mm3 hVB
            have p4 := ht5.cell mm4 hVB
            have p5 := ht5.cell mm5 hVB
            have p6 := ht5.cell mm6 hVB
            have hX5 := ht5.blk ((Ta.out.trans0 t1).blk hX (by simp)) hXB
            have hR5 := ht5.blk ((Ta.out.trans0 t1).blk hR (by simp)) hRB
            have T5 := ((ht.trans0 Ta.out).trans0 t1).trans ht5 (fun b hb => .inr (by have := hBlo b hb; omega))
            have z5 := cell_blk hX5 (i := 6) rfl
            have f5 : w5.frozen? ⟨w.heap.size, 6, none⟩ = false := by simp [World.frozen?, hX5]
            have t7 := (Touch.refl [w.heap.size] w5).setCell (p := ⟨w.heap.size, 6, none⟩) (.inl (by simp)) (.slice B5 (j + 1) cB5)
            have r0 := t7.cell p0 (by simp; omega)
            have r1 := t7.cell p1 (by simp; omega)
            have r2 := t7.cell p2 (by simp; omega)
            have r3 := t7.cell p3 (by simp; omega)
            have r4 := t7.cell p4 (by simp; omega)
            have r5 := t7.cell p5 (by simp; omega)
            have r6 := t7.cell p6 (by simp; omega)
            refine hK.out _ _ ⟨p0, p1, p2, p3, p4, p5, p6⟩ (fun _hH => ?_)
            clear hK K
            try simp only [Act.put, List.setIfInBounds_toArray]
            refine take_d (i := 6) (d := 21) (v := ?_) rfl rfl (by kernel_rfl) (by kernel_rfl) (by kernel_rfl) (fun _ _ _ h => h) (Or.inl ⟨by rfl, ?_⟩) (by assumption) ?_
            rotate_left
            · intro w hSw; (try dsimp only at hSw); go_simp; (try with_reducible rfl)
            try simp only [Act.put]
            refine wpAnyH_ready (rs := [7]) (by kernel_rfl) (by simp) ?_
            refine AllReadyH.cons rfl (fun K hK => ?_) AllReadyH.nil
            go_simp
            (try go_wp2_with fail)
            refine hK.out _ _ ⟨r0, r1, r2, r3, r4, r5, r6⟩ (fun _hH => ?_)
            clear hK K
            try simp only [Act.put, List.setIfInBounds_toArray, List.set_cons_zero, List.set_cons_succ]
            refine wpAnyH_done (by kernel_rfl) ?_ _
            go_wp2
            go_roundw
            case rel => exact ⟨j + 1, B5, cB5, by omega, by go_num, set_blk hX5 6 _, (t7.blk hR5 (by simp)), by rw [Hsn.out]; exact hown5.touch t7 (fun b hb => by simp at hb; omega), T5.setCell (p := ⟨w.heap.size, 6, none⟩) (.inr (by simp only; omega)) _⟩
            case measure => simp [intOf]; omega
      · obtain rfl : j = args.length := by omega
        rw [List.take_length] at hown
        have H7 := Lib.hid (fun (v0 v1 v2 v3 v4 v5 v6 : Value) => out7 hR v0 v1 v2 v3 v4 v5 v6)
        obtain ⟨d0, d1, d2, d3, d4, d5, d6, _⟩ := blk7 hX
        obtain ⟨e0, e1, e2, e3, e4, e5, e6, g0, g1, g2, g3, g4, g5, g6⟩ := blk7 hR
        go_wp2
        obtain ⟨q1, q2⟩ := H7.out (.int .i64 k) (.string nm) (.int .i64 vk) (.int .i64 vn) (.string vt) (.string op) (.slice B args.length cB)
        refine bodyPost_ret (results_cell_row rfl _ _ (w.heap.size + 1) _ _ _ _ rfl q1 Try.underlying33 rfl rfl) rfl ⟨⟨⟨k, nm, ⟨vk, vn, vt⟩, op⟩, B, args.length, cB⟩, rfl, ?_, ht.trans q2 (fun b hb => .inr (by simp at hb; omega))⟩
        have hT := (hown.touch q2 (fun b hb => by simp at hb; omega)).tree ⟨k, nm, ⟨vk, vn, vt⟩, op⟩ args.length rfl
        rw [H1.out] at hT ⊢
        exact hT.mono fun b hb => ⟨by have := hb.1; omega, hb.2⟩
end Go.Proofs.Ytlkckkagoommaaa

/- expr.Column, Const, Unary, Binary: expressions made of expressions, in new memory. For all. -/
namespace Go.Proofs.Ytlkckkagoommaaa
open Go.RowKit
attribute [local go_sem ↓] Go.wp_at_zero Go.wp_at_succ

theorem leafX {enc : XC → List Value} {p : Nat → Prop} (n : Nat) (w : World) (d : ND) : ExP enc p (n + 1) w ⟨d, none, 0, 0⟩ (d, []) := ⟨rfl, rfl, by simp [fpo], [], rfl, RdK.nil _ _ _, fun i h => absurd h (by simp)⟩

set_option maxRecDepth 20000 in
theorem columnX_any (n : Nat) (s : ByteArray) (w : World) : Calls Try.prog 20 #[.string s] w fun r w' => ∃ x', r = .returned x'.val ∧ ExP xcE (Fr w.heap.size w') (n + 1) w' x' (⟨1, s, ⟨0, 0, ⟨#[]⟩⟩, ⟨#[]⟩⟩, []) ∧ Touch [] w w' := by
  go_enter Try.func20, Try.ntmps20
  go_wp2_with fail
  exact bodyPost_ret (results_cell_row rfl _ _ w.heap.size _ _ _ _ rfl (heap_alloc_new w _) Try.underlying33 rfl rfl) rfl ⟨⟨⟨1, s, ⟨0, 0, ⟨#[]⟩⟩, ⟨#[]⟩⟩, none, 0, 0⟩, rfl, leafX _ _ _, (Touch.refl _ _).alloc _⟩
set_option maxRecDepth 20000 in
theorem constX_any (n : Nat) (v : VD) (w : World) : Calls Try.prog 18 #[v.val] w fun r w' => ∃ x', r = .returned x'.val ∧ ExP xcE (Fr w.heap.size w') (n + 1) w' x' (⟨2, ⟨#[]⟩, v, ⟨#[]⟩⟩, []) ∧ Touch [] w w' := by
  obtain ⟨k, m, s⟩ := v
  dsimp only [VD.val]
  have t0 := (Touch.refl [] w).alloc (.cells #[.int .i64 k, .int .i64 m, .string s] 30)
  go_enter Try.func18, Try.ntmps18
  go_wp2_with fail
  have hb := heap_alloc_new (w.alloc (.cells #[.int .i64 k, .int .i64 m, .string s] 30)) (.cells #[.int .i64 2, .string ⟨#[]⟩, .int .i64 k, .int .i64 m, .string s, .string ⟨#[]⟩, .slice none 0 0] 33)
  rw [World.size_alloc] at hb
  exact bodyPost_ret (results_cell_row rfl _ _ (w.heap.size + 1) _ _ _ _ rfl hb Try.underlying33 rfl rfl) rfl ⟨⟨⟨2, ⟨#[]⟩, ⟨k, m, s⟩, ⟨#[]⟩⟩, none, 0, 0⟩, rfl, leafX _ _ _, t0.alloc _⟩

set_option maxRecDepth 20000 in
set_option maxHeartbeats 1600000 in
theorem unaryX_any (n : Nat) (op : ByteArray) (a : TX n) (x : XC) (w : World) (ha : ExP xcE anyB n w x a) (hs : sizeX n a ≤ 1000000) : Calls Try.prog 30 #[.string op, x.val] w fun r w' => ∃ x', r = .returned x'.val ∧ ExP xcE (Fr w.heap.size w') (n + 1) w' x' (⟨3, ⟨#[]⟩, ⟨0, 0, ⟨#[]⟩⟩, op⟩, [a]) ∧ Touch [] w w' := by
  have Hc := Lib.hid fun w' (t : Touch [] w w') => copied_any n a x w' (ha.touch0 t) hs
  obtain ⟨⟨k1, nm1, ⟨vk1, vn1, vt1⟩, op1⟩, A1, m1, c1⟩ := x
  simp only [XC.val] at Hc ⊢
  have t0 := ((Touch.refl [] w).alloc (.cells #[.int .i64 k1, .string nm1, .int .i64 vk1, .int .i64 vn1, .string vt1, .string op1, .slice A1 m1 c1] 33)).alloc (.cells #[.int .i64 0, .string ⟨#[]⟩, .int .i64 0, .int .i64 0, .string ⟨#[]⟩, .string ⟨#[]⟩, .slice none 0 0] 33)
  have hbr := heap_alloc_new (w.alloc (.cells #[.int .i64 k1, .string nm1, .int .i64 vk1, .int .i64 vn1, .string vt1, .string op1, .slice A1 m1 c1] 33)) (.cells #[.int .i64 0, .string ⟨#[]⟩, .int .i64 0, .int .i64 0, .string ⟨#[]⟩, .string ⟨#[]⟩, .slice none 0 0] 33)
  rw [World.size_alloc] at hbr
  have Hbr := Lib.hid hbr
  clear hbr
  go_enter Try.func30, Try.ntmps30
  go_wp2_with fail
  refine (Hc.out _ t0).mono ?_
  rintro e w1 ⟨x1, rfl, hx1, t1⟩
  obtain ⟨⟨k2, nm2, ⟨vk2, vn2, vt2⟩, op2⟩, A2, m2, c2⟩ := x1
  dsimp only
  have s1 := t1.size
  simp only [World.size_alloc] at s1
  have tb := (Touch.refl [] w1).alloc (.cells #[.int .i64 k2, .string nm2, .int .i64 vk2, .int .i64 vn2, .string vt2, .string op2, .slice A2 m2 c2] 33)
  have hb2 := tb.blk (t1.blk Hbr.out (by simp)) (by simp)
  obtain ⟨e0, e1, e2, e3, e4, e5, e6, g0, g1, g2, g3, g4, g5, g6⟩ := blk7 hb2
  go_wp2_with fail
  obtain ⟨q1, q2⟩ := out7 hb2 (.int .i64 3) (.string ⟨#[]⟩) (.int .i64 0) (.int .i64 0) (.string ⟨#[]⟩) (.string op) (.slice (some ⟨w1.heap.size, 0, none⟩) 1 1)
  refine bodyPost_ret (results_cell_row rfl _ _ (w.heap.size + 1) _ _ _ _ rfl q1 Try.underlying33 rfl rfl) rfl ⟨⟨⟨3, ⟨#[]⟩, ⟨0, 0, ⟨#[]⟩⟩, op⟩, some ⟨w1.heap.size, 0, none⟩, 1, 1⟩, rfl, ?_, ((t0.trans0 t1).trans0 tb).trans q2 (fun b hb => .inr (by simp at hb; omega))⟩
  have sq := q2.size
  simp only [World.size_alloc] at sq
  refine ⟨rfl, rfl, fun b hb => ?_, [⟨⟨k2, nm2, ⟨vk2, vn2, vt2⟩, op2⟩, A2, m2, c2⟩], rfl, RdK.touch (RdK.row w1 33 [(⟨⟨k2, nm2, ⟨vk2, vn2, vt2⟩, op2⟩, A2, m2, c2⟩ : XC)] _ rfl) q2 (by simp [fpo]; omega), fun i a1 b1 => ?_⟩
  · simp [fpo] at hb
    subst hb
    exact ⟨by omega, by omega⟩
  · obtain rfl : i = 0 := by simp at a1; omega
    exact ((hx1.touch0 tb).touch q2 (fun b hb hp => by simp at hb; have := hp.1; simp at this; omega)).mono fun b hb => ⟨by have := hb.1; simp at this; omega, by have := hb.2; omega⟩

set_option maxRecDepth 100000 in
set_option maxHeartbeats 6400000 in
theorem binaryX_any (n : Nat) (op : ByteArray) (a b : TX n) (x y : XC) (w : World) (ha : ExP xcE anyB n w x a) (hb : ExP xcE anyB n w y b) (hs : sizeX n a ≤ 1000000) (hs2 : sizeX n b ≤ 1000000) : Calls Try.prog 21 #[.string op, x.val, y.val] w fun r w' => ∃ x', r = .returned x'.val ∧ ExP xcE (Fr w.heap.size w') (n + 1) w' x' (⟨4, ⟨#[]⟩, ⟨0, 0, ⟨#[]⟩⟩, op⟩, [a, b]) ∧ Touch [] w w' := by
  have H1 := Lib.hid fun w' (t : Touch [] w w') => copied_any n a x w' (ha.touch0 t) hs
  have H2 := Lib.hid fun w' (t : Touch [] w w') => copied_any n b y w' (hb.touch0 t) hs2
  obtain ⟨⟨k1, nm1, ⟨vk1, vn1, vt1⟩, op1⟩, A1, m1, c1⟩ := x
  obtain ⟨⟨k2, nm2, ⟨vk2, vn2, vt2⟩, op2⟩, A2, m2, c2⟩ := y
  simp only [XC.val] at H1 H2 ⊢
  have t0 := (((Touch.refl [] w).alloc (.cells #[.int .i64 k1, .string nm1, .int .i64 vk1, .int .i64 vn1, .string vt1, .string op1, .slice A1 m1 c1] 33)).alloc (.cells #[.int .i64 k2, .string nm2, .int .i64 vk2, .int .i64 vn2, .string vt2, .string op2, .slice A2 m2 c2] 33)).alloc (.cells #[.int .i64 0, .string ⟨#[]⟩, .int .i64 0, .int .i64 0, .string ⟨#[]⟩, .string ⟨#[]⟩, .slice none 0 0] 33)
  have hbr := heap_alloc_new ((w.alloc (.cells #[.int .i64 k1, .string nm1, .int .i64 vk1, .int .i64 vn1, .string vt1, .string op1, .slice A1 m1 c1] 33)).alloc (.cells #[.int .i64 k2, .string nm2, .int .i64 vk2, .int .i64 vn2, .string vt2, .string op2, .slice A2 m2 c2] 33)) (.cells #[.int .i64 0, .string ⟨#[]⟩, .int .i64 0, .int .i64 0, .string ⟨#[]⟩, .string ⟨#[]⟩, .slice none 0 0] 33)
  have hb1 := (((Touch.refl [] (w.alloc (.cells #[.int .i64 k1, .string nm1, .int .i64 vk1, .int .i64 vn1, .string vt1, .string op1, .slice A1 m1 c1] 33))).alloc (.cells #[.int .i64 k2, .string nm2, .int .i64 vk2, .int .i64 vn2, .string vt2, .string op2, .slice A2 m2 c2] 33)).alloc (.cells #[.int .i64 0, .string ⟨#[]⟩, .int .i64 0, .int .i64 0, .string ⟨#[]⟩, .string ⟨#[]⟩, .slice none 0 0] 33)).blk (heap_alloc_new w (.cells #[.int .i64 k1, .string nm1, .int .i64 vk1, .int .i64 vn1, .string vt1, .string op1, .slice A1 m1 c1] 33)) (by simp)
  have hb2 := ((Touch.refl [] ((w.alloc (.cells #[.int .i64 k1, .string nm1, .int .i64 vk1, .int .i64 vn1, .string vt1, .string op1, .slice A1 m1 c1] 33)).alloc (.cells #[.int .i64 k2, .string nm2, .int .i64 vk2, .int .i64 vn2, .string vt2, .string op2, .slice A2 m2 c2] 33))).alloc (.cells #[.int .i64 0, .string ⟨#[]⟩, .int .i64 0, .int .i64 0, .string ⟨#[]⟩, .string ⟨#[]⟩, .slice none 0 0] 33)).blk (heap_alloc_new (w.alloc (.cells #[.int .i64 k1, .string nm1, .int .i64 vk1, .int .i64 vn1, .string vt1, .string op1, .slice A1 m1 c1] 33)) (.cells #[.int .i64 k2, .string nm2, .int .i64 vk2, .int .i64 vn2, .string vt2, .string op2, .slice A2 m2 c2] 33)) (by simp)
  simp only [World.size_alloc] at hbr hb1 hb2
  have t0d := t0.drew
  have hb1d := ((Touch.refl [] (((w.alloc (.cells #[.int .i64 k1, .string nm1, .int .i64 vk1, .int .i64 vn1, .string vt1, .string op1, .slice A1 m1 c1] 33)).alloc (.cells #[.int .i64 k2, .string nm2, .int .i64 vk2, .int .i64 vn2, .string vt2, .string op2, .slice A2 m2 c2] 33)).alloc (.cells #[.int .i64 0, .string ⟨#[]⟩, .int .i64 0, .int .i64 0, .string ⟨#[]⟩, .string ⟨#[]⟩, .slice none 0 0] 33))).drew).blk hb1 (by simp)
  have hb2d := ((Touch.refl [] (((w.alloc (.cells #[.int .i64 k1, .string nm1, .int .i64 vk1, .int .i64 vn1, .string vt1, .string op1, .slice A1 m1 c1] 33)).alloc (.cells #[.int .i64 k2, .string nm2, .int .i64 vk2, .int .i64 vn2, .string vt2, .string op2, .slice A2 m2 c2] 33)).alloc (.cells #[.int .i64 0, .string ⟨#[]⟩, .int .i64 0, .int .i64 0, .string ⟨#[]⟩, .string ⟨#[]⟩, .slice none 0 0] 33))).drew).blk hb2 (by simp)
  have Hbr := Lib.hid (((Touch.refl [] (((w.alloc (.cells #[.int .i64 k1, .string nm1, .int .i64 vk1, .int .i64 vn1, .string vt1, .string op1, .slice A1 m1 c1] 33)).alloc (.cells #[.int .i64 k2, .string nm2, .int .i64 vk2, .int .i64 vn2, .string vt2, .string op2, .slice A2 m2 c2] 33)).alloc (.cells #[.int .i64 0, .string ⟨#[]⟩, .int .i64 0, .int .i64 0, .string ⟨#[]⟩, .string ⟨#[]⟩, .slice none 0 0] 33))).drew).blk hbr (by simp))
  obtain ⟨u0, u1, u2, u3, u4, u5, u6, _⟩ := blk7 hb1d
  obtain ⟨v0, v1, v2, v3, v4, v5, v6, _⟩ := blk7 hb2d
  clear hbr hb1 hb2 hb1d hb2d t0 ha hb
  go_enter Try.func21, Try.ntmps21
  go_wp2_with fail
  refine wp_region_held_drew (S := fun w' => w'.cell? ⟨w.heap.size, 0, none⟩ = some (.int .i64 k1) ∧ w'.cell? ⟨w.heap.size, 1, none⟩ = some (.string nm1) ∧ w'.cell? ⟨w.heap.size, 2, none⟩ = some (.int .i64 vk1) ∧ w'.cell? ⟨w.heap.size, 3, none⟩ = some (.int .i64 vn1) ∧ w'.cell? ⟨w.heap.size, 4, none⟩ = some (.string vt1) ∧ w'.cell? ⟨w.heap.size, 5, none⟩ = some (.string op1) ∧ w'.cell? ⟨w.heap.size, 6, none⟩ = some (.slice A1 m1 c1) ∧ w'.cell? ⟨w.heap.size + 1, 0, none⟩ = some (.int .i64 k2) ∧ w'.cell? ⟨w.heap.size + 1, 1, none⟩ = some (.string nm2) ∧ w'.cell? ⟨w.heap.size + 1, 2, none⟩ = some (.int .i64 vk2) ∧ w'.cell? ⟨w.heap.size + 1, 3, none⟩ = some (.int .i64 vn2) ∧ w'.cell? ⟨w.heap.size + 1, 4, none⟩ = some (.string vt2) ∧ w'.cell? ⟨w.heap.size + 1, 5, none⟩ = some (.string op2) ∧ w'.cell? ⟨w.heap.size + 1, 6, none⟩ = some (.slice A2 m2 c2)) (by kernel_rfl) ⟨u0, u1, u2, u3, u4, u5, u6, v0, v1, v2, v3, v4, v5, v6⟩ (fun hHeld => ?_)
  refine take_d (i := 0) (d := 7) (v := ?_) rfl rfl (by kernel_rfl) (by kernel_rfl) (by kernel_rfl) (fun _ _ _ h => h) (Or.inl ⟨by rfl, ?_⟩) (by assumption) ?_
  rotate_left
  · intro w hSw; (try dsimp only at hSw); go_simp; (try with_reducible rfl)
  try simp only [Act.put, List.setIfInBounds_toArray, List.set_cons_zero, List.set_cons_succ]
  refine take_d (i := 1) (d := 8) (v := ?_) rfl rfl (by kernel_rfl) (by kernel_rfl) (by kernel_rfl) (fun _ _ _ h => h) (Or.inl ⟨by rfl, ?_⟩) (by assumption) ?_
  rotate_left
  · intro w hSw; (try dsimp only at hSw); go_simp; (try with_reducible rfl)
  try simp only [Act.put, List.setIfInBounds_toArray, List.set_cons_zero, List.set_cons_succ]
  refine take_d (i := 3) (d := 10) (v := ?_) rfl rfl (by kernel_rfl) (by kernel_rfl) (by kernel_rfl) (fun _ _ _ h => h) (Or.inl ⟨by rfl, ?_⟩) (by assumption) ?_
  rotate_left
  · intro w hSw; (try dsimp only at hSw); go_simp; (try with_reducible rfl)
  try simp only [Act.put, List.setIfInBounds_toArray, List.set_cons_zero, List.set_cons_succ]
  refine wpAnyH_ready (rs := [2]) (by kernel_rfl) (by simp) ?_
  refine AllReadyH.cons rfl (fun K hK => ?_) AllReadyH.nil
  go_simp
  go_at_call 44
  refine (H1.out _ t0d).mono ?_
  rintro e w1 ⟨x1, rfl, hx1, t1⟩
  obtain ⟨⟨k3, nm3, ⟨vk3, vn3, vt3⟩, op3⟩, A3, m3, c3⟩ := x1
  dsimp only
  have uu0 := t1.cell u0 (by simp)
  have uu1 := t1.cell u1 (by simp)
  have uu2 := t1.cell u2 (by simp)
  have uu3 := t1.cell u3 (by simp)
  have uu4 := t1.cell u4 (by simp)
  have uu5 := t1.cell u5 (by simp)
  have uu6 := t1.cell u6 (by simp)
  have vv0 := t1.cell v0 (by simp)
  have vv1 := t1.cell v1 (by simp)
  have vv2 := t1.cell v2 (by simp)
  have vv3 := t1.cell v3 (by simp)
  have vv4 := t1.cell v4 (by simp)
  have vv5 := t1.cell v5 (by simp)
  have vv6 := t1.cell v6 (by simp)
  (try go_wp2_with fail)
  refine hK.out _ _ ⟨uu0, uu1, uu2, uu3, uu4, uu5, uu6, vv0, vv1, vv2, vv3, vv4, vv5, vv6⟩ (fun _hH => ?_)
  clear hK K
  try simp only [Act.put, List.setIfInBounds_toArray, List.set_cons_zero, List.set_cons_succ]
  refine wpAnyH_ready (rs := [4]) (by kernel_rfl) (by simp) ?_
  refine AllReadyH.cons rfl (fun K hK => ?_) AllReadyH.nil
  go_simp
  go_at_call 44
  refine (H2.out _ (t0d.trans0 t1)).mono ?_
  rintro e w2 ⟨x2, rfl, hx2, t2⟩
  obtain ⟨⟨k4, nm4, ⟨vk4, vn4, vt4⟩, op4⟩, A4, m4, c4⟩ := x2
  dsimp only
  have ux0 := t2.cell uu0 (by simp)
  have ux1 := t2.cell uu1 (by simp)
  have ux2 := t2.cell uu2 (by simp)
  have ux3 := t2.cell uu3 (by simp)
  have ux4 := t2.cell uu4 (by simp)
  have ux5 := t2.cell uu5 (by simp)
  have ux6 := t2.cell uu6 (by simp)
  have vx0 := t2.cell vv0 (by simp)
  have vx1 := t2.cell vv1 (by simp)
  have vx2 := t2.cell vv2 (by simp)
  have vx3 := t2.cell vv3 (by simp)
  have vx4 := t2.cell vv4 (by simp)
  have vx5 := t2.cell vv5 (by simp)
  have vx6 := t2.cell vv6 (by simp)
  have tb := (Touch.refl [] w2).alloc (.cells #[.int .i64 k3, .string nm3, .int .i64 vk3, .int .i64 vn3, .string vt3, .string op3, .slice A3 m3 c3, .int .i64 k4, .string nm4, .int .i64 vk4, .int .i64 vn4, .string vt4, .string op4, .slice A4 m4 c4] 33)
  have uy0 := tb.cell ux0 (by simp)
  have uy1 := tb.cell ux1 (by simp)
  have uy2 := tb.cell ux2 (by simp)
  have uy3 := tb.cell ux3 (by simp)
  have uy4 := tb.cell ux4 (by simp)
  have uy5 := tb.cell ux5 (by simp)
  have uy6 := tb.cell ux6 (by simp)
  have vy0 := tb.cell vx0 (by simp)
  have vy1 := tb.cell vx1 (by simp)
  have vy2 := tb.cell vx2 (by simp)
  have vy3 := tb.cell vx3 (by simp)
  have vy4 := tb.cell vx4 (by simp)
  have vy5 := tb.cell vx5 (by simp)
  have vy6 := tb.cell vx6 (by simp)
  (try go_wp2_with fail)
  refine hK.out _ _ ⟨ux0, ux1, ux2, ux3, ux4, ux5, ux6, vx0, vx1, vx2, vx3, vx4, vx5, vx6⟩ (fun _hH => ?_)
  clear hK K
  try simp only [Act.put, List.setIfInBounds_toArray, List.set_cons_zero, List.set_cons_succ]
  refine wpAnyH_ready (rs := [5]) (by kernel_rfl) (by simp) ?_
  refine AllReadyH.cons rfl (fun K hK => ?_) AllReadyH.nil
  go_simp
  (try go_wp2_with fail)
  refine hK.out _ _ ⟨uy0, uy1, uy2, uy3, uy4, uy5, uy6, vy0, vy1, vy2, vy3, vy4, vy5, vy6⟩ (fun _hH => ?_)
  clear hK K
  try simp only [Act.put, List.setIfInBounds_toArray, List.set_cons_zero, List.set_cons_succ]
  refine take_d (i := 6) (d := 13) (v := ?_) rfl rfl (by kernel_rfl) (by kernel_rfl) (by kernel_rfl) (fun _ _ _ h => h) (Or.inl ⟨by rfl, ?_⟩) (by assumption) ?_
  rotate_left
  · intro w hSw; (try dsimp only at hSw); go_simp; (try with_reducible rfl)
  try simp only [Act.put, List.setIfInBounds_toArray, List.set_cons_zero, List.set_cons_succ]
  have hb2 := tb.blk (t2.blk (t1.blk Hbr.out (by simp)) (by simp)) (by simp)
  obtain ⟨e0, e1, e2, e3, e4, e5, e6, g0, g1, g2, g3, g4, g5, g6⟩ := blk7 hb2
  obtain ⟨q1, q2⟩ := out7 hb2 (.int .i64 4) (.string ⟨#[]⟩) (.int .i64 0) (.int .i64 0) (.string ⟨#[]⟩) (.string op) (.slice (some ⟨w2.heap.size, 0, none⟩) 2 2)
  have uz0 := q2.cell uy0 (by simp only [List.mem_singleton]; omega)
  have uz1 := q2.cell uy1 (by simp only [List.mem_singleton]; omega)
  have uz2 := q2.cell uy2 (by simp only [List.mem_singleton]; omega)
  have uz3 := q2.cell uy3 (by simp only [List.mem_singleton]; omega)
  have uz4 := q2.cell uy4 (by simp only [List.mem_singleton]; omega)
  have uz5 := q2.cell uy5 (by simp only [List.mem_singleton]; omega)
  have uz6 := q2.cell uy6 (by simp only [List.mem_singleton]; omega)
  have vz0 := q2.cell vy0 (by simp only [List.mem_singleton]; omega)
  have vz1 := q2.cell vy1 (by simp only [List.mem_singleton]; omega)
  have vz2 := q2.cell vy2 (by simp only [List.mem_singleton]; omega)
  have vz3 := q2.cell vy3 (by simp only [List.mem_singleton]; omega)
  have vz4 := q2.cell vy4 (by simp only [List.mem_singleton]; omega)
  have vz5 := q2.cell vy5 (by simp only [List.mem_singleton]; omega)
  have vz6 := q2.cell vy6 (by simp only [List.mem_singleton]; omega)
  refine wpAnyH_ready (rs := [7]) (by kernel_rfl) (by simp) ?_
  refine AllReadyH.cons rfl (fun K hK => ?_) AllReadyH.nil
  go_simp
  (try go_wp2_with fail)
  refine hK.out _ _ ⟨uz0, uz1, uz2, uz3, uz4, uz5, uz6, vz0, vz1, vz2, vz3, vz4, vz5, vz6⟩ (fun _hH => ?_)
  clear hK K
  try simp only [Act.put, List.setIfInBounds_toArray, List.set_cons_zero, List.set_cons_succ]
  refine wpAnyH_done (by kernel_rfl) ?_ _
  go_wp2_with fail
  have s1 := t1.size
  have s2 := t2.size
  simp only [World.size_drew, World.size_alloc] at s1
  refine bodyPost_ret (results_cell_row rfl _ _ (w.heap.size + 1 + 1) _ _ _ _ rfl q1 Try.underlying33 rfl rfl) rfl ⟨⟨⟨4, ⟨#[]⟩, ⟨0, 0, ⟨#[]⟩⟩, op⟩, some ⟨w2.heap.size, 0, none⟩, 2, 2⟩, rfl, ?_, (((t0d.trans0 t1).trans0 t2).trans0 tb).trans q2 (fun b hb => .inr (by simp at hb; omega))⟩
  have sq := q2.size
  simp only [World.size_alloc] at sq
  refine ⟨rfl, rfl, fun b hb => ?_, [⟨⟨k3, nm3, ⟨vk3, vn3, vt3⟩, op3⟩, A3, m3, c3⟩, ⟨⟨k4, nm4, ⟨vk4, vn4, vt4⟩, op4⟩, A4, m4, c4⟩], rfl, RdK.touch (RdK.row w2 33 [(⟨⟨k3, nm3, ⟨vk3, vn3, vt3⟩, op3⟩, A3, m3, c3⟩ : XC), ⟨⟨k4, nm4, ⟨vk4, vn4, vt4⟩, op4⟩, A4, m4, c4⟩] _ rfl) q2 (by simp [fpo]; omega), fun i a1 b1 => ?_⟩
  · simp [fpo] at hb
    subst hb
    exact ⟨by omega, by omega⟩
  · have hi : i = 0 ∨ i = 1 := by simp at a1; omega
    rcases hi with rfl | rfl
    · exact (((hx1.touch0 t2).touch0 tb).touch q2 (fun b hb hp => by simp at hb; have := hp.1; simp at this; omega)).mono fun b hb => ⟨by have := hb.1; simp at this; omega, by have := hb.2; omega⟩
    · exact ((hx2.touch0 tb).touch q2 (fun b hb hp => by simp at hb; have := hp.1; omega)).mono fun b hb => ⟨by have := hb.1; omega, by have := hb.2; omega⟩
end Go.Proofs.Ytlkckkagoommaaa

/- bywashlaw04: one, truth. -/
namespace Go.Proofs.Ytlkckkagoommaaa
open Go.RowKit
attribute [local go_sem ↓] Go.wp_at_zero Go.wp_at_succ

set_option maxRecDepth 20000 in
theorem one_any (v : VD) (w : World) : Calls Try.prog 22 #[v.val] w fun e w' => (∃ A, e = .returned (.slice A 1 1) ∧ ValsAt w' A [v]) ∧ Touch [] w w' := by
  obtain ⟨k, n, s⟩ := v
  dsimp only [VD.val]
  have t0 := ((Touch.refl [] w).alloc (.cells #[.int .i64 k, .int .i64 n, .string s] 30)).alloc (.cells #[.int .i64 k, .int .i64 n, .string s] 30)
  go_enter Try.func22, Try.ntmps22
  go_wp2_with fail
  go_ret
  refine ⟨⟨_, rfl, ?_⟩, t0⟩
  have := RdK.row (enc := vdE) (w.alloc (.cells #[.int .i64 k, .int .i64 n, .string s] 30)) 30 [(⟨k, n, s⟩ : VD)] #[.int .i64 k, .int .i64 n, .string s] rfl
  simp only [World.size_alloc] at this
  exact this
set_option maxRecDepth 20000 in
theorem truth_any (b : Bool) (w : World) : Calls Try.prog 24 #[.bool b] w fun e w' => e = .returned (bitV b).val ∧ Touch [] w w' := by
  have h1 := Lib.hid fun w' => of_any 1 w'
  have h0 := Lib.hid fun w' => of_any 0 w'
  simp only [VD.val, ofV, S] at h1 h0
  have t0 := (Touch.refl [] w).alloc (.cells #[.int .i64 0, .int .i64 0, .string ⟨#[]⟩] 30)
  have hb := heap_alloc_new w (.cells #[.int .i64 0, .int .i64 0, .string ⟨#[]⟩] 30)
  have Hb := Lib.hid hb
  clear hb
  cases b
  · go_enter Try.func24, Try.ntmps24
    go_wp2_with fail
    refine (h0.out _).mono ?_
    rintro e w1 ⟨rfl, u1⟩
    obtain ⟨r0, r1, r2, f0, f1, f2⟩ := blk3 (u1.blk Hb.out (by simp))
    go_wp2_with fail
    obtain ⟨q1, q2⟩ := out3 (u1.blk Hb.out (by simp)) (.int .i64 1) (.int .i64 0) (.string ⟨#[]⟩)
    exact bodyPost_ret (results_cell_row rfl _ _ w.heap.size _ _ _ _ rfl q1 Try.underlying30 rfl rfl) rfl ⟨rfl, (t0.trans0 u1).trans q2 (fun b hb => .inr (by simp at hb; omega))⟩
  · go_enter Try.func24, Try.ntmps24
    go_wp2_with fail
    refine (h1.out _).mono ?_
    rintro e w1 ⟨rfl, u1⟩
    obtain ⟨r0, r1, r2, f0, f1, f2⟩ := blk3 (u1.blk Hb.out (by simp))
    go_wp2_with fail
    obtain ⟨q1, q2⟩ := out3 (u1.blk Hb.out (by simp)) (.int .i64 1) (.int .i64 1) (.string ⟨#[]⟩)
    exact bodyPost_ret (results_cell_row rfl _ _ w.heap.size _ _ _ _ rfl q1 Try.underlying30 rfl rfl) rfl ⟨rfl, (t0.trans0 u1).trans q2 (fun b hb => .inr (by simp at hb; omega))⟩

theorem allX0 {q : ND → Prop} {n : Nat} {d : ND} (h : q d) : allX q (n + 1) ((d, []) : TX (n + 1)) := ⟨h, fun a ha => by cases ha⟩
theorem allX2 {q : ND → Prop} {n : Nat} {d : ND} {a b : TX n} (h : q d) (ha : allX q n a) (hb : allX q n b) : allX q (n + 1) ((d, [a, b]) : TX (n + 1)) := ⟨h, fun x hx => by
  rcases List.mem_cons.1 hx with rfl | hx
  · exact ha
  · rw [List.mem_singleton.1 hx]; exact hb⟩
theorem allX3 {q : ND → Prop} {n : Nat} {d : ND} {a b c : TX n} (h : q d) (ha : allX q n a) (hb : allX q n b) (hc : allX q n c) : allX q (n + 1) ((d, [a, b, c]) : TX (n + 1)) := ⟨h, fun x hx => by
  rcases List.mem_cons.1 hx with rfl | hx
  · exact ha
  · rcases List.mem_cons.1 hx with rfl | hx
    · exact hb
    · rw [List.mem_singleton.1 hx]; exact hc⟩
/-- the schema of the fixed answers -/
def csA : List CD := [⟨S [97], 1⟩]
def nd4 (op : ByteArray) : ND := ⟨4, ⟨#[]⟩, ⟨0, 0, ⟨#[]⟩⟩, op⟩
def ndC (v : VD) : ND := ⟨2, ⟨#[]⟩, v, ⟨#[]⟩⟩
def ndA : ND := ⟨1, S [97], ⟨0, 0, ⟨#[]⟩⟩, ⟨#[]⟩⟩
theorem top1 : topX csA [ofV 2] 2 ((nd4 (S [43]), [((ndA, []) : TX 1), ((ndC (ofV 1), []) : TX 1)]) : TX 2) = (ofV 3, 0) := by kernel_rfl
theorem top2 : topX csA [ofV 1] 3 ((⟨5, S [105, 102], ⟨0, 0, ⟨#[]⟩⟩, ⟨#[]⟩⟩, [((nd4 (S [62]), [((ndA, []) : TX 1), ((ndC (ofV 1), []) : TX 1)]) : TX 2), ((nd4 (S [47]), [((ndC (ofV 1), []) : TX 1), ((ndC (ofV 0), []) : TX 1)]) : TX 2), ((ndC (ofV 5), []) : TX 2)]) : TX 3) = (ofV 5, 0) := by kernel_rfl
end Go.Proofs.Ytlkckkagoommaaa

/- expr.Call: a call of expressions, in new memory. For every expression. -/
namespace Go.Proofs.Ytlkckkagoommaaa
open Go.RowKit
attribute [local go_sem ↓] Go.wp_at_zero Go.wp_at_succ

set_option maxRecDepth 100000 in
set_option maxHeartbeats 6400000 in
theorem callX_any (n : Nat) (args : List (TX n)) (nm : ByteArray) (A : Option Addr) (m c : Nat) (hm : args.length = m) (w : World) (h3 : ArgsP xcE anyB n w A args) (hsum : sumX n args ≤ 1000000) :
    Calls Try.prog 31 #[.string nm, .slice A m c] w fun r w' => ∃ x', r = .returned x'.val ∧ ExP xcE (Fr w.heap.size w') (n + 1) w' x' (⟨5, nm, ⟨0, 0, ⟨#[]⟩⟩, ⟨#[]⟩⟩, args) ∧ Touch [] w w' := by
    subst hm
    have hlen := len_le_sum n args
    have Ih := Lib.hid (copied_any n)
    have t0 := (((Touch.refl [] w).alloc (.cells #[.int .i64 0, .string ⟨#[]⟩, .int .i64 0, .int .i64 0, .string ⟨#[]⟩, .string ⟨#[]⟩, .slice none 0 0] 33)).alloc (.cells #[.int .i64 5, .string nm, .int .i64 0, .int .i64 0, .string ⟨#[]⟩, .string ⟨#[]⟩, .slice none 0 0] 33))
    have hbx := (heap_alloc_new (w.alloc (.cells #[.int .i64 0, .string ⟨#[]⟩, .int .i64 0, .int .i64 0, .string ⟨#[]⟩, .string ⟨#[]⟩, .slice none 0 0] 33)) (.cells #[.int .i64 5, .string nm, .int .i64 0, .int .i64 0, .string ⟨#[]⟩, .string ⟨#[]⟩, .slice none 0 0] 33))
    have hbr := (((Touch.refl [] (w.alloc (.cells #[.int .i64 0, .string ⟨#[]⟩, .int .i64 0, .int .i64 0, .string ⟨#[]⟩, .string ⟨#[]⟩, .slice none 0 0] 33))).alloc (.cells #[.int .i64 5, .string nm, .int .i64 0, .int .i64 0, .string ⟨#[]⟩, .string ⟨#[]⟩, .slice none 0 0] 33)).blk (heap_alloc_new w (.cells #[.int .i64 0, .string ⟨#[]⟩, .int .i64 0, .int .i64 0, .string ⟨#[]⟩, .string ⟨#[]⟩, .slice none 0 0] 33)) (by simp))
    simp only [World.size_alloc] at hbx hbr
    go_enter Try.func31, Try.ntmps31
    go_wp2_with fail
    go_loopw [12] (fun i wr => ∃ (j : Nat) (B : Option Addr) (cB : Nat), j ≤ args.length ∧ i = .int .i64 j ∧ wr.heap[w.heap.size + 1]? = some (.cells #[.int .i64 5, .string nm, .int .i64 0, .int .i64 0, .string ⟨#[]⟩, .string ⟨#[]⟩, .slice B j cB] 33 (0, 0)) ∧
        wr.heap[w.heap.size]? = some (.cells #[.int .i64 0, .string ⟨#[]⟩, .int .i64 0, .int .i64 0, .string ⟨#[]⟩, .string ⟨#[]⟩, .slice none 0 0] 33 (0, 0)) ∧ OwnX 33 xcE (w.heap.size + 2) n wr B cB (args.take j) ∧ Touch [] w wr) (fun i _ => args.length - (intOf i).toNat)
    case atStart => exact ⟨0, none, 0, by omega, rfl, hbx, hbr, OwnX.nil _ _ _ _ _, t0⟩
    case round =>
      obtain ⟨j, B, cB, hj, rfl, hX, hR, hown, ht⟩ := hrel
      have hBlt := fun b hb => (hown.lt b hb).2
      have hBlo := fun b hb => (hown.lt b hb).1
      have hXB : w.heap.size + 1 ∉ fpo B := fun hm => by have := hBlo _ hm; omega
      have hRB : w.heap.size ∉ fpo B := fun hm => by have := hBlo _ hm; omega
      have hlR := lt_of_block hR
      have hlX := lt_of_block hX
      by_cases hlt : j < args.length
      · obtain ⟨ad, b, off, y, rfl, hadd, hy, hcell⟩ := (h3.touch0 ht).at_ xcE_length j hlt
        have hsn := List.take_succ_eq_append_getElem hlt
        have hms := size_mem (List.getElem_mem hlt)
        have Htl := Lib.hid (show (args.take j).length = j by rw [List.length_take]; omega)
        obtain ⟨a, hae⟩ : ∃ a, a = args[j] := ⟨_, rfl⟩
        rw [← hae] at hy hsn hms
        have Ta := Lib.hid (((Touch.refl [] wr).alloc (.cells #[.int .i64 y.nd.kind, .string y.nd.name, .int .i64 y.nd.v.kind, .int .i64 y.nd.v.num, .string y.nd.v.text, .string y.nd.op, .slice y.A y.n y.c] 33)).drew)
        have Hc := Lib.hid (Ih.out a y _ (hy.touch0 Ta.out) (by omega))
        have hbv := heap_alloc_new wr (.cells #[.int .i64 y.nd.kind, .string y.nd.name, .int .i64 y.nd.v.kind, .int .i64 y.nd.v.num, .string y.nd.v.text, .string y.nd.op, .slice y.A y.n y.c] 33)
        have c0 := hcell 0 _ rfl; have c1 := hcell 1 _ rfl; have c2 := hcell 2 _ rfl; have c3 := hcell 3 _ rfl; have c4 := hcell 4 _ rfl; have c5 := hcell 5 _ rfl; have c6 := hcell 6 _ rfl
        rw [Nat.add_zero] at c0
        have z0 := Ta.out.cell (cell_blk hX (i := 6) rfl) (by simp)
        have sTa : wr.heap.size ≤ (wr.alloc (.cells #[.int .i64 y.nd.kind, .string y.nd.name, .int .i64 y.nd.v.kind, .int .i64 y.nd.v.num, .string y.nd.v.text, .string y.nd.op, .slice y.A y.n y.c] 33)).drew.heap.size := Ta.out.size
        have Hsn := Lib.hid hsn
        obtain ⟨⟨k2, nm2, ⟨vk2, vn2, vt2⟩, op2⟩, A2, m2, c2'⟩ := y
        simp only [XC.val] at Hc
        simp only at c0 c1 c2 c3 c4 c5 c6 Ta hbv z0 sTa
        have ff0 : (wr.alloc (.cells #[.int .i64 k2, .string nm2, .int .i64 vk2, .int .i64 vn2, .string vt2, .string op2, .slice A2 m2 c2'] 33)).drew.cell? ⟨wr.heap.size, 0, none⟩ = some (.int .i64 k2) := cell_blk hbv rfl
        have ff1 : (wr.alloc (.cells #[.int .i64 k2, .string nm2, .int .i64 vk2, .int .i64 vn2, .string vt2, .string op2, .slice A2 m2 c2'] 33)).drew.cell? ⟨wr.heap.size, 1, none⟩ = some (.string nm2) := cell_blk hbv rfl
        have ff2 : (wr.alloc (.cells #[.int .i64 k2, .string nm2, .int .i64 vk2, .int .i64 vn2, .string vt2, .string op2, .slice A2 m2 c2'] 33)).drew.cell? ⟨wr.heap.size, 2, none⟩ = some (.int .i64 vk2) := cell_blk hbv rfl
        have ff3 : (wr.alloc (.cells #[.int .i64 k2, .string nm2, .int .i64 vk2, .int .i64 vn2, .string vt2, .string op2, .slice A2 m2 c2'] 33)).drew.cell? ⟨wr.heap.size, 3, none⟩ = some (.int .i64 vn2) := cell_blk hbv rfl
        have ff4 : (wr.alloc (.cells #[.int .i64 k2, .string nm2, .int .i64 vk2, .int .i64 vn2, .string vt2, .string op2, .slice A2 m2 c2'] 33)).drew.cell? ⟨wr.heap.size, 4, none⟩ = some (.string vt2) := cell_blk hbv rfl
        have ff5 : (wr.alloc (.cells #[.int .i64 k2, .string nm2, .int .i64 vk2, .int .i64 vn2, .string vt2, .string op2, .slice A2 m2 c2'] 33)).drew.cell? ⟨wr.heap.size, 5, none⟩ = some (.string op2) := cell_blk hbv rfl
        have ff6 : (wr.alloc (.cells #[.int .i64 k2, .string nm2, .int .i64 vk2, .int .i64 vn2, .string vt2, .string op2, .slice A2 m2 c2'] 33)).drew.cell? ⟨wr.heap.size, 6, none⟩ = some (.slice A2 m2 c2') := cell_blk hbv rfl
        clear hsn hae hcell hbv hms
        go_wp2_with fail
        refine wp_region_held_drew (S := fun w' => w'.cell? ⟨wr.heap.size, 0, none⟩ = some (.int .i64 k2) ∧ w'.cell? ⟨wr.heap.size, 1, none⟩ = some (.string nm2) ∧ w'.cell? ⟨wr.heap.size, 2, none⟩ = some (.int .i64 vk2) ∧ w'.cell? ⟨wr.heap.size, 3, none⟩ = some (.int .i64 vn2) ∧ w'.cell? ⟨wr.heap.size, 4, none⟩ = some (.string vt2) ∧ w'.cell? ⟨wr.heap.size, 5, none⟩ = some (.string op2) ∧ w'.cell? ⟨wr.heap.size, 6, none⟩ = some (.slice A2 m2 c2')) (by kernel_rfl) ⟨ff0, ff1, ff2, ff3, ff4, ff5, ff6⟩ (fun hHeld => ?_)
        refine take_d (i := 0) (d := 16) (v := ?_) rfl rfl (by kernel_rfl) (by kernel_rfl) (by kernel_rfl) (fun _ _ _ h => h) (Or.inl ⟨by rfl, ?_⟩) (by assumption) ?_
        rotate_left
        · intro w hSw; (try dsimp only at hSw); go_simp; (try with_reducible rfl)
        try simp only [Act.put, List.setIfInBounds_toArray, List.set_cons_zero, List.set_cons_succ]
        refine take_d (i := 2) (d := 18) (v := ?_) rfl rfl (by kernel_rfl) (by kernel_rfl) (by kernel_rfl) (fun _ _ _ h => h) (Or.inl ⟨by rfl, ?_⟩) (by assumption) ?_
        rotate_left
        · intro w hSw; (try dsimp only at hSw); go_simp; (try with_reducible rfl)
        try simp only [Act.put, List.setIfInBounds_toArray, List.set_cons_zero, List.set_cons_succ]
        refine wpAnyH_ready (rs := [1, 3]) (by kernel_rfl) (by simp) ?_
        refine AllReadyH.cons rfl (fun K hK => ?_) (AllReadyH.cons rfl (fun K hK => ?_) AllReadyH.nil)
        · go_simp
          (try go_wp2_with fail)
          refine hK.out _ _ ⟨ff0, ff1, ff2, ff3, ff4, ff5, ff6⟩ (fun _hH => ?_)
          clear hK K
          try simp only [Act.put, List.setIfInBounds_toArray, List.set_cons_zero, List.set_cons_succ]
          refine wpAnyH_ready (rs := [3]) (by kernel_rfl) (by simp) ?_
          refine AllReadyH.cons rfl (fun K hK => ?_) AllReadyH.nil
          go_simp
          go_at_call 44
          refine (Hc.out).mono ?_
          rintro e w1 ⟨x1, rfl, hx1, t1⟩
          obtain ⟨⟨k3, nm3, ⟨vk3, vn3, vt3⟩, op3⟩, A3, m3, c3⟩ := x1
          have mm0 := t1.cell ff0 (by simp)
          have mm1 := t1.cell ff1 (by simp)
          have mm2 := t1.cell ff2 (by simp)
          have mm3 := t1.cell ff3 (by simp)
          have mm4 := t1.cell ff4 (by simp)
          have mm5 := t1.cell ff5 (by simp)
          have mm6 := t1.cell ff6 (by simp)
          have z1 := t1.cell z0 (by simp)
          have tn := (Touch.refl [] w1).alloc (.cells #[.int .i64 k3, .string nm3, .int .i64 vk3, .int .i64 vn3, .string vt3, .string op3, .slice A3 m3 c3] 33)
          have z2 := tn.cell z1 (by simp)
          have q0 := tn.cell mm0 (by simp)
          have q1 := tn.cell mm1 (by simp)
          have q2 := tn.cell mm2 (by simp)
          have q3 := tn.cell mm3 (by simp)
          have q4 := tn.cell mm4 (by simp)
          have q5 := tn.cell mm5 (by simp)
          have q6 := tn.cell mm6 (by simp)
          have hown1 := (hown.touch0 Ta.out).touch0 t1
          have s1 := t1.size
          (try go_wp2_with fail)
          refine hK.out _ _ ⟨mm0, mm1, mm2, mm3, mm4, mm5, mm6⟩ (fun _hH => ?_)
          clear hK K
          try simp only [Act.put, List.setIfInBounds_toArray, List.set_cons_zero, List.set_cons_succ]
          refine wpAnyH_ready (rs := [4]) (by kernel_rfl) (by simp) ?_
          refine AllReadyH.cons rfl (fun K hK => ?_) AllReadyH.nil
          go_simp
          (try go_wp2_with fail)
          refine hK.out _ _ ⟨q0, q1, q2, q3, q4, q5, q6⟩ (fun _hH => ?_)
          clear hK K
          try simp only [Act.put, List.setIfInBounds_toArray, List.set_cons_zero, List.set_cons_succ]
          refine wpAnyH_ready (rs := [5]) (by kernel_rfl) (by simp) ?_
          refine AllReadyH.cons rfl (fun K hK => ?_) AllReadyH.nil
          refine step_appX xcE_length xcE_one rfl (.tmp 17) (.tmp 20) 31 (by rfl) 33 _ 96 info_expr Try.underlying31 rfl (by omega) (w.heap.size + 2) n B j cB (args.take j) Htl.out (by rfl) hown1 ⟨⟨k3, nm3, ⟨vk3, vn3, vt3⟩, op3⟩, A3, m3, c3⟩ a (hx1.mono fun b hb => ⟨⟨by have := hb.1; omega, hb.2⟩, fun hm => by have := hBlt b hm; have := hb.1; omega⟩) (by omega) 1 (by rfl) (by omega) rfl ?_
          intro B5 cB5 w5 hown5 ht5 hf5
          have hVB : wr.heap.size ∉ fpo B := fun hm => by have := hBlt _ hm; omega
          have p0 := ht5.cell mm0 hVB
          have p1 := ht5.cell mm1 hVB
          have p2 := ht5.cell mm2 hVB
          have p3 := ht5.cell mm3 hVB
          have p4 := ht5.cell mm4 hVB
          have p5 := ht5.cell mm5 hVB
          have p6 := ht5.cell mm6 hVB
          have hX5 := ht5.blk ((Ta.out.trans0 t1).blk hX (by simp)) hXB
          have hR5 := ht5.blk ((Ta.out.trans0 t1).blk hR (by simp)) hRB
          have T5 := ((ht.trans0 Ta.out).trans0 t1).trans ht5 (fun b hb => .inr (by have := hBlo b hb; omega))
          have z5 := cell_blk hX5 (i := 6) rfl
          have f5 : w5.frozen? ⟨w.heap.size + 1, 6, none⟩ = false := by simp [World.frozen?, hX5]
          have t7 := (Touch.refl [w.heap.size + 1] w5).setCell (p := ⟨w.heap.size + 1, 6, none⟩) (.inl (by simp)) (.slice B5 (j + 1) cB5)
          have r0 := t7.cell p0 (by simp; omega)
          have r1 := t7.cell p1 (by simp; omega)
          have r2 := t7.cell p2 (by simp; omega)
          have r3 := t7.cell p3 (by simp; omega)
          have r4 := t7.cell p4 (by simp; omega)
          have r5 := t7.cell p5 (by simp; omega)
          have r6 := t7.cell p6 (by simp; omega)
          refine hK.out _ _ ⟨p0, p1, p2, p3, p4, p5, p6⟩ (fun _hH => ?_)
          clear hK K
          try simp only [Act.put, List.setIfInBounds_toArray]
          refine take_d (i := 6) (d := 22) (v := ?_) rfl rfl (by kernel_rfl) (by kernel_rfl) (by kernel_rfl) (fun _ _ _ h => h) (Or.inl ⟨by rfl, ?_⟩) (by assumption) ?_
          rotate_left
          · intro w hSw; (try dsimp only at hSw); go_simp; (try with_reducible rfl)
          try simp only [Act.put]
          refine wpAnyH_ready (rs := [7]) (by kernel_rfl) (by simp) ?_
          refine AllReadyH.cons rfl (fun K hK => ?_) AllReadyH.nil
          go_simp
          (try go_wp2_with fail)
          refine hK.out _ _ ⟨r0, r1, r2, r3, r4, r5, r6⟩ (fun _hH => ?_)
          clear hK K
          try simp only [Act.put, List.setIfInBounds_toArray, List.set_cons_zero, List.set_cons_succ]
          refine wpAnyH_done (by kernel_rfl) ?_ _
          go_wp2
          go_roundw
          case rel => exact ⟨j + 1, B5, cB5, by omega, by go_num, set_blk hX5 6 _, (t7.blk hR5 (by simp)), by rw [Hsn.out]; exact hown5.touch t7 (fun b hb => by simp at hb; omega), T5.setCell (p := ⟨w.heap.size + 1, 6, none⟩) (.inr (by simp only; omega)) _⟩
          case measure => simp [intOf]; omega
        · go_simp
          go_at_call 44
          refine (Hc.out).mono ?_
          rintro e w1 ⟨x1, rfl, hx1, t1⟩
          obtain ⟨⟨k3, nm3, ⟨vk3, vn3, vt3⟩, op3⟩, A3, m3, c3⟩ := x1
          have mm0 := t1.cell ff0 (by simp)
          have mm1 := t1.cell ff1 (by simp)
          have mm2 := t1.cell ff2 (by simp)
          have mm3 := t1.cell ff3 (by simp)
          have mm4 := t1.cell ff4 (by simp)
          have mm5 := t1.cell ff5 (by simp)
          have mm6 := t1.cell ff6 (by simp)
          have z1 := t1.cell z0 (by simp)
          have tn := (Touch.refl [] w1).alloc (.cells #[.int .i64 k3, .string nm3, .int .i64 vk3, .int .i64 vn3, .string vt3, .string op3, .slice A3 m3 c3] 33)
          have z2 := tn.cell z1 (by simp)
          have q0 := tn.cell mm0 (by simp)
          have q1 := tn.cell mm1 (by simp)
          have q2 := tn.cell mm2 (by simp)
          have q3 := tn.cell mm3 (by simp)
          have q4 := tn.cell mm4 (by simp)
          have q5 := tn.cell mm5 (by simp)
          have q6 := tn.cell mm6 (by simp)
          have hown1 := (hown.touch0 Ta.out).touch0 t1
          have s1 := t1.size
          (try go_wp2_with fail)
          refine hK.out _ _ ⟨mm0, mm1, mm2, mm3, mm4, mm5, mm6⟩ (fun _hH => ?_)
          clear hK K
          try simp only [Act.put, List.setIfInBounds_toArray, List.set_cons_zero, List.set_cons_succ]
          refine wpAnyH_ready (rs := [1, 4]) (by kernel_rfl) (by simp) ?_
          refine AllReadyH.cons rfl (fun K hK => ?_) (AllReadyH.cons rfl (fun K hK => ?_) AllReadyH.nil)
          · go_simp
            (try go_wp2_with fail)
            refine hK.out _ _ ⟨mm0, mm1, mm2, mm3, mm4, mm5, mm6⟩ (fun _hH => ?_)
            clear hK K
            try simp only [Act.put, List.setIfInBounds_toArray, List.set_cons_zero, List.set_cons_succ]
            refine wpAnyH_ready (rs := [4]) (by kernel_rfl) (by simp) ?_
            refine AllReadyH.cons rfl (fun K hK => ?_) AllReadyH.nil
            go_simp
            (try go_wp2_with fail)
            refine hK.out _ _ ⟨q0, q1, q2, q3, q4, q5, q6⟩ (fun _hH => ?_)
            clear hK K
            try simp only [Act.put, List.setIfInBounds_toArray, List.set_cons_zero, List.set_cons_succ]
            refine wpAnyH_ready (rs := [5]) (by kernel_rfl) (by simp) ?_
            refine AllReadyH.cons rfl (fun K hK => ?_) AllReadyH.nil
            refine step_appX xcE_length xcE_one rfl (.tmp 17) (.tmp 20) 31 (by rfl) 33 _ 96 info_expr Try.underlying31 rfl (by omega) (w.heap.size + 2) n B j cB (args.take j) Htl.out (by rfl) hown1 ⟨⟨k3, nm3, ⟨vk3, vn3, vt3⟩, op3⟩, A3, m3, c3⟩ a (hx1.mono fun b hb => ⟨⟨by have := hb.1; omega, hb.2⟩, fun hm => by have := hBlt b hm; have := hb.1; omega⟩) (by omega) 1 (by rfl) (by omega) rfl ?_
            intro B5 cB5 w5 hown5 ht5 hf5
            have hVB : wr.heap.size ∉ fpo B := fun hm => by have := hBlt _ hm; omega
            have p0 := ht5.cell mm0 hVB
            have p1 := ht5.cell mm1 hVB
            have p2 := ht5.cell mm2 hVB
            have p3 := ht5.cell mm3 hVB
            have p4 := ht5.cell mm4 hVB
            have p5 := ht5.cell mm5 hVB
            have p6 := ht5.cell mm6 hVB
            have hX5 := ht5.blk ((Ta.out.trans0 t1).blk hX (by simp)) hXB
            have hR5 := ht5.blk ((Ta.out.trans0 t1).blk hR (by simp)) hRB
            have T5 := ((ht.trans0 Ta.out).trans0 t1).trans ht5 (fun b hb => .inr (by have := hBlo b hb; omega))
            have z5 := cell_blk hX5 (i := 6) rfl
            have f5 : w5.frozen? ⟨w.heap.size + 1, 6, none⟩ = false := by simp [World.frozen?, hX5]
            have t7 := (Touch.refl [w.heap.size + 1] w5).setCell (p := ⟨w.heap.size + 1, 6, none⟩) (.inl (by simp)) (.slice B5 (j + 1) cB5)
            have r0 := t7.cell p0 (by simp; omega)
            have r1 := t7.cell p1 (by simp; omega)
            have r2 := t7.cell p2 (by simp; omega)
            have r3 := t7.cell p3 (by simp; omega)
            have r4 := t7.cell p4 (by simp; omega)
            have r5 := t7.cell p5 (by simp; omega)
            have r6 := t7.cell p6 (by simp; omega)
            refine hK.out _ _ ⟨p0, p1, p2, p3, p4, p5, p6⟩ (fun _hH => ?_)
            clear hK K
            try simp only [Act.put, List.setIfInBounds_toArray]
            refine take_d (i := 6) (d := 22) (v := ?_) rfl rfl (by kernel_rfl) (by kernel_rfl) (by kernel_rfl) (fun _ _ _ h => h) (Or.inl ⟨by rfl, ?_⟩) (by assumption) ?_
            rotate_left
            · intro w hSw; (try dsimp only at hSw); go_simp; (try with_reducible rfl)
            try simp only [Act.put]
            refine wpAnyH_ready (rs := [7]) (by kernel_rfl) (by simp) ?_
            refine AllReadyH.cons rfl (fun K hK => ?_) AllReadyH.nil
            go_simp
            (try go_wp2_with fail)
            refine hK.out _ _ ⟨r0, r1, r2, r3, r4, r5, r6⟩ (fun _hH => ?_)
            clear hK K
            try simp only [Act.put, List.setIfInBounds_toArray, List.set_cons_zero, List.set_cons_succ]
            refine wpAnyH_done (by kernel_rfl) ?_ _
            go_wp2
            go_roundw
            case rel => exact ⟨j + 1, B5, cB5, by omega, by go_num, set_blk hX5 6 _, (t7.blk hR5 (by simp)), by rw [Hsn.out]; exact hown5.touch t7 (fun b hb => by simp at hb; omega), T5.setCell (p := ⟨w.heap.size + 1, 6, none⟩) (.inr (by simp only; omega)) _⟩
            case measure => simp [intOf]; omega
          · go_simp
            (try go_wp2_with fail)
            refine hK.out _ _ ⟨q0, q1, q2, q3, q4, q5, q6⟩ (fun _hH => ?_)
            clear hK K
            try simp only [Act.put, List.setIfInBounds_toArray, List.set_cons_zero, List.set_cons_succ]
            refine wpAnyH_ready (rs := [1]) (by kernel_rfl) (by simp) ?_
            refine AllReadyH.cons rfl (fun K hK => ?_) AllReadyH.nil
            go_simp
            (try go_wp2_with fail)
            refine hK.out _ _ ⟨q0, q1, q2, q3, q4, q5, q6⟩ (fun _hH => ?_)
            clear hK K
            try simp only [Act.put, List.setIfInBounds_toArray, List.set_cons_zero, List.set_cons_succ]
            refine wpAnyH_ready (rs := [5]) (by kernel_rfl) (by simp) ?_
            refine AllReadyH.cons rfl (fun K hK => ?_) AllReadyH.nil
            refine step_appX xcE_length xcE_one rfl (.tmp 17) (.tmp 20) 31 (by rfl) 33 _ 96 info_expr Try.underlying31 rfl (by omega) (w.heap.size + 2) n B j cB (args.take j) Htl.out (by rfl) hown1 ⟨⟨k3, nm3, ⟨vk3, vn3, vt3⟩, op3⟩, A3, m3, c3⟩ a (hx1.mono fun b hb => ⟨⟨by have := hb.1; omega, hb.2⟩, fun hm => by have := hBlt b hm; have := hb.1; omega⟩) (by omega) 1 (by rfl) (by omega) rfl ?_
            intro B5 cB5 w5 hown5 ht5 hf5
            have hVB : wr.heap.size ∉ fpo B := fun hm => by have := hBlt _ hm; omega
            have p0 := ht5.cell mm0 hVB
            have p1 := ht5.cell mm1 hVB
            have p2 := ht5.cell mm2 hVB
            have p3 := ht5.cell mm3 hVB
            have p4 := ht5.cell mm4 hVB
            have p5 := ht5.cell mm5 hVB
            have p6 := ht5.cell mm6 hVB
            have hX5 := ht5.blk ((Ta.out.trans0 t1).blk hX (by simp)) hXB
            have hR5 := ht5.blk ((Ta.out.trans0 t1).blk hR (by simp)) hRB
            have T5 := ((ht.trans0 Ta.out).trans0 t1).trans ht5 (fun b hb => .inr (by have := hBlo b hb; omega))
            have z5 := cell_blk hX5 (i := 6) rfl
            have f5 : w5.frozen? ⟨w.heap.size + 1, 6, none⟩ = false := by simp [World.frozen?, hX5]
            have t7 := (Touch.refl [w.heap.size + 1] w5).setCell (p := ⟨w.heap.size + 1, 6, none⟩) (.inl (by simp)) (.slice B5 (j + 1) cB5)
            have r0 := t7.cell p0 (by simp; omega)
            have r1 := t7.cell p1 (by simp; omega)
            have r2 := t7.cell p2 (by simp; omega)
            have r3 := t7.cell p3 (by simp; omega)
            have r4 := t7.cell p4 (by simp; omega)
            have r5 := t7.cell p5 (by simp; omega)
            have r6 := t7.cell p6 (by simp; omega)
            refine hK.out _ _ ⟨p0, p1, p2, p3, p4, p5, p6⟩ (fun _hH => ?_)
            clear hK K
            try simp only [Act.put, List.setIfInBounds_toArray]
            refine take_d (i := 6) (d := 22) (v := ?_) rfl rfl (by kernel_rfl) (by kernel_rfl) (by kernel_rfl) (fun _ _ _ h => h) (Or.inl ⟨by rfl, ?_⟩) (by assumption) ?_
            rotate_left
            · intro w hSw; (try dsimp only at hSw); go_simp; (try with_reducible rfl)
            try simp only [Act.put]
            refine wpAnyH_ready (rs := [7]) (by kernel_rfl) (by simp) ?_
            refine AllReadyH.cons rfl (fun K hK => ?_) AllReadyH.nil
            go_simp
            (try go_wp2_with fail)
            refine hK.out _ _ ⟨r0, r1, r2, r3, r4, r5, r6⟩ (fun _hH => ?_)
            clear hK K
            try simp only [Act.put, List.setIfInBounds_toArray, List.set_cons_zero, List.set_cons_succ]
            refine wpAnyH_done (by kernel_rfl) ?_ _
            go_wp2
            go_roundw
            case rel => exact ⟨j + 1, B5, cB5, by omega, by go_num, set_blk hX5 6 _, (t7.blk hR5 (by simp)), by rw [Hsn.out]; exact hown5.touch t7 (fun b hb => by simp at hb; omega), T5.setCell (p := ⟨w.heap.size + 1, 6, none⟩) (.inr (by simp only; omega)) _⟩
            case measure => simp [intOf]; omega
      · obtain rfl : j = args.length := by omega
        rw [List.take_length] at hown
        have H7 := Lib.hid (fun (v0 v1 v2 v3 v4 v5 v6 : Value) => out7 hR v0 v1 v2 v3 v4 v5 v6)
        obtain ⟨d0, d1, d2, d3, d4, d5, d6, _⟩ := blk7 hX
        obtain ⟨e0, e1, e2, e3, e4, e5, e6, g0, g1, g2, g3, g4, g5, g6⟩ := blk7 hR
        go_wp2
        obtain ⟨q1, q2⟩ := H7.out (.int .i64 5) (.string nm) (.int .i64 0) (.int .i64 0) (.string ⟨#[]⟩) (.string ⟨#[]⟩) (.slice B args.length cB)
        refine bodyPost_ret (results_cell_row rfl _ _ (w.heap.size) _ _ _ _ rfl q1 Try.underlying33 rfl rfl) rfl ⟨⟨⟨5, nm, ⟨0, 0, ⟨#[]⟩⟩, ⟨#[]⟩⟩, B, args.length, cB⟩, rfl, ?_, ht.trans q2 (fun b hb => .inr (by simp at hb; omega))⟩
        have hT := (hown.touch q2 (fun b hb => by simp at hb; omega)).tree ⟨5, nm, ⟨0, 0, ⟨#[]⟩⟩, ⟨#[]⟩⟩ args.length rfl
        exact hT.mono fun b hb => ⟨by have := hb.1; omega, hb.2⟩
end Go.Proofs.Ytlkckkagoommaaa

/- bywashlaw04.awake: the fixed answer stands. -/
namespace Go.Proofs.Ytlkckkagoommaaa
open Go.RowKit
attribute [local go_sem ↓] Go.wp_at_zero Go.wp_at_succ

theorem okA : ∀ c ∈ csA, c.Ok := fun c hc => by
  rw [csA, List.mem_singleton] at hc
  subst hc
  exact ⟨by decide, by decide⟩
theorem okV (n : Int) (h : -9223372036854775808 ≤ n ∧ n ≤ 9223372036854775807) : ∀ v ∈ [ofV n], v.Ok 140737000000000 := fun v hv => by
  rw [List.mem_singleton] at hv
  subst hv
  exact ⟨(by decide : (-9223372036854775808 : Int) ≤ 1 ∧ (1 : Int) ≤ 9223372036854775807), h, Nat.zero_le _⟩
set_option maxRecDepth 100000 in
set_option maxHeartbeats 3200000 in
theorem awakeX_any (w : World) : Calls Try.prog 11 #[] w fun e w' => e = .returned (.bool true) ∧ Touch [] w w' := by
  have t0 := (Touch.refl [] w).alloc (.cells #[.string ⟨#[97]⟩, .int .i64 1] 45)
  have hcs : ColsAt (w.alloc (.cells #[.string ⟨#[97]⟩, .int .i64 1] 45)) (some ⟨w.heap.size, 0, none⟩) csA := RdK.row w 45 csA #[.string ⟨#[97]⟩, .int .i64 1] rfl
  have hof := fun n w' => of_any n w'
  go_enter Try.func11, Try.ntmps11
  go_wp2_with fail
  refine (columnX_any 0 (S [97]) _).mono ?_
  rintro e w1 ⟨x1, rfl, h1, u1⟩
  go_wp2_with fail
  refine (of_any 1 _).mono ?_
  rintro e w2 ⟨rfl, u2⟩
  go_wp2_with fail
  refine (constX_any 0 (ofV 1) _).mono ?_
  rintro e w3 ⟨x3, rfl, h3, u3⟩
  go_wp2_with fail
  refine (binaryX_any 1 (S [43]) _ _ x1 x3 _ ((h1.any.touch0 u2).touch0 u3) h3.any (by decide) (by decide)).mono ?_
  rintro e w4 ⟨x4, rfl, h4, u4⟩
  go_wp2_with fail
  refine (of_any 2 _).mono ?_
  rintro e w5 ⟨rfl, u5⟩
  go_wp2_with fail
  refine (one_any (ofV 2) _).mono ?_
  rintro e w6 ⟨⟨A6, rfl, h6⟩, u6⟩
  go_wp2_with fail
  have hev := topX_any 2 ((nd4 (S [43]), [((ndA, []) : TX 1), ((ndC (ofV 1), []) : TX 1)]) : TX 2) x4 (some ⟨w.heap.size, 0, none⟩) 1 1 csA rfl okA A6 1 1 [ofV 2] rfl (okV 2 (by decide)) w6 ((h4.any.touch0 u5).touch0 u6) ((((((hcs.touch0 u1).touch0 u2).touch0 u3).touch0 u4).touch0 u5).touch0 u6) h6 (by omega) (by omega) (by decide) (allX2 (Nat.zero_le _) (allX0 (Nat.zero_le _)) (allX0 (Nat.zero_le _)))
  rw [top1] at hev
  refine hev.mono ?_
  rintro e w7 ⟨rfl, u7⟩
  clear hev
  have tv := (Touch.refl [] w7).alloc (.cells #[.int .i64 1, .int .i64 3, .string ⟨#[]⟩] 30)
  have hv := heap_alloc_new w7 (.cells #[.int .i64 1, .int .i64 3, .string ⟨#[]⟩] 30)
  have TT1 := ((((((((t0.trans0 u1).trans0 u2).trans0 u3).trans0 u4).trans0 u5).trans0 u6).trans0 u7).trans0 tv)
  have hcs1 := ((((((((hcs.touch0 u1).touch0 u2).touch0 u3).touch0 u4).touch0 u5).touch0 u6).touch0 u7).touch0 tv)
  simp only [VD.val, ofV, S]
  go_wp2_with fail
  refine (columnX_any 0 (S [97]) _).mono ?_
  rintro e w8 ⟨x8, rfl, h8, u8⟩
  go_wp2_with fail
  refine (of_any 1 _).mono ?_
  rintro e w9 ⟨rfl, u9⟩
  go_wp2_with fail
  refine (constX_any 0 (ofV 1) _).mono ?_
  rintro e w10 ⟨x10, rfl, h10, u10⟩
  go_wp2_with fail
  refine (binaryX_any 1 (S [62]) _ _ x8 x10 _ ((h8.any.touch0 u9).touch0 u10) h10.any (by decide) (by decide)).mono ?_
  rintro e w11 ⟨x11, rfl, h11, u11⟩
  go_wp2_with fail
  refine (of_any 1 _).mono ?_
  rintro e w12 ⟨rfl, u12⟩
  go_wp2_with fail
  refine (constX_any 0 (ofV 1) _).mono ?_
  rintro e w13 ⟨x13, rfl, h13, u13⟩
  go_wp2_with fail
  refine (of_any 0 _).mono ?_
  rintro e w14 ⟨rfl, u14⟩
  go_wp2_with fail
  refine (constX_any 0 (ofV 0) _).mono ?_
  rintro e w15 ⟨x15, rfl, h15, u15⟩
  go_wp2_with fail
  refine (binaryX_any 1 (S [47]) _ _ x13 x15 _ ((h13.any.touch0 u14).touch0 u15) h15.any (by decide) (by decide)).mono ?_
  rintro e w16 ⟨x16, rfl, h16, u16⟩
  go_wp2_with fail
  refine (of_any 5 _).mono ?_
  rintro e w17 ⟨rfl, u17⟩
  go_wp2_with fail
  refine (constX_any 1 (ofV 5) _).mono ?_
  rintro e w18 ⟨x18, rfl, h18, u18⟩
  have g1 := (((((((h11.any.touch0 u12).touch0 u13).touch0 u14).touch0 u15).touch0 u16).touch0 u17).touch0 u18)
  have g2 := ((h16.any.touch0 u17).touch0 u18)
  have g3 := h18.any
  clear h8 h10 h11 h13 h15 h16 h18
  obtain ⟨⟨k1, nm1, ⟨vk1, vn1, vt1⟩, op1⟩, B1, m1, c1⟩ := x11
  obtain ⟨⟨k2, nm2, ⟨vk2, vn2, vt2⟩, op2⟩, B2, m2, c2⟩ := x16
  obtain ⟨⟨k3, nm3, ⟨vk3, vn3, vt3⟩, op3⟩, B3, m3, c3⟩ := x18
  have tr := (Touch.refl [] w18).alloc (.cells #[.int .i64 k1, .string nm1, .int .i64 vk1, .int .i64 vn1, .string vt1, .string op1, .slice B1 m1 c1, .int .i64 k2, .string nm2, .int .i64 vk2, .int .i64 vn2, .string vt2, .string op2, .slice B2 m2 c2, .int .i64 k3, .string nm3, .int .i64 vk3, .int .i64 vn3, .string vt3, .string op3, .slice B3 m3 c3] 33)
  have hargs : ArgsP xcE anyB 2 (w18.alloc (.cells #[.int .i64 k1, .string nm1, .int .i64 vk1, .int .i64 vn1, .string vt1, .string op1, .slice B1 m1 c1, .int .i64 k2, .string nm2, .int .i64 vk2, .int .i64 vn2, .string vt2, .string op2, .slice B2 m2 c2, .int .i64 k3, .string nm3, .int .i64 vk3, .int .i64 vn3, .string vt3, .string op3, .slice B3 m3 c3] 33)) (some ⟨w18.heap.size, 0, none⟩) [((nd4 (S [62]), [((ndA, []) : TX 1), ((ndC (ofV 1), []) : TX 1)]) : TX 2), ((nd4 (S [47]), [((ndC (ofV 1), []) : TX 1), ((ndC (ofV 0), []) : TX 1)]) : TX 2), ((ndC (ofV 5), []) : TX 2)] := ⟨[(⟨⟨k1, nm1, ⟨vk1, vn1, vt1⟩, op1⟩, B1, m1, c1⟩ : XC), (⟨⟨k2, nm2, ⟨vk2, vn2, vt2⟩, op2⟩, B2, m2, c2⟩ : XC), (⟨⟨k3, nm3, ⟨vk3, vn3, vt3⟩, op3⟩, B3, m3, c3⟩ : XC)], rfl, RdK.row w18 33 [(⟨⟨k1, nm1, ⟨vk1, vn1, vt1⟩, op1⟩, B1, m1, c1⟩ : XC), (⟨⟨k2, nm2, ⟨vk2, vn2, vt2⟩, op2⟩, B2, m2, c2⟩ : XC), (⟨⟨k3, nm3, ⟨vk3, vn3, vt3⟩, op3⟩, B3, m3, c3⟩ : XC)] _ rfl, fun i a1 a2 => by
    match i, a1 with
    | 0, _ => exact g1.touch0 tr
    | 1, _ => exact g2.touch0 tr
    | 2, _ => exact g3.touch0 tr⟩
  dsimp only [XC.val]
  go_wp2_with fail
  refine (callX_any 2 [((nd4 (S [62]), [((ndA, []) : TX 1), ((ndC (ofV 1), []) : TX 1)]) : TX 2), ((nd4 (S [47]), [((ndC (ofV 1), []) : TX 1), ((ndC (ofV 0), []) : TX 1)]) : TX 2), ((ndC (ofV 5), []) : TX 2)] (S [105, 102]) (some ⟨w18.heap.size, 0, none⟩) 3 3 rfl _ hargs (by decide)).mono ?_
  rintro e w19 ⟨x19, rfl, h19, u19⟩
  go_wp2_with fail
  refine (of_any 1 _).mono ?_
  rintro e w20 ⟨rfl, u20⟩
  go_wp2_with fail
  refine (one_any (ofV 1) _).mono ?_
  rintro e w21 ⟨⟨A21, rfl, h21⟩, u21⟩
  go_wp2_with fail
  have hev := topX_any 3 ((⟨5, S [105, 102], ⟨0, 0, ⟨#[]⟩⟩, ⟨#[]⟩⟩, [((nd4 (S [62]), [((ndA, []) : TX 1), ((ndC (ofV 1), []) : TX 1)]) : TX 2), ((nd4 (S [47]), [((ndC (ofV 1), []) : TX 1), ((ndC (ofV 0), []) : TX 1)]) : TX 2), ((ndC (ofV 5), []) : TX 2)]) : TX 3) x19 (some ⟨w.heap.size, 0, none⟩) 1 1 csA rfl okA A21 1 1 [ofV 1] rfl (okV 1 (by decide)) w21 ((h19.any.touch0 u20).touch0 u21) (((((((((((((((hcs1.touch0 u8).touch0 u9).touch0 u10).touch0 u11).touch0 u12).touch0 u13).touch0 u14).touch0 u15).touch0 u16).touch0 u17).touch0 u18).touch0 tr).touch0 u19).touch0 u20).touch0 u21) h21 (by omega) (by omega) (by decide) (allX3 (Nat.zero_le _) (allX2 (Nat.zero_le _) (allX0 (Nat.zero_le _)) (allX0 (Nat.zero_le _))) (allX2 (Nat.zero_le _) (allX0 (Nat.zero_le _)) (allX0 (Nat.zero_le _))) (allX0 (Nat.zero_le _)))
  rw [top2] at hev
  refine hev.mono ?_
  rintro e w22 ⟨rfl, u22⟩
  clear hev
  have tz := (Touch.refl [] w22).alloc (.cells #[.int .i64 1, .int .i64 5, .string ⟨#[]⟩] 30)
  have hz := heap_alloc_new w22 (.cells #[.int .i64 1, .int .i64 5, .string ⟨#[]⟩] 30)
  have hvl := (tz.blk (u22.blk (u21.blk (u20.blk (u19.blk (tr.blk (u18.blk (u17.blk (u16.blk (u15.blk (u14.blk (u13.blk (u12.blk (u11.blk (u10.blk (u9.blk (u8.blk hv (by simp)) (by simp)) (by simp)) (by simp)) (by simp)) (by simp)) (by simp)) (by simp)) (by simp)) (by simp)) (by simp)) (by simp)) (by simp)) (by simp)) (by simp)) (by simp)) (by simp))
  have TT2 := (((((((((((((((((TT1.trans0 u8).trans0 u9).trans0 u10).trans0 u11).trans0 u12).trans0 u13).trans0 u14).trans0 u15).trans0 u16).trans0 u17).trans0 u18).trans0 tr).trans0 u19).trans0 u20).trans0 u21).trans0 u22).trans0 tz)
  obtain ⟨W, hW⟩ : ∃ W, W = w22.alloc (.cells #[.int .i64 1, .int .i64 5, .string ⟨#[]⟩] 30) := ⟨_, rfl⟩
  rw [← hW] at hz hvl TT2
  obtain ⟨a0, a1, a2, _⟩ := blk3 hvl
  obtain ⟨b0, b1, b2, _⟩ := blk3 hz
  have g0 := TW.cell a0
  have g1 := TW.cell a1
  have g2 := TW.cell a2
  have g3 := TW.cell b0
  have g4 := TW.cell b1
  have g5 := TW.cell b2
  have Hof := Lib.hid hof
  clear hof
  simp only [VD.val, ofV, S] at Hof ⊢
  have HW := Lib.hid hW
  clear hW
  go_wp2
  rw [← HW.out]
  refine wp_region_tw W (Touch.refl _ _) (by kernel_rfl) (by kernel_rfl) ?_
  repeat (go_big_quiet_step (((go_at_call 23; exact Calls.tw _ (Hof.out _ _)))))
  refine wpQuiet_nil ?_
  rintro _ ⟨z, rfl⟩
  go_wp2
  go_ret
  exact ⟨rfl, TT2.trans0 z.t⟩
end Go.Proofs.Ytlkckkagoommaaa

/- Slices of columns, of values, of texts that came in, as the walks take them. -/
namespace Go.Proofs.Ytlkckkagoommaaa
open Go.RowKit Go.ChangeShapes Go.WideShapes Go.Deep

section
variable {H : Type} {enc : TypeId × Value → H} {P : Program} {w : World} {base : Nat} {spare : Nat → Bool} {held : Bool}
theorem open_slice_rows {t e : TypeId} {fs : Array Field} {fuel : Nat} {cs : List Value} {x : DataW H × List MemPlace} (ht : P.underlying t = some (.slice e)) (he : P.underlying e = some (.struct fs))
    (hone : oneCellFields P fs = true) (hC : P.cellsOf e = fs.size) (h : DataW.trod enc P w base spare held fuel t cs = some x) :
    cs = [.slice none 0 0] ∨
    ∃ (a : Addr) (len cap : Nat), cs = [.slice (some a) len cap] ∧ len ≤ cap ∧ cap ≤ maxLen ∧
      ∀ i, i < len → ∃ n : Nat, ∀ (j : Nat) (f : Field), fs[j]? = some f → ∃ (v : Value) (y : DataW H × List MemPlace), w.cell? (a.add (i * fs.size + j)) = some v ∧ DataW.trod enc P w base spare held n f.type [v] = some y := by
  rcases open_slice ht h with h0 | ⟨a, len, cap, m, n, D, Pl, hcs, hb, hl, hm, hmm, hx, hi⟩
  · exact .inl h0.1
  · refine .inr ⟨a, len, cap, hcs, hl, hm, fun i him => ?_⟩
    have hlm : len ≤ m := by rw [hmm]; split <;> omega
    obtain ⟨cs', hc, ht'⟩ := hi i (by omega)
    rw [hC] at hc
    obtain ⟨ys, n', hn', hy, hlen, hyl, hf⟩ := DataW.trod_struct he ht'
    obtain ⟨_, hcl, hat⟩ := World.cells?_some hc
    refine ⟨n', fun j f hj => ?_⟩
    obtain ⟨ho, hk⟩ := hone_of hone j f hj
    have hjl : j < fs.size := (Array.getElem?_eq_some_iff.1 hj).1
    have hcell := hat j hjl
    have hv : cs'[j]? = some (cs'[j]'(by omega)) := List.getElem?_eq_getElem (by omega)
    have h1 := hf j f hj
    rw [ho, hk] at h1
    have hone' : (cs'.drop j).take 1 = [cs'[j]'(by omega)] := by
      rw [List.drop_eq_getElem_cons (by omega)]
      rfl
    rw [hone'] at h1
    have hys : ys[j]? = some (ys[j]'(by omega)) := List.getElem?_eq_getElem (by omega)
    refine ⟨_, _, ?_, h1.trans hys⟩
    rw [← Go.Deep.add_add, hcell, hv]
theorem open_slice_structs {t e : TypeId} {fs : Array Field} {fuel C : Nat} {cs : List Value} {x : DataW H × List MemPlace} (ht : P.underlying t = some (.slice e)) (he : P.underlying e = some (.struct fs)) (hC : P.cellsOf e = C) (h : DataW.trod enc P w base spare held fuel t cs = some x) :
    cs = [.slice none 0 0] ∨
    ∃ (a : Addr) (len cap : Nat), cs = [.slice (some a) len cap] ∧ len ≤ cap ∧ cap ≤ maxLen ∧
      ∀ i, i < len → ∃ (vs : List Value) (n : Nat), vs.length = C ∧ (∀ j, j < C → w.cell? (a.add (i * C + j)) = vs[j]?) ∧
        ∀ (j : Nat) (f : Field), fs[j]? = some f → ∃ y : DataW H × List MemPlace, DataW.trod enc P w base spare held n f.type ((vs.drop f.offset).take (P.cellsOf f.type)) = some y := by
  rcases open_slice ht h with h0 | ⟨a, len, cap, m, n, D, Pl, hcs, hb, hl, hm, hmm, hx, hi⟩
  · exact .inl h0.1
  · refine .inr ⟨a, len, cap, hcs, hl, hm, fun i him => ?_⟩
    have hlm : len ≤ m := by rw [hmm]; split <;> omega
    obtain ⟨cs', hc, ht'⟩ := hi i (by omega)
    rw [hC] at hc
    obtain ⟨ys, n', hn', hy, hlen, hyl, hf⟩ := DataW.trod_struct he ht'
    obtain ⟨_, hcl, hat⟩ := World.cells?_some hc
    refine ⟨cs', n', hcl, fun j hj => ?_, fun j f hj => ?_⟩
    · rw [← Go.Deep.add_add]; exact hat j hj
    · have hjl : j < fs.size := (Array.getElem?_eq_some_iff.1 hj).1
      have hys : ys[j]? = some (ys[j]'(by omega)) := List.getElem?_eq_getElem (by omega)
      exact ⟨_, (hf j f hj).trans hys⟩
end

theorem trod_i64 {H : Type} {enc : TypeId × Value → H} {w : World} {base : Nat} {spare : Nat → Bool} {held : Bool} {n : Nat} {v : Value} {y : DataW H × List MemPlace}
    (h : DataW.trod enc Try.prog w base spare held n 3 [v] = some y) : ∃ k, v = .int .i64 k ∧ -9223372036854775808 ≤ k ∧ k ≤ 9223372036854775807 := by
  obtain ⟨k, e, _, hw⟩ := DataW.trod_int Try.underlying3 h
  simp at e
  exact ⟨k, e, by simpa [Lit.wf, IntKind.min, IntKind.max, IntKind.signed, IntKind.bits] using hw⟩
theorem trod_str {H : Type} {enc : TypeId × Value → H} {w : World} {base : Nat} {spare : Nat → Bool} {held : Bool} {n : Nat} {v : Value} {y : DataW H × List MemPlace}
    (h : DataW.trod enc Try.prog w base spare held n 9 [v] = some y) : ∃ s, v = .string s ∧ s.size ≤ 9223372036854775807 := by
  obtain ⟨s, e, _, hw⟩ := DataW.trod_string Try.underlying9 h
  simp at e
  exact ⟨s, e, by simpa [maxLen] using hw⟩

theorem rdK_of_rows {α : Type} (enc : α → List Value) (k : Nat) (hk : ∀ x, (enc x).length = k) (h0 : 0 < k) (w : World) (a : Addr) (len : Nat) (P : α → Prop)
    (key : ∀ i, i < len → ∃ x : α, P x ∧ ∀ r u, (enc x)[r]? = some u → w.cell? (a.add (i * k + r)) = some u) : ∃ l : List α, l.length = len ∧ RdK enc w (some a) l ∧ ∀ x ∈ l, P x := by
  refine ⟨(List.range len).attach.map fun i => (key i.1 (by simpa using i.2)).choose, by simp, fun _ => ⟨a, rfl, fun j u hu => ?_⟩, fun x hx => ?_⟩
  · have hj := (List.getElem?_eq_some_iff.1 hu).1
    rw [flat_length enc k hk] at hj
    have hi : j / k < ((List.range len).attach.map fun i => (key i.1 (by simpa using i.2)).choose).length := Nat.div_lt_of_lt_mul (by rwa [Nat.mul_comm] at hj)
    have hr : j % k < k := Nat.mod_lt _ h0
    have hjk : j / k * k + j % k = j := Nat.div_add_mod' j k
    rw [← hjk, flat_get enc k hk _ _ _ hi hr] at hu
    have hil : j / k < len := by simpa using hi
    have hs := (key _ hil).choose_spec.2
    rw [← hjk]
    exact hs _ _ (by simpa using hu)
  · simp only [List.mem_map, List.mem_attach, true_and, Subtype.exists] at hx
    obtain ⟨i, hi', rfl⟩ := hx
    exact (key i (by simpa using hi')).choose_spec.1

structure PL.Okw (p : PL) : Prop where
  k : -9223372036854775808 ≤ p.nd.kind ∧ p.nd.kind ≤ 9223372036854775807
  n : p.nd.name.size ≤ 9223372036854775807
  v : p.nd.v.Ok 9223372036854775807
  o : p.nd.op.size ≤ 9223372036854775807
  c : -9223372036854775808 ≤ p.cnt ∧ p.cnt ≤ 9223372036854775807
theorem trod_val {H : Type} {enc : TypeId × Value → H} {w : World} {base : Nat} {spare : Nat → Bool} {held : Bool} {n : Nat} {a b c : Value} {y : DataW H × List MemPlace}
    (h : DataW.trod enc Try.prog w base spare held n 30 [a, b, c] = some y) : ∃ v : VD, a = .int .i64 v.kind ∧ b = .int .i64 v.num ∧ c = .string v.text ∧ v.Ok 9223372036854775807 := by
  obtain ⟨ys, n', hn', hy, hlen, hyl, hf⟩ := DataW.trod_struct Try.underlying30 h
  have hl3 : ys.length = 3 := hyl
  obtain ⟨y0, y1, y2, rfl⟩ : ∃ y0 y1 y2, ys = [y0, y1, y2] := by
    match ys, hl3 with
    | [a, b, c], _ => exact ⟨a, b, c, rfl⟩
  have z1 : Try.prog.cellsOf 3 = 1 := by kernel_rfl
  have z2 : Try.prog.cellsOf 9 = 1 := by kernel_rfl
  have h0 : DataW.trod enc Try.prog w base spare held n' 3 (List.take (Try.prog.cellsOf 3) (List.drop 0 [a, b, c])) = some y0 := hf 0 _ rfl
  have h1 : DataW.trod enc Try.prog w base spare held n' 3 (List.take (Try.prog.cellsOf 3) (List.drop 1 [a, b, c])) = some y1 := hf 1 _ rfl
  have h2 : DataW.trod enc Try.prog w base spare held n' 9 (List.take (Try.prog.cellsOf 9) (List.drop 2 [a, b, c])) = some y2 := hf 2 _ rfl
  rw [z1] at h0 h1
  rw [z2] at h2
  obtain ⟨k, rfl, hk⟩ := trod_i64 (y := y0) h0
  obtain ⟨m, rfl, hm⟩ := trod_i64 (y := y1) h1
  obtain ⟨s, rfl, hs⟩ := trod_str (y := y2) h2
  exact ⟨⟨k, m, s⟩, rfl, rfl, rfl, hk, hm, hs⟩
set_option maxRecDepth 20000 in
theorem open_pls {H : Type} {enc : TypeId × Value → H} {w : World} {base : Nat} {spare : Nat → Bool} {held : Bool} {fuel : Nat} {A : Option Addr} {len cap : Nat} {y : DataW H × List MemPlace}
    (h : DataW.trod enc Try.prog w base spare held fuel 22 [.slice A len cap] = some y) : ∃ l : List PL, l.length = len ∧ PlsAt w A l ∧ (∀ p ∈ l, p.Okw) ∧ l.length ≤ 9223372036854775807 ∧ len ≤ cap := by
  have z1 : Try.prog.cellsOf 3 = 1 := by kernel_rfl
  have z2 : Try.prog.cellsOf 9 = 1 := by kernel_rfl
  have z3 : Try.prog.cellsOf 30 = 3 := by kernel_rfl
  rcases open_slice_structs (P := Try.prog) (C := 7) Try.underlying22 Try.underlying66 (by kernel_rfl) h with hcs | ⟨a, l, c, hcs, hl, hm, hi⟩
  · simp at hcs
    obtain ⟨rfl, rfl, rfl⟩ := hcs
    exact ⟨[], rfl, RdK.nil _ _ _, by simp, Nat.zero_le _, Nat.zero_le _⟩
  · simp at hcs
    obtain ⟨rfl, rfl, rfl⟩ := hcs
    obtain ⟨l, h1, h2, h3⟩ := rdK_of_rows plE 7 plE_length (by omega) w a len PL.Okw fun i hil => by
      obtain ⟨vs, n, hvl, hat, hf⟩ := hi i hil
      obtain ⟨v0, v1, v2, v3, v4, v5, v6, rfl⟩ : ∃ v0 v1 v2 v3 v4 v5 v6, vs = [v0, v1, v2, v3, v4, v5, v6] := by
        match vs, hvl with
        | [a, b, c, d, e, f, g], _ => exact ⟨a, b, c, d, e, f, g, rfl⟩
      obtain ⟨y0, t0⟩ : ∃ y, DataW.trod enc Try.prog w base spare held n 3 (List.take (Try.prog.cellsOf 3) (List.drop 0 [v0, v1, v2, v3, v4, v5, v6])) = some y := hf 0 _ rfl
      obtain ⟨y1, t1⟩ : ∃ y, DataW.trod enc Try.prog w base spare held n 9 (List.take (Try.prog.cellsOf 9) (List.drop 1 [v0, v1, v2, v3, v4, v5, v6])) = some y := hf 1 _ rfl
      obtain ⟨y2, t2⟩ : ∃ y, DataW.trod enc Try.prog w base spare held n 30 (List.take (Try.prog.cellsOf 30) (List.drop 2 [v0, v1, v2, v3, v4, v5, v6])) = some y := hf 2 _ rfl
      obtain ⟨y3, t3⟩ : ∃ y, DataW.trod enc Try.prog w base spare held n 9 (List.take (Try.prog.cellsOf 9) (List.drop 5 [v0, v1, v2, v3, v4, v5, v6])) = some y := hf 3 _ rfl
      obtain ⟨y4, t4⟩ : ∃ y, DataW.trod enc Try.prog w base spare held n 3 (List.take (Try.prog.cellsOf 3) (List.drop 6 [v0, v1, v2, v3, v4, v5, v6])) = some y := hf 4 _ rfl
      rw [z1] at t0 t4
      rw [z2] at t1 t3
      rw [z3] at t2
      obtain ⟨k, rfl, hk⟩ := trod_i64 (y := y0) t0
      obtain ⟨s, rfl, hs⟩ := trod_str (y := y1) t1
      obtain ⟨v, rfl, rfl, rfl, hv⟩ := trod_val (y := y2) t2
      obtain ⟨o, rfl, ho⟩ := trod_str (y := y3) t3
      obtain ⟨q, rfl, hq⟩ := trod_i64 (y := y4) t4
      refine ⟨⟨⟨k, s, v, o⟩, q⟩, ⟨hk, hs, hv, ho, hq⟩, fun r u hu => ?_⟩
      have hr : r < 7 := (List.getElem?_eq_some_iff.1 hu).1
      rw [hat r hr]; exact hu
    exact ⟨l, h1, h2, h3, by rw [h1]; unfold maxLen at hm; omega, hl⟩
end Go.Proofs.Ytlkckkagoommaaa
