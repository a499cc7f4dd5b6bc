/- expr.Column, Const, Unary, Binary: expressions made of expressions, in new memory. For all. -/
import Derived.Test.YtlkckkagoommaaaCopied
import Derived.Test.YtlkckkagoommaaaValF
namespace Go.Proofs.Ytlkckkagoommaaa
open Go.RowKit
attribute [local go_sem ↓] Go.wp_at_zero Go.wp_at_succ

theorem leafX {enc : XC → List Value} {p : Nat → Prop} (n : Nat) (w : World) (d : ND) : ExP enc p (n + 1) w ⟨d, none, 0, 0⟩ (d, []) := ⟨rfl, rfl, by simp [fpo], [], rfl, RdK.nil _ _ _, fun i h => absurd h (by simp)⟩

set_option maxRecDepth 20000 in
theorem columnX_any (n : Nat) (s : ByteArray) (w : World) : Calls Try.prog 20 #[.string s] w fun r w' => ∃ x', r = .returned x'.val ∧ ExP xcE (Fr w.heap.size w') (n + 1) w' x' (⟨1, s, ⟨0, 0, ⟨#[]⟩⟩, ⟨#[]⟩⟩, []) ∧ Touch [] w w' := by
  go_enter Try.func20, Try.ntmps20
  go_wp2_with fail
  exact bodyPost_ret (results_cell_row rfl _ _ w.heap.size _ _ _ _ rfl (heap_alloc_new w _) Try.underlying33 rfl rfl) rfl ⟨⟨⟨1, s, ⟨0, 0, ⟨#[]⟩⟩, ⟨#[]⟩⟩, none, 0, 0⟩, rfl, leafX _ _ _, (Touch.refl _ _).alloc _⟩
set_option maxRecDepth 20000 in
theorem constX_any (n : Nat) (v : VD) (w : World) : Calls Try.prog 18 #[v.val] w fun r w' => ∃ x', r = .returned x'.val ∧ ExP xcE (Fr w.heap.size w') (n + 1) w' x' (⟨2, ⟨#[]⟩, v, ⟨#[]⟩⟩, []) ∧ Touch [] w w' := by
  obtain ⟨k, m, s⟩ := v
  dsimp only [VD.val]
  have t0 := (Touch.refl [] w).alloc (.cells #[.int .i64 k, .int .i64 m, .string s] 30)
  go_enter Try.func18, Try.ntmps18
  go_wp2_with fail
  have hb := heap_alloc_new (w.alloc (.cells #[.int .i64 k, .int .i64 m, .string s] 30)) (.cells #[.int .i64 2, .string ⟨#[]⟩, .int .i64 k, .int .i64 m, .string s, .string ⟨#[]⟩, .slice none 0 0] 33)
  rw [World.size_alloc] at hb
  exact bodyPost_ret (results_cell_row rfl _ _ (w.heap.size + 1) _ _ _ _ rfl hb Try.underlying33 rfl rfl) rfl ⟨⟨⟨2, ⟨#[]⟩, ⟨k, m, s⟩, ⟨#[]⟩⟩, none, 0, 0⟩, rfl, leafX _ _ _, t0.alloc _⟩

set_option maxRecDepth 20000 in
set_option maxHeartbeats 1600000 in
theorem unaryX_any (n : Nat) (op : ByteArray) (a : TX n) (x : XC) (w : World) (ha : ExP xcE anyB n w x a) (hs : sizeX n a ≤ 1000000) : Calls Try.prog 30 #[.string op, x.val] w fun r w' => ∃ x', r = .returned x'.val ∧ ExP xcE (Fr w.heap.size w') (n + 1) w' x' (⟨3, ⟨#[]⟩, ⟨0, 0, ⟨#[]⟩⟩, op⟩, [a]) ∧ Touch [] w w' := by
  have Hc := Lib.hid fun w' (t : Touch [] w w') => copied_any n a x w' (ha.touch0 t) hs
  obtain ⟨⟨k1, nm1, ⟨vk1, vn1, vt1⟩, op1⟩, A1, m1, c1⟩ := x
  simp only [XC.val] at Hc ⊢
  have t0 := ((Touch.refl [] w).alloc (.cells #[.int .i64 k1, .string nm1, .int .i64 vk1, .int .i64 vn1, .string vt1, .string op1, .slice A1 m1 c1] 33)).alloc (.cells #[.int .i64 0, .string ⟨#[]⟩, .int .i64 0, .int .i64 0, .string ⟨#[]⟩, .string ⟨#[]⟩, .slice none 0 0] 33)
  have hbr := heap_alloc_new (w.alloc (.cells #[.int .i64 k1, .string nm1, .int .i64 vk1, .int .i64 vn1, .string vt1, .string op1, .slice A1 m1 c1] 33)) (.cells #[.int .i64 0, .string ⟨#[]⟩, .int .i64 0, .int .i64 0, .string ⟨#[]⟩, .string ⟨#[]⟩, .slice none 0 0] 33)
  rw [World.size_alloc] at hbr
  have Hbr := Lib.hid hbr
  clear hbr
  go_enter Try.func30, Try.ntmps30
  go_wp2_with fail
  refine (Hc.out _ t0).mono ?_
  rintro e w1 ⟨x1, rfl, hx1, t1⟩
  obtain ⟨⟨k2, nm2, ⟨vk2, vn2, vt2⟩, op2⟩, A2, m2, c2⟩ := x1
  dsimp only
  have s1 := t1.size
  simp only [World.size_alloc] at s1
  have tb := (Touch.refl [] w1).alloc (.cells #[.int .i64 k2, .string nm2, .int .i64 vk2, .int .i64 vn2, .string vt2, .string op2, .slice A2 m2 c2] 33)
  have hb2 := tb.blk (t1.blk Hbr.out (by simp)) (by simp)
  obtain ⟨e0, e1, e2, e3, e4, e5, e6, g0, g1, g2, g3, g4, g5, g6⟩ := blk7 hb2
  go_wp2_with fail
  obtain ⟨q1, q2⟩ := out7 hb2 (.int .i64 3) (.string ⟨#[]⟩) (.int .i64 0) (.int .i64 0) (.string ⟨#[]⟩) (.string op) (.slice (some ⟨w1.heap.size, 0, none⟩) 1 1)
  refine bodyPost_ret (results_cell_row rfl _ _ (w.heap.size + 1) _ _ _ _ rfl q1 Try.underlying33 rfl rfl) rfl ⟨⟨⟨3, ⟨#[]⟩, ⟨0, 0, ⟨#[]⟩⟩, op⟩, some ⟨w1.heap.size, 0, none⟩, 1, 1⟩, rfl, ?_, ((t0.trans0 t1).trans0 tb).trans q2 (fun b hb => .inr (by simp at hb; omega))⟩
  have sq := q2.size
  simp only [World.size_alloc] at sq
  refine ⟨rfl, rfl, fun b hb => ?_, [⟨⟨k2, nm2, ⟨vk2, vn2, vt2⟩, op2⟩, A2, m2, c2⟩], rfl, RdK.touch (RdK.row w1 33 [(⟨⟨k2, nm2, ⟨vk2, vn2, vt2⟩, op2⟩, A2, m2, c2⟩ : XC)] _ rfl) q2 (by simp [fpo]; omega), fun i a1 b1 => ?_⟩
  · simp [fpo] at hb
    subst hb
    exact ⟨by omega, by omega⟩
  · obtain rfl : i = 0 := by simp at a1; omega
    exact ((hx1.touch0 tb).touch q2 (fun b hb hp => by simp at hb; have := hp.1; simp at this; omega)).mono fun b hb => ⟨by have := hb.1; simp at this; omega, by have := hb.2; omega⟩

set_option maxRecDepth 100000 in
set_option maxHeartbeats 6400000 in
theorem binaryX_any (n : Nat) (op : ByteArray) (a b : TX n) (x y : XC) (w : World) (ha : ExP xcE anyB n w x a) (hb : ExP xcE anyB n w y b) (hs : sizeX n a ≤ 1000000) (hs2 : sizeX n b ≤ 1000000) : Calls Try.prog 21 #[.string op, x.val, y.val] w fun r w' => ∃ x', r = .returned x'.val ∧ ExP xcE (Fr w.heap.size w') (n + 1) w' x' (⟨4, ⟨#[]⟩, ⟨0, 0, ⟨#[]⟩⟩, op⟩, [a, b]) ∧ Touch [] w w' := by
  have H1 := Lib.hid fun w' (t : Touch [] w w') => copied_any n a x w' (ha.touch0 t) hs
  have H2 := Lib.hid fun w' (t : Touch [] w w') => copied_any n b y w' (hb.touch0 t) hs2
  obtain ⟨⟨k1, nm1, ⟨vk1, vn1, vt1⟩, op1⟩, A1, m1, c1⟩ := x
  obtain ⟨⟨k2, nm2, ⟨vk2, vn2, vt2⟩, op2⟩, A2, m2, c2⟩ := y
  simp only [XC.val] at H1 H2 ⊢
  have t0 := (((Touch.refl [] w).alloc (.cells #[.int .i64 k1, .string nm1, .int .i64 vk1, .int .i64 vn1, .string vt1, .string op1, .slice A1 m1 c1] 33)).alloc (.cells #[.int .i64 k2, .string nm2, .int .i64 vk2, .int .i64 vn2, .string vt2, .string op2, .slice A2 m2 c2] 33)).alloc (.cells #[.int .i64 0, .string ⟨#[]⟩, .int .i64 0, .int .i64 0, .string ⟨#[]⟩, .string ⟨#[]⟩, .slice none 0 0] 33)
  have hbr := heap_alloc_new ((w.alloc (.cells #[.int .i64 k1, .string nm1, .int .i64 vk1, .int .i64 vn1, .string vt1, .string op1, .slice A1 m1 c1] 33)).alloc (.cells #[.int .i64 k2, .string nm2, .int .i64 vk2, .int .i64 vn2, .string vt2, .string op2, .slice A2 m2 c2] 33)) (.cells #[.int .i64 0, .string ⟨#[]⟩, .int .i64 0, .int .i64 0, .string ⟨#[]⟩, .string ⟨#[]⟩, .slice none 0 0] 33)
  have hb1 := (((Touch.refl [] (w.alloc (.cells #[.int .i64 k1, .string nm1, .int .i64 vk1, .int .i64 vn1, .string vt1, .string op1, .slice A1 m1 c1] 33))).alloc (.cells #[.int .i64 k2, .string nm2, .int .i64 vk2, .int .i64 vn2, .string vt2, .string op2, .slice A2 m2 c2] 33)).alloc (.cells #[.int .i64 0, .string ⟨#[]⟩, .int .i64 0, .int .i64 0, .string ⟨#[]⟩, .string ⟨#[]⟩, .slice none 0 0] 33)).blk (heap_alloc_new w (.cells #[.int .i64 k1, .string nm1, .int .i64 vk1, .int .i64 vn1, .string vt1, .string op1, .slice A1 m1 c1] 33)) (by simp)
  have hb2 := ((Touch.refl [] ((w.alloc (.cells #[.int .i64 k1, .string nm1, .int .i64 vk1, .int .i64 vn1, .string vt1, .string op1, .slice A1 m1 c1] 33)).alloc (.cells #[.int .i64 k2, .string nm2, .int .i64 vk2, .int .i64 vn2, .string vt2, .string op2, .slice A2 m2 c2] 33))).alloc (.cells #[.int .i64 0, .string ⟨#[]⟩, .int .i64 0, .int .i64 0, .string ⟨#[]⟩, .string ⟨#[]⟩, .slice none 0 0] 33)).blk (heap_alloc_new (w.alloc (.cells #[.int .i64 k1, .string nm1, .int .i64 vk1, .int .i64 vn1, .string vt1, .string op1, .slice A1 m1 c1] 33)) (.cells #[.int .i64 k2, .string nm2, .int .i64 vk2, .int .i64 vn2, .string vt2, .string op2, .slice A2 m2 c2] 33)) (by simp)
  simp only [World.size_alloc] at hbr hb1 hb2
  have t0d := t0.drew
  have hb1d := ((Touch.refl [] (((w.alloc (.cells #[.int .i64 k1, .string nm1, .int .i64 vk1, .int .i64 vn1, .string vt1, .string op1, .slice A1 m1 c1] 33)).alloc (.cells #[.int .i64 k2, .string nm2, .int .i64 vk2, .int .i64 vn2, .string vt2, .string op2, .slice A2 m2 c2] 33)).alloc (.cells #[.int .i64 0, .string ⟨#[]⟩, .int .i64 0, .int .i64 0, .string ⟨#[]⟩, .string ⟨#[]⟩, .slice none 0 0] 33))).drew).blk hb1 (by simp)
  have hb2d := ((Touch.refl [] (((w.alloc (.cells #[.int .i64 k1, .string nm1, .int .i64 vk1, .int .i64 vn1, .string vt1, .string op1, .slice A1 m1 c1] 33)).alloc (.cells #[.int .i64 k2, .string nm2, .int .i64 vk2, .int .i64 vn2, .string vt2, .string op2, .slice A2 m2 c2] 33)).alloc (.cells #[.int .i64 0, .string ⟨#[]⟩, .int .i64 0, .int .i64 0, .string ⟨#[]⟩, .string ⟨#[]⟩, .slice none 0 0] 33))).drew).blk hb2 (by simp)
  have Hbr := Lib.hid (((Touch.refl [] (((w.alloc (.cells #[.int .i64 k1, .string nm1, .int .i64 vk1, .int .i64 vn1, .string vt1, .string op1, .slice A1 m1 c1] 33)).alloc (.cells #[.int .i64 k2, .string nm2, .int .i64 vk2, .int .i64 vn2, .string vt2, .string op2, .slice A2 m2 c2] 33)).alloc (.cells #[.int .i64 0, .string ⟨#[]⟩, .int .i64 0, .int .i64 0, .string ⟨#[]⟩, .string ⟨#[]⟩, .slice none 0 0] 33))).drew).blk hbr (by simp))
  obtain ⟨u0, u1, u2, u3, u4, u5, u6, _⟩ := blk7 hb1d
  obtain ⟨v0, v1, v2, v3, v4, v5, v6, _⟩ := blk7 hb2d
  clear hbr hb1 hb2 hb1d hb2d t0 ha hb
  go_enter Try.func21, Try.ntmps21
  go_wp2_with fail
  refine wp_region_held_drew (S := fun w' => w'.cell? ⟨w.heap.size, 0, none⟩ = some (.int .i64 k1) ∧ w'.cell? ⟨w.heap.size, 1, none⟩ = some (.string nm1) ∧ w'.cell? ⟨w.heap.size, 2, none⟩ = some (.int .i64 vk1) ∧ w'.cell? ⟨w.heap.size, 3, none⟩ = some (.int .i64 vn1) ∧ w'.cell? ⟨w.heap.size, 4, none⟩ = some (.string vt1) ∧ w'.cell? ⟨w.heap.size, 5, none⟩ = some (.string op1) ∧ w'.cell? ⟨w.heap.size, 6, none⟩ = some (.slice A1 m1 c1) ∧ w'.cell? ⟨w.heap.size + 1, 0, none⟩ = some (.int .i64 k2) ∧ w'.cell? ⟨w.heap.size + 1, 1, none⟩ = some (.string nm2) ∧ w'.cell? ⟨w.heap.size + 1, 2, none⟩ = some (.int .i64 vk2) ∧ w'.cell? ⟨w.heap.size + 1, 3, none⟩ = some (.int .i64 vn2) ∧ w'.cell? ⟨w.heap.size + 1, 4, none⟩ = some (.string vt2) ∧ w'.cell? ⟨w.heap.size + 1, 5, none⟩ = some (.string op2) ∧ w'.cell? ⟨w.heap.size + 1, 6, none⟩ = some (.slice A2 m2 c2)) (by kernel_rfl) ⟨u0, u1, u2, u3, u4, u5, u6, v0, v1, v2, v3, v4, v5, v6⟩ (fun hHeld => ?_)
  refine take_d (i := 0) (d := 7) (v := ?_) rfl rfl (by kernel_rfl) (by kernel_rfl) (by kernel_rfl) (fun _ _ _ h => h) (Or.inl ⟨by rfl, ?_⟩) (by assumption) ?_
  rotate_left
  · intro w hSw; (try dsimp only at hSw); go_simp; (try with_reducible rfl)
  try simp only [Act.put, List.setIfInBounds_toArray, List.set_cons_zero, List.set_cons_succ]
  refine take_d (i := 1) (d := 8) (v := ?_) rfl rfl (by kernel_rfl) (by kernel_rfl) (by kernel_rfl) (fun _ _ _ h => h) (Or.inl ⟨by rfl, ?_⟩) (by assumption) ?_
  rotate_left
  · intro w hSw; (try dsimp only at hSw); go_simp; (try with_reducible rfl)
  try simp only [Act.put, List.setIfInBounds_toArray, List.set_cons_zero, List.set_cons_succ]
  refine take_d (i := 3) (d := 10) (v := ?_) rfl rfl (by kernel_rfl) (by kernel_rfl) (by kernel_rfl) (fun _ _ _ h => h) (Or.inl ⟨by rfl, ?_⟩) (by assumption) ?_
  rotate_left
  · intro w hSw; (try dsimp only at hSw); go_simp; (try with_reducible rfl)
  try simp only [Act.put, List.setIfInBounds_toArray, List.set_cons_zero, List.set_cons_succ]
  refine wpAnyH_ready (rs := [2]) (by kernel_rfl) (by simp) ?_
  refine AllReadyH.cons rfl (fun K hK => ?_) AllReadyH.nil
  go_simp
  go_at_call 44
  refine (H1.out _ t0d).mono ?_
  rintro e w1 ⟨x1, rfl, hx1, t1⟩
  obtain ⟨⟨k3, nm3, ⟨vk3, vn3, vt3⟩, op3⟩, A3, m3, c3⟩ := x1
  dsimp only
  have uu0 := t1.cell u0 (by simp)
  have uu1 := t1.cell u1 (by simp)
  have uu2 := t1.cell u2 (by simp)
  have uu3 := t1.cell u3 (by simp)
  have uu4 := t1.cell u4 (by simp)
  have uu5 := t1.cell u5 (by simp)
  have uu6 := t1.cell u6 (by simp)
  have vv0 := t1.cell v0 (by simp)
  have vv1 := t1.cell v1 (by simp)
  have vv2 := t1.cell v2 (by simp)
  have vv3 := t1.cell v3 (by simp)
  have vv4 := t1.cell v4 (by simp)
  have vv5 := t1.cell v5 (by simp)
  have vv6 := t1.cell v6 (by simp)
  (try go_wp2_with fail)
  refine hK.out _ _ ⟨uu0, uu1, uu2, uu3, uu4, uu5, uu6, vv0, vv1, vv2, vv3, vv4, vv5, vv6⟩ (fun _hH => ?_)
  clear hK K
  try simp only [Act.put, List.setIfInBounds_toArray, List.set_cons_zero, List.set_cons_succ]
  refine wpAnyH_ready (rs := [4]) (by kernel_rfl) (by simp) ?_
  refine AllReadyH.cons rfl (fun K hK => ?_) AllReadyH.nil
  go_simp
  go_at_call 44
  refine (H2.out _ (t0d.trans0 t1)).mono ?_
  rintro e w2 ⟨x2, rfl, hx2, t2⟩
  obtain ⟨⟨k4, nm4, ⟨vk4, vn4, vt4⟩, op4⟩, A4, m4, c4⟩ := x2
  dsimp only
  have ux0 := t2.cell uu0 (by simp)
  have ux1 := t2.cell uu1 (by simp)
  have ux2 := t2.cell uu2 (by simp)
  have ux3 := t2.cell uu3 (by simp)
  have ux4 := t2.cell uu4 (by simp)
  have ux5 := t2.cell uu5 (by simp)
  have ux6 := t2.cell uu6 (by simp)
  have vx0 := t2.cell vv0 (by simp)
  have vx1 := t2.cell vv1 (by simp)
  have vx2 := t2.cell vv2 (by simp)
  have vx3 := t2.cell vv3 (by simp)
  have vx4 := t2.cell vv4 (by simp)
  have vx5 := t2.cell vv5 (by simp)
  have vx6 := t2.cell vv6 (by simp)
  have tb := (Touch.refl [] w2).alloc (.cells #[.int .i64 k3, .string nm3, .int .i64 vk3, .int .i64 vn3, .string vt3, .string op3, .slice A3 m3 c3, .int .i64 k4, .string nm4, .int .i64 vk4, .int .i64 vn4, .string vt4, .string op4, .slice A4 m4 c4] 33)
  have uy0 := tb.cell ux0 (by simp)
  have uy1 := tb.cell ux1 (by simp)
  have uy2 := tb.cell ux2 (by simp)
  have uy3 := tb.cell ux3 (by simp)
  have uy4 := tb.cell ux4 (by simp)
  have uy5 := tb.cell ux5 (by simp)
  have uy6 := tb.cell ux6 (by simp)
  have vy0 := tb.cell vx0 (by simp)
  have vy1 := tb.cell vx1 (by simp)
  have vy2 := tb.cell vx2 (by simp)
  have vy3 := tb.cell vx3 (by simp)
  have vy4 := tb.cell vx4 (by simp)
  have vy5 := tb.cell vx5 (by simp)
  have vy6 := tb.cell vx6 (by simp)
  (try go_wp2_with fail)
  refine hK.out _ _ ⟨ux0, ux1, ux2, ux3, ux4, ux5, ux6, vx0, vx1, vx2, vx3, vx4, vx5, vx6⟩ (fun _hH => ?_)
  clear hK K
  try simp only [Act.put, List.setIfInBounds_toArray, List.set_cons_zero, List.set_cons_succ]
  refine wpAnyH_ready (rs := [5]) (by kernel_rfl) (by simp) ?_
  refine AllReadyH.cons rfl (fun K hK => ?_) AllReadyH.nil
  go_simp
  (try go_wp2_with fail)
  refine hK.out _ _ ⟨uy0, uy1, uy2, uy3, uy4, uy5, uy6, vy0, vy1, vy2, vy3, vy4, vy5, vy6⟩ (fun _hH => ?_)
  clear hK K
  try simp only [Act.put, List.setIfInBounds_toArray, List.set_cons_zero, List.set_cons_succ]
  refine take_d (i := 6) (d := 13) (v := ?_) rfl rfl (by kernel_rfl) (by kernel_rfl) (by kernel_rfl) (fun _ _ _ h => h) (Or.inl ⟨by rfl, ?_⟩) (by assumption) ?_
  rotate_left
  · intro w hSw; (try dsimp only at hSw); go_simp; (try with_reducible rfl)
  try simp only [Act.put, List.setIfInBounds_toArray, List.set_cons_zero, List.set_cons_succ]
  have hb2 := tb.blk (t2.blk (t1.blk Hbr.out (by simp)) (by simp)) (by simp)
  obtain ⟨e0, e1, e2, e3, e4, e5, e6, g0, g1, g2, g3, g4, g5, g6⟩ := blk7 hb2
  obtain ⟨q1, q2⟩ := out7 hb2 (.int .i64 4) (.string ⟨#[]⟩) (.int .i64 0) (.int .i64 0) (.string ⟨#[]⟩) (.string op) (.slice (some ⟨w2.heap.size, 0, none⟩) 2 2)
  have uz0 := q2.cell uy0 (by simp only [List.mem_singleton]; omega)
  have uz1 := q2.cell uy1 (by simp only [List.mem_singleton]; omega)
  have uz2 := q2.cell uy2 (by simp only [List.mem_singleton]; omega)
  have uz3 := q2.cell uy3 (by simp only [List.mem_singleton]; omega)
  have uz4 := q2.cell uy4 (by simp only [List.mem_singleton]; omega)
  have uz5 := q2.cell uy5 (by simp only [List.mem_singleton]; omega)
  have uz6 := q2.cell uy6 (by simp only [List.mem_singleton]; omega)
  have vz0 := q2.cell vy0 (by simp only [List.mem_singleton]; omega)
  have vz1 := q2.cell vy1 (by simp only [List.mem_singleton]; omega)
  have vz2 := q2.cell vy2 (by simp only [List.mem_singleton]; omega)
  have vz3 := q2.cell vy3 (by simp only [List.mem_singleton]; omega)
  have vz4 := q2.cell vy4 (by simp only [List.mem_singleton]; omega)
  have vz5 := q2.cell vy5 (by simp only [List.mem_singleton]; omega)
  have vz6 := q2.cell vy6 (by simp only [List.mem_singleton]; omega)
  refine wpAnyH_ready (rs := [7]) (by kernel_rfl) (by simp) ?_
  refine AllReadyH.cons rfl (fun K hK => ?_) AllReadyH.nil
  go_simp
  (try go_wp2_with fail)
  refine hK.out _ _ ⟨uz0, uz1, uz2, uz3, uz4, uz5, uz6, vz0, vz1, vz2, vz3, vz4, vz5, vz6⟩ (fun _hH => ?_)
  clear hK K
  try simp only [Act.put, List.setIfInBounds_toArray, List.set_cons_zero, List.set_cons_succ]
  refine wpAnyH_done (by kernel_rfl) ?_ _
  go_wp2_with fail
  have s1 := t1.size
  have s2 := t2.size
  simp only [World.size_drew, World.size_alloc] at s1
  refine bodyPost_ret (results_cell_row rfl _ _ (w.heap.size + 1 + 1) _ _ _ _ rfl q1 Try.underlying33 rfl rfl) rfl ⟨⟨⟨4, ⟨#[]⟩, ⟨0, 0, ⟨#[]⟩⟩, op⟩, some ⟨w2.heap.size, 0, none⟩, 2, 2⟩, rfl, ?_, (((t0d.trans0 t1).trans0 t2).trans0 tb).trans q2 (fun b hb => .inr (by simp at hb; omega))⟩
  have sq := q2.size
  simp only [World.size_alloc] at sq
  refine ⟨rfl, rfl, fun b hb => ?_, [⟨⟨k3, nm3, ⟨vk3, vn3, vt3⟩, op3⟩, A3, m3, c3⟩, ⟨⟨k4, nm4, ⟨vk4, vn4, vt4⟩, op4⟩, A4, m4, c4⟩], rfl, RdK.touch (RdK.row w2 33 [(⟨⟨k3, nm3, ⟨vk3, vn3, vt3⟩, op3⟩, A3, m3, c3⟩ : XC), ⟨⟨k4, nm4, ⟨vk4, vn4, vt4⟩, op4⟩, A4, m4, c4⟩] _ rfl) q2 (by simp [fpo]; omega), fun i a1 b1 => ?_⟩
  · simp [fpo] at hb
    subst hb
    exact ⟨by omega, by omega⟩
  · have hi : i = 0 ∨ i = 1 := by simp at a1; omega
    rcases hi with rfl | rfl
    · exact (((hx1.touch0 t2).touch0 tb).touch q2 (fun b hb hp => by simp at hb; have := hp.1; simp at this; omega)).mono fun b hb => ⟨by have := hb.1; simp at this; omega, by have := hb.2; omega⟩
    · exact ((hx2.touch0 tb).touch q2 (fun b hb hp => by simp at hb; have := hp.1; omega)).mono fun b hb => ⟨by have := hb.1; omega, by have := hb.2; omega⟩
end Go.Proofs.Ytlkckkagoommaaa
