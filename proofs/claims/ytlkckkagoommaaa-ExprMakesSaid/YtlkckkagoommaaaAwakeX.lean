/- bywashlaw04.awake: the fixed answer stands. -/
import Derived.Test.YtlkckkagoommaaaOneX
import Derived.Test.YtlkckkagoommaaaCallX
import Derived.Test.YtlkckkagoommaaaTw
namespace Go.Proofs.Ytlkckkagoommaaa
open Go.RowKit
attribute [local go_sem ↓] Go.wp_at_zero Go.wp_at_succ

theorem okA : ∀ c ∈ csA, c.Ok := fun c hc => by
  rw [csA, List.mem_singleton] at hc
  subst hc
  exact ⟨by decide, by decide⟩
theorem okV (n : Int) (h : -9223372036854775808 ≤ n ∧ n ≤ 9223372036854775807) : ∀ v ∈ [ofV n], v.Ok 140737000000000 := fun v hv => by
  rw [List.mem_singleton] at hv
  subst hv
  exact ⟨(by decide : (-9223372036854775808 : Int) ≤ 1 ∧ (1 : Int) ≤ 9223372036854775807), h, Nat.zero_le _⟩
set_option maxRecDepth 100000 in
set_option maxHeartbeats 3200000 in
theorem awakeX_any (w : World) : Calls Try.prog 11 #[] w fun e w' => e = .returned (.bool true) ∧ Touch [] w w' := by
  have t0 := (Touch.refl [] w).alloc (.cells #[.string ⟨#[97]⟩, .int .i64 1] 45)
  have hcs : ColsAt (w.alloc (.cells #[.string ⟨#[97]⟩, .int .i64 1] 45)) (some ⟨w.heap.size, 0, none⟩) csA := RdK.row w 45 csA #[.string ⟨#[97]⟩, .int .i64 1] rfl
  have hof := fun n w' => of_any n w'
  go_enter Try.func11, Try.ntmps11
  go_wp2_with fail
  refine (columnX_any 0 (S [97]) _).mono ?_
  rintro e w1 ⟨x1, rfl, h1, u1⟩
  go_wp2_with fail
  refine (of_any 1 _).mono ?_
  rintro e w2 ⟨rfl, u2⟩
  go_wp2_with fail
  refine (constX_any 0 (ofV 1) _).mono ?_
  rintro e w3 ⟨x3, rfl, h3, u3⟩
  go_wp2_with fail
  refine (binaryX_any 1 (S [43]) _ _ x1 x3 _ ((h1.any.touch0 u2).touch0 u3) h3.any (by decide) (by decide)).mono ?_
  rintro e w4 ⟨x4, rfl, h4, u4⟩
  go_wp2_with fail
  refine (of_any 2 _).mono ?_
  rintro e w5 ⟨rfl, u5⟩
  go_wp2_with fail
  refine (one_any (ofV 2) _).mono ?_
  rintro e w6 ⟨⟨A6, rfl, h6⟩, u6⟩
  go_wp2_with fail
  have hev := topX_any 2 ((nd4 (S [43]), [((ndA, []) : TX 1), ((ndC (ofV 1), []) : TX 1)]) : TX 2) x4 (some ⟨w.heap.size, 0, none⟩) 1 1 csA rfl okA A6 1 1 [ofV 2] rfl (okV 2 (by decide)) w6 ((h4.any.touch0 u5).touch0 u6) ((((((hcs.touch0 u1).touch0 u2).touch0 u3).touch0 u4).touch0 u5).touch0 u6) h6 (by omega) (by omega) (by decide) (allX2 (Nat.zero_le _) (allX0 (Nat.zero_le _)) (allX0 (Nat.zero_le _)))
  rw [top1] at hev
  refine hev.mono ?_
  rintro e w7 ⟨rfl, u7⟩
  clear hev
  have tv := (Touch.refl [] w7).alloc (.cells #[.int .i64 1, .int .i64 3, .string ⟨#[]⟩] 30)
  have hv := heap_alloc_new w7 (.cells #[.int .i64 1, .int .i64 3, .string ⟨#[]⟩] 30)
  have TT1 := ((((((((t0.trans0 u1).trans0 u2).trans0 u3).trans0 u4).trans0 u5).trans0 u6).trans0 u7).trans0 tv)
  have hcs1 := ((((((((hcs.touch0 u1).touch0 u2).touch0 u3).touch0 u4).touch0 u5).touch0 u6).touch0 u7).touch0 tv)
  simp only [VD.val, ofV, S]
  go_wp2_with fail
  refine (columnX_any 0 (S [97]) _).mono ?_
  rintro e w8 ⟨x8, rfl, h8, u8⟩
  go_wp2_with fail
  refine (of_any 1 _).mono ?_
  rintro e w9 ⟨rfl, u9⟩
  go_wp2_with fail
  refine (constX_any 0 (ofV 1) _).mono ?_
  rintro e w10 ⟨x10, rfl, h10, u10⟩
  go_wp2_with fail
  refine (binaryX_any 1 (S [62]) _ _ x8 x10 _ ((h8.any.touch0 u9).touch0 u10) h10.any (by decide) (by decide)).mono ?_
  rintro e w11 ⟨x11, rfl, h11, u11⟩
  go_wp2_with fail
  refine (of_any 1 _).mono ?_
  rintro e w12 ⟨rfl, u12⟩
  go_wp2_with fail
  refine (constX_any 0 (ofV 1) _).mono ?_
  rintro e w13 ⟨x13, rfl, h13, u13⟩
  go_wp2_with fail
  refine (of_any 0 _).mono ?_
  rintro e w14 ⟨rfl, u14⟩
  go_wp2_with fail
  refine (constX_any 0 (ofV 0) _).mono ?_
  rintro e w15 ⟨x15, rfl, h15, u15⟩
  go_wp2_with fail
  refine (binaryX_any 1 (S [47]) _ _ x13 x15 _ ((h13.any.touch0 u14).touch0 u15) h15.any (by decide) (by decide)).mono ?_
  rintro e w16 ⟨x16, rfl, h16, u16⟩
  go_wp2_with fail
  refine (of_any 5 _).mono ?_
  rintro e w17 ⟨rfl, u17⟩
  go_wp2_with fail
  refine (constX_any 1 (ofV 5) _).mono ?_
  rintro e w18 ⟨x18, rfl, h18, u18⟩
  have g1 := (((((((h11.any.touch0 u12).touch0 u13).touch0 u14).touch0 u15).touch0 u16).touch0 u17).touch0 u18)
  have g2 := ((h16.any.touch0 u17).touch0 u18)
  have g3 := h18.any
  clear h8 h10 h11 h13 h15 h16 h18
  obtain ⟨⟨k1, nm1, ⟨vk1, vn1, vt1⟩, op1⟩, B1, m1, c1⟩ := x11
  obtain ⟨⟨k2, nm2, ⟨vk2, vn2, vt2⟩, op2⟩, B2, m2, c2⟩ := x16
  obtain ⟨⟨k3, nm3, ⟨vk3, vn3, vt3⟩, op3⟩, B3, m3, c3⟩ := x18
  have tr := (Touch.refl [] w18).alloc (.cells #[.int .i64 k1, .string nm1, .int .i64 vk1, .int .i64 vn1, .string vt1, .string op1, .slice B1 m1 c1, .int .i64 k2, .string nm2, .int .i64 vk2, .int .i64 vn2, .string vt2, .string op2, .slice B2 m2 c2, .int .i64 k3, .string nm3, .int .i64 vk3, .int .i64 vn3, .string vt3, .string op3, .slice B3 m3 c3] 33)
  have hargs : ArgsP xcE anyB 2 (w18.alloc (.cells #[.int .i64 k1, .string nm1, .int .i64 vk1, .int .i64 vn1, .string vt1, .string op1, .slice B1 m1 c1, .int .i64 k2, .string nm2, .int .i64 vk2, .int .i64 vn2, .string vt2, .string op2, .slice B2 m2 c2, .int .i64 k3, .string nm3, .int .i64 vk3, .int .i64 vn3, .string vt3, .string op3, .slice B3 m3 c3] 33)) (some ⟨w18.heap.size, 0, none⟩) [((nd4 (S [62]), [((ndA, []) : TX 1), ((ndC (ofV 1), []) : TX 1)]) : TX 2), ((nd4 (S [47]), [((ndC (ofV 1), []) : TX 1), ((ndC (ofV 0), []) : TX 1)]) : TX 2), ((ndC (ofV 5), []) : TX 2)] := ⟨[(⟨⟨k1, nm1, ⟨vk1, vn1, vt1⟩, op1⟩, B1, m1, c1⟩ : XC), (⟨⟨k2, nm2, ⟨vk2, vn2, vt2⟩, op2⟩, B2, m2, c2⟩ : XC), (⟨⟨k3, nm3, ⟨vk3, vn3, vt3⟩, op3⟩, B3, m3, c3⟩ : XC)], rfl, RdK.row w18 33 [(⟨⟨k1, nm1, ⟨vk1, vn1, vt1⟩, op1⟩, B1, m1, c1⟩ : XC), (⟨⟨k2, nm2, ⟨vk2, vn2, vt2⟩, op2⟩, B2, m2, c2⟩ : XC), (⟨⟨k3, nm3, ⟨vk3, vn3, vt3⟩, op3⟩, B3, m3, c3⟩ : XC)] _ rfl, fun i a1 a2 => by
    match i, a1 with
    | 0, _ => exact g1.touch0 tr
    | 1, _ => exact g2.touch0 tr
    | 2, _ => exact g3.touch0 tr⟩
  dsimp only [XC.val]
  go_wp2_with fail
  refine (callX_any 2 [((nd4 (S [62]), [((ndA, []) : TX 1), ((ndC (ofV 1), []) : TX 1)]) : TX 2), ((nd4 (S [47]), [((ndC (ofV 1), []) : TX 1), ((ndC (ofV 0), []) : TX 1)]) : TX 2), ((ndC (ofV 5), []) : TX 2)] (S [105, 102]) (some ⟨w18.heap.size, 0, none⟩) 3 3 rfl _ hargs (by decide)).mono ?_
  rintro e w19 ⟨x19, rfl, h19, u19⟩
  go_wp2_with fail
  refine (of_any 1 _).mono ?_
  rintro e w20 ⟨rfl, u20⟩
  go_wp2_with fail
  refine (one_any (ofV 1) _).mono ?_
  rintro e w21 ⟨⟨A21, rfl, h21⟩, u21⟩
  go_wp2_with fail
  have hev := topX_any 3 ((⟨5, S [105, 102], ⟨0, 0, ⟨#[]⟩⟩, ⟨#[]⟩⟩, [((nd4 (S [62]), [((ndA, []) : TX 1), ((ndC (ofV 1), []) : TX 1)]) : TX 2), ((nd4 (S [47]), [((ndC (ofV 1), []) : TX 1), ((ndC (ofV 0), []) : TX 1)]) : TX 2), ((ndC (ofV 5), []) : TX 2)]) : TX 3) x19 (some ⟨w.heap.size, 0, none⟩) 1 1 csA rfl okA A21 1 1 [ofV 1] rfl (okV 1 (by decide)) w21 ((h19.any.touch0 u20).touch0 u21) (((((((((((((((hcs1.touch0 u8).touch0 u9).touch0 u10).touch0 u11).touch0 u12).touch0 u13).touch0 u14).touch0 u15).touch0 u16).touch0 u17).touch0 u18).touch0 tr).touch0 u19).touch0 u20).touch0 u21) h21 (by omega) (by omega) (by decide) (allX3 (Nat.zero_le _) (allX2 (Nat.zero_le _) (allX0 (Nat.zero_le _)) (allX0 (Nat.zero_le _))) (allX2 (Nat.zero_le _) (allX0 (Nat.zero_le _)) (allX0 (Nat.zero_le _))) (allX0 (Nat.zero_le _)))
  rw [top2] at hev
  refine hev.mono ?_
  rintro e w22 ⟨rfl, u22⟩
  clear hev
  have tz := (Touch.refl [] w22).alloc (.cells #[.int .i64 1, .int .i64 5, .string ⟨#[]⟩] 30)
  have hz := heap_alloc_new w22 (.cells #[.int .i64 1, .int .i64 5, .string ⟨#[]⟩] 30)
  have hvl := (tz.blk (u22.blk (u21.blk (u20.blk (u19.blk (tr.blk (u18.blk (u17.blk (u16.blk (u15.blk (u14.blk (u13.blk (u12.blk (u11.blk (u10.blk (u9.blk (u8.blk hv (by simp)) (by simp)) (by simp)) (by simp)) (by simp)) (by simp)) (by simp)) (by simp)) (by simp)) (by simp)) (by simp)) (by simp)) (by simp)) (by simp)) (by simp)) (by simp)) (by simp))
  have TT2 := (((((((((((((((((TT1.trans0 u8).trans0 u9).trans0 u10).trans0 u11).trans0 u12).trans0 u13).trans0 u14).trans0 u15).trans0 u16).trans0 u17).trans0 u18).trans0 tr).trans0 u19).trans0 u20).trans0 u21).trans0 u22).trans0 tz)
  obtain ⟨W, hW⟩ : ∃ W, W = w22.alloc (.cells #[.int .i64 1, .int .i64 5, .string ⟨#[]⟩] 30) := ⟨_, rfl⟩
  rw [← hW] at hz hvl TT2
  obtain ⟨a0, a1, a2, _⟩ := blk3 hvl
  obtain ⟨b0, b1, b2, _⟩ := blk3 hz
  have g0 := TW.cell a0
  have g1 := TW.cell a1
  have g2 := TW.cell a2
  have g3 := TW.cell b0
  have g4 := TW.cell b1
  have g5 := TW.cell b2
  have Hof := Lib.hid hof
  clear hof
  simp only [VD.val, ofV, S] at Hof ⊢
  have HW := Lib.hid hW
  clear hW
  go_wp2
  rw [← HW.out]
  refine wp_region_tw W (Touch.refl _ _) (by kernel_rfl) (by kernel_rfl) ?_
  repeat (go_big_quiet_step (((go_at_call 23; exact Calls.tw _ (Hof.out _ _)))))
  refine wpQuiet_nil ?_
  rintro _ ⟨z, rfl⟩
  go_wp2
  go_ret
  exact ⟨rfl, TT2.trans0 z.t⟩
end Go.Proofs.Ytlkckkagoommaaa
