/- Part 10 of the texts of this proof, one behind the other; each begins with its own sentence. No condition beyond those that its theorems state. -/
import Derived.Test.YtlkckkagoommaaaEt9
import Derived.ProofKit
import Derived.Deep.Slices
import Derived.Deep.Fields
import Derived.ChangeSame
import Derived.ChangeArms
/- bywashlaw04.awake: the fixed answer stands. -/
namespace Go.Proofs.Ytlkckkagoommaaa
open Go.RowKit
attribute [local go_sem ↓] Go.wp_at_zero Go.wp_at_succ

theorem okA : ∀ c ∈ csA, c.Ok := fun c hc => by
  rw [csA, List.mem_singleton] at hc
  subst hc
  exact ⟨by decide, by decide⟩
theorem okV (n : Int) (h : -9223372036854775808 ≤ n ∧ n ≤ 9223372036854775807) : ∀ v ∈ [ofV n], v.Ok 140737000000000 := fun v hv => by
  rw [List.mem_singleton] at hv
  subst hv
  exact ⟨(by decide : (-9223372036854775808 : Int) ≤ 1 ∧ (1 : Int) ≤ 9223372036854775807), h, Nat.zero_le _⟩
set_option maxRecDepth 100000 in
set_option maxHeartbeats 3200000 in
theorem awakeX_any (w : World) : Calls Try.prog 11 #[] w fun e w' => e = .returned (.bool true) ∧ Touch [] w w' := by
  have t0 := (Touch.refl [] w).alloc (.cells #[.string ⟨#[97]⟩, .int .i64 1] 45)
  have hcs : ColsAt (w.alloc (.cells #[.string ⟨#[97]⟩, .int .i64 1] 45)) (some ⟨w.heap.size, 0, none⟩) csA := RdK.row w 45 csA #[.string ⟨#[97]⟩, .int .i64 1] rfl
  have hof := fun n w' => of_any n w'
  go_enter Try.func11, Try.ntmps11
  go_wp2_with fail
  refine (columnX_any 0 (S [97]) _).mono ?_
  rintro e w1 ⟨x1, rfl, h1, u1⟩
  go_wp2_with fail
  refine (of_any 1 _).mono ?_
  rintro e w2 ⟨rfl, u2⟩
  go_wp2_with fail
  refine (constX_any 0 (ofV 1) _).mono ?_
  rintro e w3 ⟨x3, rfl, h3, u3⟩
  go_wp2_with fail
  refine (binaryX_any 1 (S [43]) _ _ x1 x3 _ ((h1.any.touch0 u2).touch0 u3) h3.any (by decide) (by decide)).mono ?_
  rintro e w4 ⟨x4, rfl, h4, u4⟩
  go_wp2_with fail
  refine (of_any 2 _).mono ?_
  rintro e w5 ⟨rfl, u5⟩
  go_wp2_with fail
  refine (one_any (ofV 2) _).mono ?_
  rintro e w6 ⟨⟨A6, rfl, h6⟩, u6⟩
  go_wp2_with fail
  have hev := topX_any 2 ((nd4 (S [43]), [((ndA, []) : TX 1), ((ndC (ofV 1), []) : TX 1)]) : TX 2) x4 (some ⟨w.heap.size, 0, none⟩) 1 1 csA rfl okA A6 1 1 [ofV 2] rfl (okV 2 (by decide)) w6 ((h4.any.touch0 u5).touch0 u6) ((((((hcs.touch0 u1).touch0 u2).touch0 u3).touch0 u4).touch0 u5).touch0 u6) h6 (by omega) (by omega) (by decide) (allX2 (Nat.zero_le _) (allX0 (Nat.zero_le _)) (allX0 (Nat.zero_le _)))
  rw [top1] at hev
  refine hev.mono ?_
  rintro e w7 ⟨rfl, u7⟩
  clear hev
  have tv := (Touch.refl [] w7).alloc (.cells #[.int .i64 1, .int .i64 3, .string ⟨#[]⟩] 30)
  have hv := heap_alloc_new w7 (.cells #[.int .i64 1, .int .i64 3, .string ⟨#[]⟩] 30)
  have TT1 := ((((((((t0.trans0 u1).trans0 u2).trans0 u3).trans0 u4).trans0 u5).trans0 u6).trans0 u7).trans0 tv)
  have hcs1 := ((((((((hcs.touch0 u1).touch0 u2).touch0 u3).touch0 u4).touch0 u5).touch0 u6).touch0 u7).touch0 tv)
  simp only [VD.val, ofV, S]
  go_wp2_with fail
  refine (columnX_any 0 (S [97]) _).mono ?_
  rintro e w8 ⟨x8, rfl, h8, u8⟩
  go_wp2_with fail
  refine (of_any 1 _).mono ?_
  rintro e w9 ⟨rfl, u9⟩
  go_wp2_with fail
  refine (constX_any 0 (ofV 1) _).mono ?_
  rintro e w10 ⟨x10, rfl, h10, u10⟩
  go_wp2_with fail
  refine (binaryX_any 1 (S [62]) _ _ x8 x10 _ ((h8.any.touch0 u9).touch0 u10) h10.any (by decide) (by decide)).mono ?_
  rintro e w11 ⟨x11, rfl, h11, u11⟩
  go_wp2_with fail
  refine (of_any 1 _).mono ?_
  rintro e w12 ⟨rfl, u12⟩
  go_wp2_with fail
  refine (constX_any 0 (ofV 1) _).mono ?_
  rintro e w13 ⟨x13, rfl, h13, u13⟩
  go_wp2_with fail
  refine (of_any 0 _).mono ?_
  rintro e w14 ⟨rfl, u14⟩
  go_wp2_with fail
  refine (constX_any 0 (ofV 0) _).mono ?_
  rintro e w15 ⟨x15, rfl, h15, u15⟩
  go_wp2_with fail
  refine (binaryX_any 1 (S [47]) _ _ x13 x15 _ ((h13.any.touch0 u14).touch0 u15) h15.any (by decide) (by decide)).mono ?_
  rintro e w16 ⟨x16, rfl, h16, u16⟩
  go_wp2_with fail
  refine (of_any 5 _).mono ?_
  rintro e w17 ⟨rfl, u17⟩
  go_wp2_with fail
  refine (constX_any 1 (ofV 5) _).mono ?_
  rintro e w18 ⟨x18, rfl, h18, u18⟩
  have g1 := (((((((h11.any.touch0 u12).touch0 u13).touch0 u14).touch0 u15).touch0 u16).touch0 u17).touch0 u18)
  have g2 := ((h16.any.touch0 u17).touch0 u18)
  have g3 := h18.any
  clear h8 h10 h11 h13 h15 h16 h18
  obtain ⟨⟨k1, nm1, ⟨vk1, vn1, vt1⟩, op1⟩, B1, m1, c1⟩ := x11
  obtain ⟨⟨k2, nm2, ⟨vk2, vn2, vt2⟩, op2⟩, B2, m2, c2⟩ := x16
  obtain ⟨⟨k3, nm3, ⟨vk3, vn3, vt3⟩, op3⟩, B3, m3, c3⟩ := x18
  have tr := (Touch.refl [] w18).alloc (.cells #[.int .i64 k1, .string nm1, .int .i64 vk1, .int .i64 vn1, .string vt1, .string op1, .slice B1 m1 c1, .int .i64 k2, .string nm2, .int .i64 vk2, .int .i64 vn2, .string vt2, .string op2, .slice B2 m2 c2, .int .i64 k3, .string nm3, .int .i64 vk3, .int .i64 vn3, .string vt3, .string op3, .slice B3 m3 c3] 33)
  have hargs : ArgsP xcE anyB 2 (w18.alloc (.cells #[.int .i64 k1, .string nm1, .int .i64 vk1, .int .i64 vn1, .string vt1, .string op1, .slice B1 m1 c1, .int .i64 k2, .string nm2, .int .i64 vk2, .int .i64 vn2, .string vt2, .string op2, .slice B2 m2 c2, .int .i64 k3, .string nm3, .int .i64 vk3, .int .i64 vn3, .string vt3, .string op3, .slice B3 m3 c3] 33)) (some ⟨w18.heap.size, 0, none⟩) [((nd4 (S [62]), [((ndA, []) : TX 1), ((ndC (ofV 1), []) : TX 1)]) : TX 2), ((nd4 (S [47]), [((ndC (ofV 1), []) : TX 1), ((ndC (ofV 0), []) : TX 1)]) : TX 2), ((ndC (ofV 5), []) : TX 2)] := ⟨[(⟨⟨k1, nm1, ⟨vk1, vn1, vt1⟩, op1⟩, B1, m1, c1⟩ : XC), (⟨⟨k2, nm2, ⟨vk2, vn2, vt2⟩, op2⟩, B2, m2, c2⟩ : XC), (⟨⟨k3, nm3, ⟨vk3, vn3, vt3⟩, op3⟩, B3, m3, c3⟩ : XC)], rfl, RdK.row w18 33 [(⟨⟨k1, nm1, ⟨vk1, vn1, vt1⟩, op1⟩, B1, m1, c1⟩ : XC), (⟨⟨k2, nm2, ⟨vk2, vn2, vt2⟩, op2⟩, B2, m2, c2⟩ : XC), (⟨⟨k3, nm3, ⟨vk3, vn3, vt3⟩, op3⟩, B3, m3, c3⟩ : XC)] _ rfl, fun i a1 a2 => by
    match i, a1 with
    | 0, _ => exact g1.touch0 tr
    | 1, _ => exact g2.touch0 tr
    | 2, _ => exact g3.touch0 tr⟩
  dsimp only [XC.val]
  go_wp2_with fail
  refine (callX_any 2 [((nd4 (S [62]), [((ndA, []) : TX 1), ((ndC (ofV 1), []) : TX 1)]) : TX 2), ((nd4 (S [47]), [((ndC (ofV 1), []) : TX 1), ((ndC (ofV 0), []) : TX 1)]) : TX 2), ((ndC (ofV 5), []) : TX 2)] (S [105, 102]) (some ⟨w18.heap.size, 0, none⟩) 3 3 rfl _ hargs (by decide)).mono ?_
  rintro e w19 ⟨x19, rfl, h19, u19⟩
  go_wp2_with fail
  refine (of_any 1 _).mono ?_
  rintro e w20 ⟨rfl, u20⟩
  go_wp2_with fail
  refine (one_any (ofV 1) _).mono ?_
  rintro e w21 ⟨⟨A21, rfl, h21⟩, u21⟩
  go_wp2_with fail
  have hev := topX_any 3 ((⟨5, S [105, 102], ⟨0, 0, ⟨#[]⟩⟩, ⟨#[]⟩⟩, [((nd4 (S [62]), [((ndA, []) : TX 1), ((ndC (ofV 1), []) : TX 1)]) : TX 2), ((nd4 (S [47]), [((ndC (ofV 1), []) : TX 1), ((ndC (ofV 0), []) : TX 1)]) : TX 2), ((ndC (ofV 5), []) : TX 2)]) : TX 3) x19 (some ⟨w.heap.size, 0, none⟩) 1 1 csA rfl okA A21 1 1 [ofV 1] rfl (okV 1 (by decide)) w21 ((h19.any.touch0 u20).touch0 u21) (((((((((((((((hcs1.touch0 u8).touch0 u9).touch0 u10).touch0 u11).touch0 u12).touch0 u13).touch0 u14).touch0 u15).touch0 u16).touch0 u17).touch0 u18).touch0 tr).touch0 u19).touch0 u20).touch0 u21) h21 (by omega) (by omega) (by decide) (allX3 (Nat.zero_le _) (allX2 (Nat.zero_le _) (allX0 (Nat.zero_le _)) (allX0 (Nat.zero_le _))) (allX2 (Nat.zero_le _) (allX0 (Nat.zero_le _)) (allX0 (Nat.zero_le _))) (allX0 (Nat.zero_le _)))
  rw [top2] at hev
  refine hev.mono ?_
  rintro e w22 ⟨rfl, u22⟩
  clear hev
  have tz := (Touch.refl [] w22).alloc (.cells #[.int .i64 1, .int .i64 5, .string ⟨#[]⟩] 30)
  have hz := heap_alloc_new w22 (.cells #[.int .i64 1, .int .i64 5, .string ⟨#[]⟩] 30)
  have hvl := (tz.blk (u22.blk (u21.blk (u20.blk (u19.blk (tr.blk (u18.blk (u17.blk (u16.blk (u15.blk (u14.blk (u13.blk (u12.blk (u11.blk (u10.blk (u9.blk (u8.blk hv (by simp)) (by simp)) (by simp)) (by simp)) (by simp)) (by simp)) (by simp)) (by simp)) (by simp)) (by simp)) (by simp)) (by simp)) (by simp)) (by simp)) (by simp)) (by simp)) (by simp))
  have TT2 := (((((((((((((((((TT1.trans0 u8).trans0 u9).trans0 u10).trans0 u11).trans0 u12).trans0 u13).trans0 u14).trans0 u15).trans0 u16).trans0 u17).trans0 u18).trans0 tr).trans0 u19).trans0 u20).trans0 u21).trans0 u22).trans0 tz)
  obtain ⟨W, hW⟩ : ∃ W, W = w22.alloc (.cells #[.int .i64 1, .int .i64 5, .string ⟨#[]⟩] 30) := ⟨_, rfl⟩
  rw [← hW] at hz hvl TT2
  obtain ⟨a0, a1, a2, _⟩ := blk3 hvl
  obtain ⟨b0, b1, b2, _⟩ := blk3 hz
  have g0 := TW.cell a0
  have g1 := TW.cell a1
  have g2 := TW.cell a2
  have g3 := TW.cell b0
  have g4 := TW.cell b1
  have g5 := TW.cell b2
  have Hof := Lib.hid hof
  clear hof
  simp only [VD.val, ofV, S] at Hof ⊢
  have HW := Lib.hid hW
  clear hW
  go_wp2
  rw [← HW.out]
  refine wp_region_tw W (Touch.refl _ _) (by kernel_rfl) (by kernel_rfl) ?_
  repeat (go_big_quiet_step (((go_at_call 23; exact Calls.tw _ (Hof.out _ _)))))
  refine wpQuiet_nil ?_
  rintro _ ⟨z, rfl⟩
  go_wp2
  go_ret
  exact ⟨rfl, TT2.trans0 z.t⟩
end Go.Proofs.Ytlkckkagoommaaa

/- Slices of columns, of values, of texts that came in, as the walks take them. -/
namespace Go.Proofs.Ytlkckkagoommaaa
open Go.RowKit Go.ChangeShapes Go.WideShapes Go.Deep

section
variable {H : Type} {enc : TypeId × Value → H} {P : Program} {w : World} {base : Nat} {spare : Nat → Bool} {held : Bool}
theorem open_slice_rows {t e : TypeId} {fs : Array Field} {fuel : Nat} {cs : List Value} {x : DataW H × List MemPlace} (ht : P.underlying t = some (.slice e)) (he : P.underlying e = some (.struct fs))
    (hone : oneCellFields P fs = true) (hC : P.cellsOf e = fs.size) (h : DataW.trod enc P w base spare held fuel t cs = some x) :
    cs = [.slice none 0 0] ∨
    ∃ (a : Addr) (len cap : Nat), cs = [.slice (some a) len cap] ∧ len ≤ cap ∧ cap ≤ maxLen ∧
      ∀ i, i < len → ∃ n : Nat, ∀ (j : Nat) (f : Field), fs[j]? = some f → ∃ (v : Value) (y : DataW H × List MemPlace), w.cell? (a.add (i * fs.size + j)) = some v ∧ DataW.trod enc P w base spare held n f.type [v] = some y := by
  rcases open_slice ht h with h0 | ⟨a, len, cap, m, n, D, Pl, hcs, hb, hl, hm, hmm, hx, hi⟩
  · exact .inl h0.1
  · refine .inr ⟨a, len, cap, hcs, hl, hm, fun i him => ?_⟩
    have hlm : len ≤ m := by rw [hmm]; split <;> omega
    obtain ⟨cs', hc, ht'⟩ := hi i (by omega)
    rw [hC] at hc
    obtain ⟨ys, n', hn', hy, hlen, hyl, hf⟩ := DataW.trod_struct he ht'
    obtain ⟨_, hcl, hat⟩ := World.cells?_some hc
    refine ⟨n', fun j f hj => ?_⟩
    obtain ⟨ho, hk⟩ := hone_of hone j f hj
    have hjl : j < fs.size := (Array.getElem?_eq_some_iff.1 hj).1
    have hcell := hat j hjl
    have hv : cs'[j]? = some (cs'[j]'(by omega)) := List.getElem?_eq_getElem (by omega)
    have h1 := hf j f hj
    rw [ho, hk] at h1
    have hone' : (cs'.drop j).take 1 = [cs'[j]'(by omega)] := by
      rw [List.drop_eq_getElem_cons (by omega)]
      rfl
    rw [hone'] at h1
    have hys : ys[j]? = some (ys[j]'(by omega)) := List.getElem?_eq_getElem (by omega)
    refine ⟨_, _, ?_, h1.trans hys⟩
    rw [← Go.Deep.add_add, hcell, hv]
theorem open_slice_structs {t e : TypeId} {fs : Array Field} {fuel C : Nat} {cs : List Value} {x : DataW H × List MemPlace} (ht : P.underlying t = some (.slice e)) (he : P.underlying e = some (.struct fs)) (hC : P.cellsOf e = C) (h : DataW.trod enc P w base spare held fuel t cs = some x) :
    cs = [.slice none 0 0] ∨
    ∃ (a : Addr) (len cap : Nat), cs = [.slice (some a) len cap] ∧ len ≤ cap ∧ cap ≤ maxLen ∧
      ∀ i, i < len → ∃ (vs : List Value) (n : Nat), vs.length = C ∧ (∀ j, j < C → w.cell? (a.add (i * C + j)) = vs[j]?) ∧
        ∀ (j : Nat) (f : Field), fs[j]? = some f → ∃ y : DataW H × List MemPlace, DataW.trod enc P w base spare held n f.type ((vs.drop f.offset).take (P.cellsOf f.type)) = some y := by
  rcases open_slice ht h with h0 | ⟨a, len, cap, m, n, D, Pl, hcs, hb, hl, hm, hmm, hx, hi⟩
  · exact .inl h0.1
  · refine .inr ⟨a, len, cap, hcs, hl, hm, fun i him => ?_⟩
    have hlm : len ≤ m := by rw [hmm]; split <;> omega
    obtain ⟨cs', hc, ht'⟩ := hi i (by omega)
    rw [hC] at hc
    obtain ⟨ys, n', hn', hy, hlen, hyl, hf⟩ := DataW.trod_struct he ht'
    obtain ⟨_, hcl, hat⟩ := World.cells?_some hc
    refine ⟨cs', n', hcl, fun j hj => ?_, fun j f hj => ?_⟩
    · rw [← Go.Deep.add_add]; exact hat j hj
    · have hjl : j < fs.size := (Array.getElem?_eq_some_iff.1 hj).1
      have hys : ys[j]? = some (ys[j]'(by omega)) := List.getElem?_eq_getElem (by omega)
      exact ⟨_, (hf j f hj).trans hys⟩
end

theorem trod_i64 {H : Type} {enc : TypeId × Value → H} {w : World} {base : Nat} {spare : Nat → Bool} {held : Bool} {n : Nat} {v : Value} {y : DataW H × List MemPlace}
    (h : DataW.trod enc Try.prog w base spare held n 3 [v] = some y) : ∃ k, v = .int .i64 k ∧ -9223372036854775808 ≤ k ∧ k ≤ 9223372036854775807 := by
  obtain ⟨k, e, _, hw⟩ := DataW.trod_int Try.underlying3 h
  simp at e
  exact ⟨k, e, by simpa [Lit.wf, IntKind.min, IntKind.max, IntKind.signed, IntKind.bits] using hw⟩
theorem trod_str {H : Type} {enc : TypeId × Value → H} {w : World} {base : Nat} {spare : Nat → Bool} {held : Bool} {n : Nat} {v : Value} {y : DataW H × List MemPlace}
    (h : DataW.trod enc Try.prog w base spare held n 9 [v] = some y) : ∃ s, v = .string s ∧ s.size ≤ 9223372036854775807 := by
  obtain ⟨s, e, _, hw⟩ := DataW.trod_string Try.underlying9 h
  simp at e
  exact ⟨s, e, by simpa [maxLen] using hw⟩

theorem rdK_of_rows {α : Type} (enc : α → List Value) (k : Nat) (hk : ∀ x, (enc x).length = k) (h0 : 0 < k) (w : World) (a : Addr) (len : Nat) (P : α → Prop)
    (key : ∀ i, i < len → ∃ x : α, P x ∧ ∀ r u, (enc x)[r]? = some u → w.cell? (a.add (i * k + r)) = some u) : ∃ l : List α, l.length = len ∧ RdK enc w (some a) l ∧ ∀ x ∈ l, P x := by
  refine ⟨(List.range len).attach.map fun i => (key i.1 (by simpa using i.2)).choose, by simp, fun _ => ⟨a, rfl, fun j u hu => ?_⟩, fun x hx => ?_⟩
  · have hj := (List.getElem?_eq_some_iff.1 hu).1
    rw [flat_length enc k hk] at hj
    have hi : j / k < ((List.range len).attach.map fun i => (key i.1 (by simpa using i.2)).choose).length := Nat.div_lt_of_lt_mul (by rwa [Nat.mul_comm] at hj)
    have hr : j % k < k := Nat.mod_lt _ h0
    have hjk : j / k * k + j % k = j := Nat.div_add_mod' j k
    rw [← hjk, flat_get enc k hk _ _ _ hi hr] at hu
    have hil : j / k < len := by simpa using hi
    have hs := (key _ hil).choose_spec.2
    rw [← hjk]
    exact hs _ _ (by simpa using hu)
  · simp only [List.mem_map, List.mem_attach, true_and, Subtype.exists] at hx
    obtain ⟨i, hi', rfl⟩ := hx
    exact (key i (by simpa using hi')).choose_spec.1

structure PL.Okw (p : PL) : Prop where
  k : -9223372036854775808 ≤ p.nd.kind ∧ p.nd.kind ≤ 9223372036854775807
  n : p.nd.name.size ≤ 9223372036854775807
  v : p.nd.v.Ok 9223372036854775807
  o : p.nd.op.size ≤ 9223372036854775807
  c : -9223372036854775808 ≤ p.cnt ∧ p.cnt ≤ 9223372036854775807
theorem trod_val {H : Type} {enc : TypeId × Value → H} {w : World} {base : Nat} {spare : Nat → Bool} {held : Bool} {n : Nat} {a b c : Value} {y : DataW H × List MemPlace}
    (h : DataW.trod enc Try.prog w base spare held n 30 [a, b, c] = some y) : ∃ v : VD, a = .int .i64 v.kind ∧ b = .int .i64 v.num ∧ c = .string v.text ∧ v.Ok 9223372036854775807 := by
  obtain ⟨ys, n', hn', hy, hlen, hyl, hf⟩ := DataW.trod_struct Try.underlying30 h
  have hl3 : ys.length = 3 := hyl
  obtain ⟨y0, y1, y2, rfl⟩ : ∃ y0 y1 y2, ys = [y0, y1, y2] := by
    match ys, hl3 with
    | [a, b, c], _ => exact ⟨a, b, c, rfl⟩
  have z1 : Try.prog.cellsOf 3 = 1 := by kernel_rfl
  have z2 : Try.prog.cellsOf 9 = 1 := by kernel_rfl
  have h0 : DataW.trod enc Try.prog w base spare held n' 3 (List.take (Try.prog.cellsOf 3) (List.drop 0 [a, b, c])) = some y0 := hf 0 _ rfl
  have h1 : DataW.trod enc Try.prog w base spare held n' 3 (List.take (Try.prog.cellsOf 3) (List.drop 1 [a, b, c])) = some y1 := hf 1 _ rfl
  have h2 : DataW.trod enc Try.prog w base spare held n' 9 (List.take (Try.prog.cellsOf 9) (List.drop 2 [a, b, c])) = some y2 := hf 2 _ rfl
  rw [z1] at h0 h1
  rw [z2] at h2
  obtain ⟨k, rfl, hk⟩ := trod_i64 (y := y0) h0
  obtain ⟨m, rfl, hm⟩ := trod_i64 (y := y1) h1
  obtain ⟨s, rfl, hs⟩ := trod_str (y := y2) h2
  exact ⟨⟨k, m, s⟩, rfl, rfl, rfl, hk, hm, hs⟩
set_option maxRecDepth 20000 in
theorem open_pls {H : Type} {enc : TypeId × Value → H} {w : World} {base : Nat} {spare : Nat → Bool} {held : Bool} {fuel : Nat} {A : Option Addr} {len cap : Nat} {y : DataW H × List MemPlace}
    (h : DataW.trod enc Try.prog w base spare held fuel 22 [.slice A len cap] = some y) : ∃ l : List PL, l.length = len ∧ PlsAt w A l ∧ (∀ p ∈ l, p.Okw) ∧ l.length ≤ 9223372036854775807 ∧ len ≤ cap := by
  have z1 : Try.prog.cellsOf 3 = 1 := by kernel_rfl
  have z2 : Try.prog.cellsOf 9 = 1 := by kernel_rfl
  have z3 : Try.prog.cellsOf 30 = 3 := by kernel_rfl
  rcases open_slice_structs (P := Try.prog) (C := 7) Try.underlying22 Try.underlying66 (by kernel_rfl) h with hcs | ⟨a, l, c, hcs, hl, hm, hi⟩
  · simp at hcs
    obtain ⟨rfl, rfl, rfl⟩ := hcs
    exact ⟨[], rfl, RdK.nil _ _ _, by simp, Nat.zero_le _, Nat.zero_le _⟩
  · simp at hcs
    obtain ⟨rfl, rfl, rfl⟩ := hcs
    obtain ⟨l, h1, h2, h3⟩ := rdK_of_rows plE 7 plE_length (by omega) w a len PL.Okw fun i hil => by
      obtain ⟨vs, n, hvl, hat, hf⟩ := hi i hil
      obtain ⟨v0, v1, v2, v3, v4, v5, v6, rfl⟩ : ∃ v0 v1 v2 v3 v4 v5 v6, vs = [v0, v1, v2, v3, v4, v5, v6] := by
        match vs, hvl with
        | [a, b, c, d, e, f, g], _ => exact ⟨a, b, c, d, e, f, g, rfl⟩
      obtain ⟨y0, t0⟩ : ∃ y, DataW.trod enc Try.prog w base spare held n 3 (List.take (Try.prog.cellsOf 3) (List.drop 0 [v0, v1, v2, v3, v4, v5, v6])) = some y := hf 0 _ rfl
      obtain ⟨y1, t1⟩ : ∃ y, DataW.trod enc Try.prog w base spare held n 9 (List.take (Try.prog.cellsOf 9) (List.drop 1 [v0, v1, v2, v3, v4, v5, v6])) = some y := hf 1 _ rfl
      obtain ⟨y2, t2⟩ : ∃ y, DataW.trod enc Try.prog w base spare held n 30 (List.take (Try.prog.cellsOf 30) (List.drop 2 [v0, v1, v2, v3, v4, v5, v6])) = some y := hf 2 _ rfl
      obtain ⟨y3, t3⟩ : ∃ y, DataW.trod enc Try.prog w base spare held n 9 (List.take (Try.prog.cellsOf 9) (List.drop 5 [v0, v1, v2, v3, v4, v5, v6])) = some y := hf 3 _ rfl
      obtain ⟨y4, t4⟩ : ∃ y, DataW.trod enc Try.prog w base spare held n 3 (List.take (Try.prog.cellsOf 3) (List.drop 6 [v0, v1, v2, v3, v4, v5, v6])) = some y := hf 4 _ rfl
      rw [z1] at t0 t4
      rw [z2] at t1 t3
      rw [z3] at t2
      obtain ⟨k, rfl, hk⟩ := trod_i64 (y := y0) t0
      obtain ⟨s, rfl, hs⟩ := trod_str (y := y1) t1
      obtain ⟨v, rfl, rfl, rfl, hv⟩ := trod_val (y := y2) t2
      obtain ⟨o, rfl, ho⟩ := trod_str (y := y3) t3
      obtain ⟨q, rfl, hq⟩ := trod_i64 (y := y4) t4
      refine ⟨⟨⟨k, s, v, o⟩, q⟩, ⟨hk, hs, hv, ho, hq⟩, fun r u hu => ?_⟩
      have hr : r < 7 := (List.getElem?_eq_some_iff.1 hu).1
      rw [hat r hr]; exact hu
    exact ⟨l, h1, h2, h3, by rw [h1]; unfold maxLen at hm; omega, hl⟩
end Go.Proofs.Ytlkckkagoommaaa

/- Slices of columns and of values that came in, as the walks take them. -/
namespace Go.Proofs.Ytlkckkagoommaaa
open Go.RowKit Go.ChangeShapes Go.WideShapes Go.Deep

structure CD.Okw (c : CD) : Prop where
  n : c.name.size ≤ 9223372036854775807
  t : -9223372036854775808 ≤ c.typ ∧ c.typ ≤ 9223372036854775807
theorem CD.ok_of {cs : List CD} (h : ∀ c ∈ cs, c.Okw) (hs : ∀ c ∈ cs, c.name.size ≤ 50) : ∀ c ∈ cs, c.Ok := fun c hc => ⟨by have := hs c hc; omega, (h c hc).t⟩
theorem open_cols {H : Type} {enc : TypeId × Value → H} {w : World} {base : Nat} {spare : Nat → Bool} {held : Bool} {fuel : Nat} {A : Option Addr} {len cap : Nat} {y : DataW H × List MemPlace}
    (h : DataW.trod enc Try.prog w base spare held fuel 24 [.slice A len cap] = some y) : ∃ l : List CD, l.length = len ∧ ColsAt w A l ∧ (∀ c ∈ l, c.Okw) ∧ l.length ≤ 9223372036854775807 ∧ len ≤ cap := by
  rcases open_slice_rows (P := Try.prog) Try.underlying24 Try.underlying45 (by kernel_rfl) (by kernel_rfl) h with hcs | ⟨a, l, c, hcs, hl, hm, hi⟩
  · simp at hcs
    obtain ⟨rfl, rfl, rfl⟩ := hcs
    exact ⟨[], rfl, RdK.nil _ _ _, by simp, Nat.zero_le _, Nat.zero_le _⟩
  · simp at hcs
    obtain ⟨rfl, rfl, rfl⟩ := hcs
    obtain ⟨l, h1, h2, h3⟩ := rdK_of_rows cdE 2 cdE_length (by omega) w a len CD.Okw fun i hil => by
      obtain ⟨n, hf⟩ := hi i hil
      obtain ⟨v0, y0, g0, t0⟩ := hf 0 _ rfl
      obtain ⟨v1, y1, g1, t1⟩ := hf 1 _ rfl
      obtain ⟨s, rfl, hs⟩ := trod_str t0
      obtain ⟨k, rfl, hk⟩ := trod_i64 t1
      refine ⟨⟨s, k⟩, ⟨hs, hk⟩, fun r u hu => ?_⟩
      match r, hu with
      | 0, hu => obtain rfl := Option.some.inj hu; exact g0
      | 1, hu => obtain rfl := Option.some.inj hu; exact g1
    exact ⟨l, h1, h2, h3, by rw [h1]; unfold maxLen at hm; omega, hl⟩

theorem open_vals {H : Type} {enc : TypeId × Value → H} {w : World} {base : Nat} {spare : Nat → Bool} {held : Bool} {fuel : Nat} {A : Option Addr} {len cap : Nat} {y : DataW H × List MemPlace}
    (h : DataW.trod enc Try.prog w base spare held fuel 25 [.slice A len cap] = some y) : ∃ l : List VD, l.length = len ∧ ValsAt w A l ∧ (∀ c ∈ l, c.Ok 9223372036854775807) ∧ l.length ≤ 9223372036854775807 ∧ len ≤ cap := by
  rcases open_slice_rows (P := Try.prog) Try.underlying25 Try.underlying30 (by kernel_rfl) (by kernel_rfl) h with hcs | ⟨a, l, c, hcs, hl, hm, hi⟩
  · simp at hcs
    obtain ⟨rfl, rfl, rfl⟩ := hcs
    exact ⟨[], rfl, RdK.nil _ _ _, by simp, Nat.zero_le _, Nat.zero_le _⟩
  · simp at hcs
    obtain ⟨rfl, rfl, rfl⟩ := hcs
    obtain ⟨l, h1, h2, h3⟩ := rdK_of_rows vdE 3 vdE_length (by omega) w a len (fun v => v.Ok 9223372036854775807) fun i hil => by
      obtain ⟨n, hf⟩ := hi i hil
      obtain ⟨v0, y0, g0, t0⟩ := hf 0 _ rfl
      obtain ⟨v1, y1, g1, t1⟩ := hf 1 _ rfl
      obtain ⟨v2, y2, g2, t2⟩ := hf 2 _ rfl
      obtain ⟨k, rfl, hk⟩ := trod_i64 t0
      obtain ⟨m, rfl, hm'⟩ := trod_i64 t1
      obtain ⟨s, rfl, hs⟩ := trod_str t2
      refine ⟨⟨k, m, s⟩, ⟨hk, hm', hs⟩, fun r u hu => ?_⟩
      match r, hu with
      | 0, hu => obtain rfl := Option.some.inj hu; exact g0
      | 1, hu => obtain rfl := Option.some.inj hu; exact g1
      | 2, hu => obtain rfl := Option.some.inj hu; exact g2
    exact ⟨l, h1, h2, h3, by rw [h1]; unfold maxLen at hm; omega, hl⟩
end Go.Proofs.Ytlkckkagoommaaa

/- ExprTypes: the law. -/
namespace Go.Proofs.Ytlkckkagoommaaa
open Go.RowKit
attribute [local go_sem ↓] Go.wp_at_zero Go.wp_at_succ

set_option maxRecDepth 100000 in
set_option maxHeartbeats 12800000 in
theorem types_law (A : Option Addr) (cap len : Nat) (l : List PL) (hl : l.length = len) (hc : len ≤ cap) (SA : Option Addr) (scap sm : Nat) (cs : List CD) (hsm : cs.length = sm) (hokw : ∀ c ∈ cs, c.Okw) (w : World) (h : PlsAt w A l) (hcs : ColsAt w SA cs) (hb : len ≤ 9223372036854775807) (hsb : sm ≤ 9223372036854775807) :
    Calls Try.prog 5 #[.slice A len cap, .slice SA sm scap] w fun e w' => e = .returned (.bool true) ∧ Touch [] w w' := by
  have Haw := Lib.hid fun w' => awakeX_any w'
  have hsl := fun w' (t : Touch [] w w') => small4_any A cap len l hl w' (h.touch0 t) hb
  have hss := fun w' (t : Touch [] w w') => smallS4_any SA scap sm cs hsm w' (hcs.touch0 t) hsb
  rcases hs : smallL l with _ | _
  · rw [hs] at hsl
    have Hsl := Lib.hid hsl
    clear hsl hss hs
    go_enter Try.func5, Try.ntmps5
    go_wp2_with fail
    refine (Hsl.out _ (Touch.refl _ _)).mono ?_
    rintro e w1 ⟨rfl, u1⟩
    go_wp2_with fail
    refine (Haw.out _).mono ?_
    rintro e w2 ⟨rfl, u2⟩
    go_wp2_with fail
    go_ret
    exact ⟨rfl, u1.trans0 u2⟩
  obtain ⟨hp, hl0, hl3⟩ := smallL_true hs
  rw [hs] at hsl
  have Hsl := Lib.hid hsl
  clear hsl hs
  rcases hs : smallS4 cs with _ | _
  · rw [hs] at hss
    have Hss := Lib.hid hss
    clear hss hs
    go_enter Try.func5, Try.ntmps5
    go_wp2_with fail
    refine (Hsl.out _ (Touch.refl _ _)).mono ?_
    rintro e w1 ⟨rfl, u1⟩
    go_wp2_with fail
    refine (Hss.out _ u1).mono ?_
    rintro e w1' ⟨rfl, u1'⟩
    go_wp2_with fail
    refine (Haw.out _).mono ?_
    rintro e w2 ⟨rfl, u2⟩
    go_wp2_with fail
    go_ret
    exact ⟨rfl, (u1.trans0 u1').trans0 u2⟩
  obtain ⟨hs50, hs20⟩ := smallS4_true hs
  have hok := CD.ok_of hokw hs50
  rw [hs] at hss
  have Hss := Lib.hid hss
  clear hss hs
  have hne : l ≠ [] := fun q => by rw [q] at hl0; simp at hl0
  have Hb := Lib.hid fun w' (t : Touch [] w w') => build_any 60 l A len cap 0 w' hl hc (by omega) (by omega) rfl (h.touch0 t)
  have hn1 := buildX_pos 60 l
  have hnl := buildX_le 60 l hne
  have hsa : sizeX 61 (buildX 60 l).1 ≤ 1000000 := by rw [buildX_size]; omega
  have hall : allX (fun q => q.v.text.size ≤ 140737000000000) 61 (buildX 60 l).1 := buildX_all 60 l hne (fun p hp' => by have := (hp p hp').2.2; omega)
  obtain ⟨ta, hta⟩ : ∃ r, r = (buildX 60 l).1 := ⟨_, rfl⟩
  obtain ⟨n, hn⟩ : ∃ r, r = (buildX 60 l).2 := ⟨_, rfl⟩
  rw [← hta] at Hb hsa hall
  rw [← hn] at Hb hn1
  have Heq := Lib.hid (show eqX 61 ta ta = true from (eqX_iff 61 ta ta).2 rfl)
  have Hts := Lib.hid fun (x : XC) w' (t : Touch [] w w') (hx : ExP xcE anyB 61 w' x ta) => typeX_any 61 ta x SA scap sm cs hsm hok w' hx (hcs.touch0 t) (by omega) hsa hall
  have Htd := Lib.hid fun (x : XC) w' (t : Touch [] w w') (hx : ExP xcE anyB 61 w' x ta) => typed4_any 61 ta x SA scap sm cs hsm hok w' hx (hcs.touch0 t) (by omega) hsa hall
  obtain ⟨⟨ty, er⟩, htr⟩ : ∃ r, r = typeX cs 61 ta := ⟨_, rfl⟩
  rw [← htr] at Hts Htd
  simp only at Hts Htd
  clear hta hn htr hnl hp hl0 hl3 hs20 hne
  go_enter Try.func5, Try.ntmps5
  go_wp2_with fail
  refine (Hsl.out _ (Touch.refl _ _)).mono ?_
  rintro e w1 ⟨rfl, u1⟩
  go_wp2_with fail
  refine (Hss.out _ u1).mono ?_
  rintro e w1' ⟨rfl, u1'⟩
  go_wp2_with fail
  refine (Hb.out _ (u1.trans0 u1')).mono ?_
  rintro e w2 ⟨x, rfl, hx, u2⟩
  replace hx := hx.any
  have T2 := (u1.trans0 u1').trans0 u2
  have hts := fun w' t => Hts.out x w' (T2.trans0 t) (hx.touch0 t)
  have htd := fun w' t => Htd.out x w' (T2.trans0 t) (hx.touch0 t)
  have hsz := fun w' (t : Touch [] w2 w') => sizeX_any 61 ta x w' (hx.touch0 t) hsa
  have hrf := fun w' (t : Touch [] w2 w') => refX_any 61 ta x w' (hx.touch0 t) hsa
  have heq := fun w' (t : Touch [] w2 w') => equalX_any 61 ta ta x x w' (hx.touch0 t) (hx.touch0 t) hsa hsa
  rw [Heq.out] at heq
  obtain ⟨⟨k1, nm1, ⟨vk1, vn1, vt1⟩, op1⟩, B1, m1, c1⟩ := x
  simp only [XC.val] at hts htd hsz hrf heq ⊢
  have Hrz := Lib.hid fun w' (y : XC) (h : ExP xcR anyB 61 w' y ta) => refSize_any 61 ta y w' h hsa
  obtain ⟨sz, hsze⟩ : ∃ r, r = sizeX 61 ta := ⟨_, rfl⟩
  rw [← hsze] at hsz Hrz
  have Hts := Lib.hid hts; have Htd := Lib.hid htd; have Hsz := Lib.hid hsz; have Hrf := Lib.hid hrf; have Heq := Lib.hid heq
  clear hts htd hsz hrf heq hx hsze hsa hall
  have t3 := (Touch.refl [] w2).alloc (.cells #[.int .i64 k1, .string nm1, .int .i64 vk1, .int .i64 vn1, .string vt1, .string op1, .slice B1 m1 c1] 33)
  have hbx := heap_alloc_new w2 (.cells #[.int .i64 k1, .string nm1, .int .i64 vk1, .int .i64 vn1, .string vt1, .string op1, .slice B1 m1 c1] 33)
  have Hbx := Lib.hid hbx
  obtain ⟨a0, a1, a2, a3, a4, a5, a6, _⟩ := blk7 hbx
  clear hbx
  go_wp2_with fail
  clear a0 a1 a2 a3 a4 a5 a6
  refine (Hts.out _ t3).mono ?_
  rintro e w4 ⟨rfl, u4⟩
  obtain ⟨a0, a1, a2, a3, a4, a5, a6, _⟩ := blk7 (u4.blk Hbx.out (by simp))
  go_wp2_with fail
  clear a0 a1 a2 a3 a4 a5 a6
  have V4 := t3.trans0 u4
  refine (Htd.out _ V4).mono ?_
  rintro e w5 ⟨rfl, u5⟩
  have V5 := V4.trans0 u5
  have hX5 := (u4.trans0 u5).blk Hbx.out (by simp)
  have HX5 := Lib.hid hX5
  clear hX5
  obtain ⟨a0, a1, a2, a3, a4, a5, a6, _⟩ := blk7 HX5.out
  have hnI : ¬ (n : Int) = 0 := by omega
  go_wp2_with fail
  refine wp_region_held_drew (S := fun w' => w'.cell? ⟨w2.heap.size, 0, none⟩ = some (.int .i64 k1) ∧ w'.cell? ⟨w2.heap.size, 1, none⟩ = some (.string nm1) ∧ w'.cell? ⟨w2.heap.size, 2, none⟩ = some (.int .i64 vk1) ∧ w'.cell? ⟨w2.heap.size, 3, none⟩ = some (.int .i64 vn1) ∧ w'.cell? ⟨w2.heap.size, 4, none⟩ = some (.string vt1) ∧ w'.cell? ⟨w2.heap.size, 5, none⟩ = some (.string op1) ∧ w'.cell? ⟨w2.heap.size, 6, none⟩ = some (.slice B1 m1 c1)) (by kernel_rfl) ⟨a0, a1, a2, a3, a4, a5, a6⟩ (fun hHeld => ?_)
  refine take_d (i := 0) (d := 37) (v := ?_) rfl rfl (by kernel_rfl) (by kernel_rfl) (by kernel_rfl) (fun _ _ _ h => h) (Or.inl ⟨by rfl, ?_⟩) (by assumption) ?_
  rotate_left
  · intro w hSw; (try dsimp only at hSw); go_simp; (try with_reducible rfl)
  try simp only [Act.put, List.setIfInBounds_toArray, List.set_cons_zero, List.set_cons_succ]
  refine take_d (i := 1) (d := 38) (v := ?_) rfl rfl (by kernel_rfl) (by kernel_rfl) (by kernel_rfl) (fun _ _ _ h => h) (Or.inl ⟨by rfl, ?_⟩) (by assumption) ?_
  rotate_left
  · intro w hSw; (try dsimp only at hSw); go_simp; (try with_reducible rfl)
  try simp only [Act.put, List.setIfInBounds_toArray, List.set_cons_zero, List.set_cons_succ]
  refine take_d (i := 2) (d := 39) (v := ?_) rfl rfl (by kernel_rfl) (by kernel_rfl) (by kernel_rfl) (fun _ _ _ h => h) (Or.inl ⟨by rfl, ?_⟩) (by assumption) ?_
  rotate_left
  · intro w hSw; (try dsimp only at hSw); go_simp; (try with_reducible rfl)
  try simp only [Act.put, List.setIfInBounds_toArray, List.set_cons_zero, List.set_cons_succ]
  refine take_d (i := 3) (d := 40) (v := ?_) rfl rfl (by kernel_rfl) (by kernel_rfl) (by kernel_rfl) (fun _ _ _ h => h) (Or.inl ⟨by rfl, ?_⟩) (by assumption) ?_
  rotate_left
  · intro w hSw; (try dsimp only at hSw); go_simp; (try with_reducible rfl)
  try simp only [Act.put, List.setIfInBounds_toArray, List.set_cons_zero, List.set_cons_succ]
  refine take_d (i := 4) (d := 41) (v := ?_) rfl rfl (by kernel_rfl) (by kernel_rfl) (by kernel_rfl) (fun _ _ _ h => h) (Or.inl ⟨by rfl, ?_⟩) (by assumption) ?_
  rotate_left
  · intro w hSw; (try dsimp only at hSw); go_simp; (try with_reducible rfl)
  try simp only [Act.put, List.setIfInBounds_toArray, List.set_cons_zero, List.set_cons_succ]
  refine take_d (i := 5) (d := 42) (v := ?_) rfl rfl (by kernel_rfl) (by kernel_rfl) (by kernel_rfl) (fun _ _ _ h => h) (Or.inl ⟨by rfl, ?_⟩) (by assumption) ?_
  rotate_left
  · intro w hSw; (try dsimp only at hSw); go_simp; (try with_reducible rfl)
  try simp only [Act.put, List.setIfInBounds_toArray, List.set_cons_zero, List.set_cons_succ]
  refine take_d (i := 6) (d := 43) (v := ?_) rfl rfl (by kernel_rfl) (by kernel_rfl) (by kernel_rfl) (fun _ _ _ h => h) (Or.inl ⟨by rfl, ?_⟩) (by assumption) ?_
  rotate_left
  · intro w hSw; (try dsimp only at hSw); go_simp; (try with_reducible rfl)
  try simp only [Act.put, List.setIfInBounds_toArray, List.set_cons_zero, List.set_cons_succ]
  refine take_d (i := 7) (d := 44) (v := ?_) rfl rfl (by kernel_rfl) (by kernel_rfl) (by kernel_rfl) (fun _ _ _ h => h) (Or.inl ⟨by rfl, ?_⟩) (by assumption) ?_
  rotate_left
  · intro w hSw; (try dsimp only at hSw); go_simp; (try with_reducible rfl)
  try simp only [Act.put, List.setIfInBounds_toArray, List.set_cons_zero, List.set_cons_succ]
  refine take_d (i := 8) (d := 45) (v := ?_) rfl rfl (by kernel_rfl) (by kernel_rfl) (by kernel_rfl) (fun _ _ _ h => h) (Or.inl ⟨by rfl, ?_⟩) (by assumption) ?_
  rotate_left
  · intro w hSw; (try dsimp only at hSw); go_simp; (try with_reducible rfl)
  try simp only [Act.put, List.setIfInBounds_toArray, List.set_cons_zero, List.set_cons_succ]
  refine take_d (i := 9) (d := 46) (v := ?_) rfl rfl (by kernel_rfl) (by kernel_rfl) (by kernel_rfl) (fun _ _ _ h => h) (Or.inl ⟨by rfl, ?_⟩) (by assumption) ?_
  rotate_left
  · intro w hSw; (try dsimp only at hSw); go_simp; (try with_reducible rfl)
  try simp only [Act.put, List.setIfInBounds_toArray, List.set_cons_zero, List.set_cons_succ]
  refine take_d (i := 11) (d := 48) (v := ?_) rfl rfl (by kernel_rfl) (by kernel_rfl) (by kernel_rfl) (fun _ _ _ h => h) (Or.inl ⟨by rfl, ?_⟩) (by assumption) ?_
  rotate_left
  · intro w hSw; (try dsimp only at hSw); go_simp; (try with_reducible rfl)
  try simp only [Act.put, List.setIfInBounds_toArray, List.set_cons_zero, List.set_cons_succ]
  refine wpAnyH_ready (rs := [10]) (by kernel_rfl) (by simp) ?_
  refine AllReadyH.cons rfl (fun K hK => ?_) AllReadyH.nil
  go_simp
  go_at_call 26
  refine (Hsz.out _ V5.drew).mono ?_
  rintro e w6 ⟨rfl, u6⟩
  have V6 := V5.drew.trans0 u6
  obtain ⟨b0, b1, b2, b3, b4, b5, b6, _⟩ := blk7 (u6.blk (show w5.drew.heap[w2.heap.size]? = _ from HX5.out) (by simp))
  have HX6 := Lib.hid (u6.blk (show w5.drew.heap[w2.heap.size]? = _ from HX5.out) (by simp))
  (try go_wp2_with fail)
  refine hK.out _ _ ⟨b0, b1, b2, b3, b4, b5, b6⟩ (fun _hH => ?_)
  clear hK K
  try simp only [Act.put, List.setIfInBounds_toArray, List.set_cons_zero, List.set_cons_succ]
  refine wpAnyH_ready (rs := [12]) (by kernel_rfl) (by simp) ?_
  refine AllReadyH.cons rfl (fun K hK => ?_) AllReadyH.nil
  go_simp
  go_at_call 28
  refine (Hrf.out _ V6).mono ?_
  rintro e w7 ⟨y, rfl, hy, u7⟩
  have hrz := Hrz.out _ y hy.any
  obtain ⟨⟨k2, nm2, ⟨vk2, vn2, vt2⟩, op2⟩, YA, ym, yc⟩ := y
  simp only [XC.valR] at hrz ⊢
  have V7 := V6.trans0 u7
  obtain ⟨d0, d1, d2, d3, d4, d5, d6, _⟩ := blk7 (u7.blk HX6.out (by simp))
  have HX7 := Lib.hid (u7.blk HX6.out (by simp))
  (try go_wp2_with fail)
  refine hK.out _ _ ⟨d0, d1, d2, d3, d4, d5, d6⟩ (fun _hH => ?_)
  clear hK K
  try simp only [Act.put, List.setIfInBounds_toArray, List.set_cons_zero, List.set_cons_succ]
  refine wpAnyH_ready (rs := [13]) (by kernel_rfl) (by simp) ?_
  refine AllReadyH.cons rfl (fun K hK => ?_) AllReadyH.nil
  go_simp
  go_at_call 27
  refine hrz.mono ?_
  rintro e w8 ⟨rfl, u8⟩
  have V8 := V7.trans0 u8
  obtain ⟨f0, f1, f2, f3, f4, f5, f6, _⟩ := blk7 (u8.blk HX7.out (by simp))
  have HX8 := Lib.hid (u8.blk HX7.out (by simp))
  (try go_wp2_with fail)
  refine hK.out _ _ ⟨f0, f1, f2, f3, f4, f5, f6⟩ (fun _hH => ?_)
  clear hK K
  try simp only [Act.put, List.setIfInBounds_toArray, List.set_cons_zero, List.set_cons_succ]
  refine take_d (i := 14) (d := 51) (v := ?_) rfl rfl (by kernel_rfl) (by kernel_rfl) (by kernel_rfl) (fun _ _ _ h => h) (Or.inl ⟨by rfl, ?_⟩) (by assumption) ?_
  rotate_left
  · intro w hSw; (try dsimp only at hSw); go_simp; (try with_reducible rfl)
  try simp only [Act.put, List.setIfInBounds_toArray, List.set_cons_zero, List.set_cons_succ]
  refine take_d (i := 15) (d := 52) (v := ?_) rfl rfl (by kernel_rfl) (by kernel_rfl) (by kernel_rfl) (fun _ _ _ h => h) (Or.inl ⟨by rfl, ?_⟩) (by assumption) ?_
  rotate_left
  · intro w hSw; (try dsimp only at hSw); go_simp; (try with_reducible rfl)
  try simp only [Act.put, List.setIfInBounds_toArray, List.set_cons_zero, List.set_cons_succ]
  refine take_d (i := 16) (d := 53) (v := undef) rfl rfl (by kernel_rfl) (by kernel_rfl) (by kernel_rfl) (fun _ _ _ h => h) (Or.inr ⟨by rfl, rfl⟩) (by assumption) ?_
  try simp only [Act.put, List.setIfInBounds_toArray, List.set_cons_zero, List.set_cons_succ]
  refine take_d (i := 17) (d := 54) (v := undef) rfl rfl (by kernel_rfl) (by kernel_rfl) (by kernel_rfl) (fun _ _ _ h => h) (Or.inr ⟨by rfl, rfl⟩) (by assumption) ?_
  try simp only [Act.put, List.setIfInBounds_toArray, List.set_cons_zero, List.set_cons_succ]
  refine take_d (i := 18) (d := 55) (v := ?_) rfl rfl (by kernel_rfl) (by kernel_rfl) (by kernel_rfl) (fun _ _ _ h => h) (Or.inl ⟨by rfl, ?_⟩) (by assumption) ?_
  rotate_left
  · intro w hSw; (try dsimp only at hSw); go_simp; (try with_reducible rfl)
  try simp only [Act.put, List.setIfInBounds_toArray, List.set_cons_zero, List.set_cons_succ]
  refine take_d (i := 19) (d := 56) (v := ?_) rfl rfl (by kernel_rfl) (by kernel_rfl) (by kernel_rfl) (fun _ _ _ h => h) (Or.inl ⟨by rfl, ?_⟩) (by assumption) ?_
  rotate_left
  · intro w hSw; (try dsimp only at hSw); go_simp; (try with_reducible rfl)
  try simp only [Act.put, List.setIfInBounds_toArray, List.set_cons_zero, List.set_cons_succ]
  refine take_d (i := 20) (d := 57) (v := ?_) rfl rfl (by kernel_rfl) (by kernel_rfl) (by kernel_rfl) (fun _ _ _ h => h) (Or.inl ⟨by rfl, ?_⟩) (by assumption) ?_
  rotate_left
  · intro w hSw; (try dsimp only at hSw); go_simp; (try with_reducible rfl)
  try simp only [Act.put, List.setIfInBounds_toArray, List.set_cons_zero, List.set_cons_succ]
  refine take_d (i := 21) (d := 58) (v := ?_) rfl rfl (by kernel_rfl) (by kernel_rfl) (by kernel_rfl) (fun _ _ _ h => h) (Or.inl ⟨by rfl, ?_⟩) (by assumption) ?_
  rotate_left
  · intro w hSw; (try dsimp only at hSw); go_simp; (try with_reducible rfl)
  try simp only [Act.put, List.setIfInBounds_toArray, List.set_cons_zero, List.set_cons_succ]
  refine take_d (i := 22) (d := 59) (v := ?_) rfl rfl (by kernel_rfl) (by kernel_rfl) (by kernel_rfl) (fun _ _ _ h => h) (Or.inl ⟨by rfl, ?_⟩) (by assumption) ?_
  rotate_left
  · intro w hSw; (try dsimp only at hSw); go_simp; (try with_reducible rfl)
  try simp only [Act.put, List.setIfInBounds_toArray, List.set_cons_zero, List.set_cons_succ]
  refine wpAnyH_ready (rs := [23]) (by kernel_rfl) (by simp) ?_
  refine AllReadyH.cons rfl (fun K hK => ?_) AllReadyH.nil
  go_simp
  go_at_call 29
  refine (Heq.out _ V8).mono ?_
  rintro e w9 ⟨rfl, u9⟩
  have V9 := V8.trans0 u9
  obtain ⟨g0, g1, g2, g3, g4, g5, g6, _⟩ := blk7 (u9.blk HX8.out (by simp))
  have HX9 := Lib.hid (u9.blk HX8.out (by simp))
  (try go_wp2_with fail)
  refine hK.out _ _ ⟨g0, g1, g2, g3, g4, g5, g6⟩ (fun _hH => ?_)
  clear hK K
  try simp only [Act.put, List.setIfInBounds_toArray, List.set_cons_zero, List.set_cons_succ]
  refine take_d (i := 24) (d := 61) (v := ?_) rfl rfl (by kernel_rfl) (by kernel_rfl) (by kernel_rfl) (fun _ _ _ h => h) (Or.inl ⟨by rfl, ?_⟩) (by assumption) ?_
  rotate_left
  · intro w hSw; (try dsimp only at hSw); go_simp; (try with_reducible rfl)
  try simp only [Act.put, List.setIfInBounds_toArray, List.set_cons_zero, List.set_cons_succ]
  refine take_d (i := 25) (d := 62) (v := ?_) rfl rfl (by kernel_rfl) (by kernel_rfl) (by kernel_rfl) (fun _ _ _ h => h) (Or.inl ⟨by rfl, ?_⟩) (by assumption) ?_
  rotate_left
  · intro w hSw; (try dsimp only at hSw); go_simp; (try with_reducible rfl)
  try simp only [Act.put, List.setIfInBounds_toArray, List.set_cons_zero, List.set_cons_succ]
  refine wpAnyH_ready (rs := [26]) (by kernel_rfl) (by simp) ?_
  refine AllReadyH.cons rfl (fun K hK => ?_) AllReadyH.nil
  go_simp
  go_at_call 11
  refine (Haw.out _).mono ?_
  rintro e w10 ⟨rfl, u10⟩
  obtain ⟨h0, h1, h2, h3, h4, h5, h6, _⟩ := blk7 (u10.blk HX9.out (by simp))
  have HX10 := Lib.hid (u10.blk HX9.out (by simp))
  (try go_wp2_with fail)
  refine hK.out _ _ ⟨h0, h1, h2, h3, h4, h5, h6⟩ (fun _hH => ?_)
  clear hK K
  try simp only [Act.put, List.setIfInBounds_toArray, List.set_cons_zero, List.set_cons_succ]
  refine take_d (i := 27) (d := 64) (v := ?_) rfl rfl (by kernel_rfl) (by kernel_rfl) (by kernel_rfl) (fun _ _ _ h => h) (Or.inl ⟨by rfl, ?_⟩) (by assumption) ?_
  rotate_left
  · intro w hSw; (try dsimp only at hSw); go_simp; (try with_reducible rfl)
  try simp only [Act.put, List.setIfInBounds_toArray, List.set_cons_zero, List.set_cons_succ]
  refine wpAnyH_ready (rs := [28]) (by kernel_rfl) (by simp) ?_
  refine AllReadyH.cons rfl (fun K hK => ?_) AllReadyH.nil
  go_simp
  (try go_wp2_with fail)
  refine hK.out _ _ ⟨h0, h1, h2, h3, h4, h5, h6⟩ (fun _hH => ?_)
  clear hK K
  try simp only [Act.put, List.setIfInBounds_toArray, List.set_cons_zero, List.set_cons_succ]
  refine wpAnyH_done (by kernel_rfl) ?_ _
  go_wp2_with fail
  go_ret
  exact ⟨rfl, (T2.trans0 V9).trans0 u10⟩
end Go.Proofs.Ytlkckkagoommaaa
