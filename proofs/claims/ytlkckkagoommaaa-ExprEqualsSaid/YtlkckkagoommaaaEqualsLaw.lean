/- ExprEquals: the law. -/
import Derived.Test.YtlkckkagoommaaaSetK
import Derived.Test.YtlkckkagoommaaaBuildX
import Derived.Test.YtlkckkagoommaaaSmallX
import Derived.Test.YtlkckkagoommaaaEqX
import Derived.Test.YtlkckkagoommaaaAwakeX
import Derived.Test.YtlkckkagoommaaaXorV
namespace Go.Proofs.Ytlkckkagoommaaa
open Go.RowKit
attribute [local go_sem ↓] Go.wp_at_zero Go.wp_at_succ

theorem info_plain : (Try.prog.info? 66).map (fun i => (i.zero, i.size, i.bytes)) = some (some (.agg #[.int .i64 0, .string ⟨#[]⟩, .int .i64 0, .int .i64 0, .string ⟨#[]⟩, .string ⟨#[]⟩, .int .i64 0]), 7, 80) := by kernel_rfl
theorem app1_ne (s : ByteArray) : s ≠ s ++ ⟨#[120]⟩ := fun h => by
  have := congrArg ByteArray.size h
  rw [ByteArray.size_append] at this
  have h1 : (⟨#[120]⟩ : ByteArray).size = 1 := rfl
  omega
theorem plE_one (p : PL) : ∀ u ∈ plE p, u.oneCell' = true := by
  intro u hu
  simp only [plE, List.mem_cons, List.not_mem_nil, or_false] at hu
  rcases hu with rfl | rfl | rfl | rfl | rfl | rfl | rfl <;> rfl
set_option maxRecDepth 100000 in
set_option maxHeartbeats 12800000 in
theorem equals_law (A : Option Addr) (cap len : Nat) (l : List PL) (hl : l.length = len) (hc : len ≤ cap) (at_ what : Int) (w : World) (h : PlsAt w A l) (hb : len ≤ 9223372036854775807) :
    Calls Try.prog 6 #[.slice A len cap, .int .i64 at_, .int .i64 what] w fun e w' => e = .returned (.bool true) ∧ Touch [] w w' := by
  have Haw := Lib.hid fun w' => awakeX_any w'
  have hsm := fun w' (t : Touch [] w w') => small4_any A cap len l hl w' (h.touch0 t) hb
  rcases hs : smallL l with _ | _
  · rw [hs] at hsm
    have Hsm := Lib.hid hsm
    clear hsm hs
    go_enter Try.func6, Try.ntmps6
    go_wp2_with fail
    refine (Hsm.out _ (Touch.refl _ _)).mono ?_
    rintro e w1 ⟨rfl, u1⟩
    go_wp2_with fail
    refine (Haw.out _).mono ?_
    rintro e w2 ⟨rfl, u2⟩
    go_wp2_with fail
    go_ret
    exact ⟨rfl, u1.trans0 u2⟩
  obtain ⟨hp, hl0, hl3⟩ := smallL_true hs
  rw [hs] at hsm
  have Hsm := Lib.hid hsm
  clear hsm hs
  by_cases ha0 : at_ < 0
  · go_enter Try.func6, Try.ntmps6
    go_wp2_with fail
    refine (Hsm.out _ (Touch.refl _ _)).mono ?_
    rintro e w1 ⟨rfl, u1⟩
    go_wp2_with fail
    refine (Haw.out _).mono ?_
    rintro e w2 ⟨rfl, u2⟩
    go_wp2_with fail
    go_ret
    exact ⟨rfl, u1.trans0 u2⟩
  by_cases ha1 : (len : Int) ≤ at_
  · go_enter Try.func6, Try.ntmps6
    go_wp2_with fail
    refine (Hsm.out _ (Touch.refl _ _)).mono ?_
    rintro e w1 ⟨rfl, u1⟩
    go_wp2_with fail
    refine (Haw.out _).mono ?_
    rintro e w2 ⟨rfl, u2⟩
    go_wp2_with fail
    go_ret
    exact ⟨rfl, u1.trans0 u2⟩
  obtain ⟨i, rfl⟩ : ∃ i : Nat, at_ = (i : Int) := ⟨at_.toNat, by omega⟩
  have hi : i < l.length := by omega
  have Hl := Lib.hid hl
  have hiI : (i : Int) < (len : Int) := by omega
  have hiI0 : (0 : Int) ≤ (i : Int) := by omega
  have hne : l ≠ [] := fun q => by rw [q] at hl0; simp at hl0
  have Hb := Lib.hid fun w' (t : Touch [] w w') => build_any 60 l A len cap 0 w' hl hc (by omega) (by omega) rfl (h.touch0 t)
  have hsz : ∀ r : List PL, r ≠ [] → r.length = len → sizeX 61 (buildX 60 r).1 ≤ 1000000 := fun r hr he => by rw [buildX_size]; have := buildX_le 60 r hr; omega
  have Hbs := Lib.hid fun y hc hn => build_set 60 l i hi y hc hn
  have Hbr := Lib.hid fun (r : List PL) (hr : r.length = len) (G c4 : Nat) w' (hh : PlsAt w' (some ⟨G, 0, none⟩) r) (hc4 : len ≤ c4) => build_any 60 r (some ⟨G, 0, none⟩) len c4 0 w' hr hc4 (by omega) (by omega) rfl hh
  obtain ⟨ta, hta⟩ : ∃ r, r = (buildX 60 l).1 := ⟨_, rfl⟩
  obtain ⟨n, hn⟩ : ∃ r, r = (buildX 60 l).2 := ⟨_, rfl⟩
  have hsa := hsz l hne hl
  rw [← hta] at Hb Hbs hsa
  rw [← hn] at Hb Hbs
  have Hta := Lib.hid hta
  clear ha0 hta hn
  go_enter Try.func6, Try.ntmps6
  go_wp2_with fail
  refine (Hsm.out _ (Touch.refl _ _)).mono ?_
  rintro e w1 ⟨rfl, u1⟩
  go_wp2_with fail
  refine (Hb.out _ u1).mono ?_
  rintro e w2 ⟨x, rfl, hx, u2⟩
  obtain ⟨⟨k1, nm1, ⟨vk1, vn1, vt1⟩, op1⟩, B1, m1, c1⟩ := x
  dsimp only [XC.val]
  go_wp2_with (at_builtin; refine stop ?_)
  refine go ?_
  have hm0 : OwnK 66 7 plE ((w2.alloc (.cells #[.int .i64 k1, .string nm1, .int .i64 vk1, .int .i64 vn1, .string vt1, .string op1, .slice B1 m1 c1] 33)).alloc (.cells #[] 66)) (some ⟨w2.heap.size + 1, 0, none⟩) 0 [] := by
    have := OwnK.empty_new 66 7 plE (w2.alloc (.cells #[.int .i64 k1, .string nm1, .int .i64 vk1, .int .i64 vn1, .string vt1, .string op1, .slice B1 m1 c1] 33))
    rwa [World.size_alloc] at this
  have tx := ((Touch.refl [] w2).alloc (.cells #[.int .i64 k1, .string nm1, .int .i64 vk1, .int .i64 vn1, .string vt1, .string op1, .slice B1 m1 c1] 33)).alloc (.cells #[] 66)
  have hbx := ((Touch.refl [] (w2.alloc (.cells #[.int .i64 k1, .string nm1, .int .i64 vk1, .int .i64 vn1, .string vt1, .string op1, .slice B1 m1 c1] 33))).alloc (.cells #[] 66)).blk (heap_alloc_new w2 (.cells #[.int .i64 k1, .string nm1, .int .i64 vk1, .int .i64 vn1, .string vt1, .string op1, .slice B1 m1 c1] 33)) (by simp)
  refine wpList_appK rfl (.tmp 33) (.tmp 34) 22 rfl 66 _ 7 80 info_plain Try.underlying22 rfl (by omega) plE_length plE_one (some ⟨w2.heap.size + 1, 0, none⟩) 0 0 [] rfl rfl hm0
    A len cap l Hl.out rfl (h.touch0 ((u1.trans0 u2).trans0 tx)) (by omega) (by omega) ?_
  intro A4 c4 w4 hown4 ht4 hf4
  rw [List.nil_append] at hown4
  rw [Nat.zero_add]
  obtain ⟨G, rfl⟩ : ∃ G, A4 = some ⟨G, 0, none⟩ := by
    rcases hown4.head with ⟨_, e, _⟩ | ⟨G, e⟩
    · rw [e] at hl0; simp at hl0
    · exact ⟨G, e⟩
  have hG : w2.heap.size + 1 ≤ G := by
    rcases hf4 G (by simp [fpo]) with q | q
    · simp [fpo] at q; omega
    · simp at q; omega
  have hc4 : len ≤ c4 := by have := hown4.le; rw [Hl.out] at this; exact this
  have s1 := u1.size
  have s2 := u2.size
  have T4 := ((u1.trans0 u2).trans0 tx).trans ht4 (fun b hb => .inr (by simp [fpo] at hb; omega))
  have T24 := tx.trans ht4 (fun b hb => .inr (by simp [fpo] at hb; omega))
  have hx4 := hx.touch0 T24
  have hpok := hp _ (List.getElem_mem hi)
  have hX4 := ht4.blk hbx (by simp [fpo])
  obtain ⟨ad, b, off, e1, e2, e3, hcell⟩ := RdK.at_ hown4.rd 7 plE_length (by omega) i hi
  have e0 : (⟨G, 0, none⟩ : Addr).add (i * 7) = ⟨G, i * 7, none⟩ := by unfold Addr.add; split <;> simp_all
  cases e1
  rw [e0] at e2
  cases e2
  obtain ⟨p, hpe⟩ : ∃ p, p = l[i] := ⟨_, rfl⟩
  rw [← hpe] at hcell hpok
  have hset := fun (o : Nat) (ho : o < 7) (v : Value) (y : PL) (hy : plE y = (plE p).set o v) => OwnK.set hown4 plE_length i hi o ho v y (by rw [hpe] at hy; exact hy)
  have hbs := fun (y : PL) (hc : y.cnt = p.cnt) (hn : p.nd ≠ y.nd) => Hbs.out y (by rw [hpe] at hc; exact hc) (by rw [hpe] at hn; exact hn)
  obtain ⟨⟨kd, nm, ⟨vk, vn, vt⟩, op⟩, cnt⟩ := p
  have c0 := hcell 0 _ rfl; have c1' := hcell 1 _ rfl; have c3 := hcell 3 _ rfl; have c5 := hcell 5 _ rfl
  have z0 := World.ownsRow.frozenAt hown4 (i * 7); have z1 := World.ownsRow.frozenAt hown4 (i * 7 + 1); have z3 := World.ownsRow.frozenAt hown4 (i * 7 + 3); have z5 := World.ownsRow.frozenAt hown4 (i * 7 + 5)
  rw [Nat.add_zero] at c0
  simp only at c0 c1' c3 c5
  have Hset := Lib.hid hset; have Hbs2 := Lib.hid hbs; have Hown4 := Lib.hid hown4; have Hx4 := Lib.hid hx4; have HX4 := Lib.hid hX4
  clear hset hbs hown4 hx4 hX4 hcell hpe hp ht4 hbx tx hm0 hf4 e3 hx
  have hnm : ¬ 9223372036854775807 < nm.size + 1 := by have := hpok.1; simp only at this; omega
  have hop : ¬ 9223372036854775807 < op.size + 1 := by have := hpok.2.1; simp only at this; omega
  clear hpok
  by_cases hw0 : what = 0
  · subst hw0
    have tset := (Touch.refl [G] w4).setCell (p := ⟨G, i * 7 + 0, none⟩) (.inl (by simp)) (.int .i64 (bits .xor .i64 kd 1))
    obtain ⟨hq1, hq2⟩ := Hbs2.out ⟨⟨bits .xor .i64 kd 1, nm, ⟨vk, vn, vt⟩, op⟩, cnt⟩ rfl (fun q => xor1_ne kd (congrArg ND.kind q).symm)
    have hown5 := Hset.out 0 (by omega) (.int .i64 (bits .xor .i64 kd 1)) ⟨⟨bits .xor .i64 kd 1, nm, ⟨vk, vn, vt⟩, op⟩, cnt⟩ rfl
    have hx5 := (Hx4.out.touch tset (fun b hb hp => by simp at hb; have := hp.2; omega)).any
    have hX5 := tset.blk HX4.out (by simp; omega)
    have hsb := hsz (l.set i ⟨⟨bits .xor .i64 kd 1, nm, ⟨vk, vn, vt⟩, op⟩, cnt⟩) (fun q => by have := congrArg List.length q; rw [List.length_set, List.length_nil] at this; omega) (by rw [List.length_set]; exact Hl.out)
    have hbb := Hbr.out (l.set i ⟨⟨bits .xor .i64 kd 1, nm, ⟨vk, vn, vt⟩, op⟩, cnt⟩) (by rw [List.length_set]; exact Hl.out) G c4 _ hown5.rd hc4
    obtain ⟨tb, htb⟩ : ∃ r, r = (buildX 60 (l.set i ⟨⟨bits .xor .i64 kd 1, nm, ⟨vk, vn, vt⟩, op⟩, cnt⟩)).1 := ⟨_, rfl⟩
    rw [← htb] at hsb hbb hq1 hq2
    clear htb
    have Hsb := Lib.hid hsb
    clear hsb
    by_cases hni : n ≤ i
    · have hni2 : (n : Int) ≤ (i : Int) := by omega
      rw [decide_eq_true hni] at hq1 hq2
      go_wp2_with fail
      refine hbb.mono ?_
      rintro e w5 ⟨x2, rfl, hx6, u5⟩
      replace hx6 := hx6.any
      obtain ⟨⟨k2, nm2, ⟨vk2, vn2, vt2⟩, op2⟩, B2, m2, c2⟩ := x2
      dsimp only [XC.val]
      have ty := (Touch.refl [] w5).alloc (.cells #[.int .i64 k2, .string nm2, .int .i64 vk2, .int .i64 vn2, .string vt2, .string op2, .slice B2 m2 c2] 33)
      have hby := heap_alloc_new w5 (.cells #[.int .i64 k2, .string nm2, .int .i64 vk2, .int .i64 vn2, .string vt2, .string op2, .slice B2 m2 c2] 33)
      have hX6 := ty.blk (u5.blk hX5 (by simp)) (by simp)
      have he1 := fun w' (t : Touch [] (w5.alloc (.cells #[.int .i64 k2, .string nm2, .int .i64 vk2, .int .i64 vn2, .string vt2, .string op2, .slice B2 m2 c2] 33)) w') => equalX_any 61 ta tb _ _ w' (((hx5.touch0 u5).touch0 ty).touch0 t) ((hx6.touch0 ty).touch0 t) hsa Hsb.out
      have he2 := fun w' (t : Touch [] (w5.alloc (.cells #[.int .i64 k2, .string nm2, .int .i64 vk2, .int .i64 vn2, .string vt2, .string op2, .slice B2 m2 c2] 33)) w') => equalX_any 61 tb ta _ _ w' ((hx6.touch0 ty).touch0 t) (((hx5.touch0 u5).touch0 ty).touch0 t) Hsb.out hsa
      rw [hq1] at he1
      rw [hq2] at he2
      simp only [XC.val] at he1 he2
      have He1 := Lib.hid he1
      have He2 := Lib.hid he2
      clear he1 he2 hx5 hx6
      obtain ⟨a0, a1, a2, a3, a4, a5, a6, _⟩ := blk7 hX6
      obtain ⟨b0, b1, b2, b3, b4, b5, b6, _⟩ := blk7 hby
      go_wp2_with fail
      clear a0 a1 a2 a3 a4 a5 a6 b0 b1 b2 b3 b4 b5 b6
      refine (He1.out _ (Touch.refl _ _)).mono ?_
      rintro e w6 ⟨rfl, u6⟩
      obtain ⟨a0, a1, a2, a3, a4, a5, a6, _⟩ := blk7 (u6.blk hX6 (by simp))
      obtain ⟨b0, b1, b2, b3, b4, b5, b6, _⟩ := blk7 (u6.blk hby (by simp))
      go_wp2_with fail
      clear a0 a1 a2 a3 a4 a5 a6 b0 b1 b2 b3 b4 b5 b6
      refine (He2.out _ u6).mono ?_
      rintro e w7 ⟨rfl, u7⟩
      go_wp2_with fail
      refine (Haw.out _).mono ?_
      rintro e w8 ⟨rfl, u8⟩
      go_wp2_with fail
      go_ret
      exact ⟨rfl, ((((T4.trans tset (fun b hb => .inr (by simp at hb; omega))).trans0 u5).trans0 ty).trans0 u6).trans0 (u7.trans0 u8)⟩
    · have hni2 : ¬ (n : Int) ≤ (i : Int) := by omega
      rw [decide_eq_false hni] at hq1 hq2
      go_wp2_with fail
      refine hbb.mono ?_
      rintro e w5 ⟨x2, rfl, hx6, u5⟩
      replace hx6 := hx6.any
      obtain ⟨⟨k2, nm2, ⟨vk2, vn2, vt2⟩, op2⟩, B2, m2, c2⟩ := x2
      dsimp only [XC.val]
      have ty := (Touch.refl [] w5).alloc (.cells #[.int .i64 k2, .string nm2, .int .i64 vk2, .int .i64 vn2, .string vt2, .string op2, .slice B2 m2 c2] 33)
      have hby := heap_alloc_new w5 (.cells #[.int .i64 k2, .string nm2, .int .i64 vk2, .int .i64 vn2, .string vt2, .string op2, .slice B2 m2 c2] 33)
      have hX6 := ty.blk (u5.blk hX5 (by simp)) (by simp)
      have he1 := fun w' (t : Touch [] (w5.alloc (.cells #[.int .i64 k2, .string nm2, .int .i64 vk2, .int .i64 vn2, .string vt2, .string op2, .slice B2 m2 c2] 33)) w') => equalX_any 61 ta tb _ _ w' (((hx5.touch0 u5).touch0 ty).touch0 t) ((hx6.touch0 ty).touch0 t) hsa Hsb.out
      have he2 := fun w' (t : Touch [] (w5.alloc (.cells #[.int .i64 k2, .string nm2, .int .i64 vk2, .int .i64 vn2, .string vt2, .string op2, .slice B2 m2 c2] 33)) w') => equalX_any 61 tb ta _ _ w' ((hx6.touch0 ty).touch0 t) (((hx5.touch0 u5).touch0 ty).touch0 t) Hsb.out hsa
      rw [hq1] at he1
      rw [hq2] at he2
      simp only [XC.val] at he1 he2
      have He1 := Lib.hid he1
      have He2 := Lib.hid he2
      clear he1 he2 hx5 hx6
      obtain ⟨a0, a1, a2, a3, a4, a5, a6, _⟩ := blk7 hX6
      obtain ⟨b0, b1, b2, b3, b4, b5, b6, _⟩ := blk7 hby
      go_wp2_with fail
      clear a0 a1 a2 a3 a4 a5 a6 b0 b1 b2 b3 b4 b5 b6
      refine (He1.out _ (Touch.refl _ _)).mono ?_
      rintro e w6 ⟨rfl, u6⟩
      obtain ⟨a0, a1, a2, a3, a4, a5, a6, _⟩ := blk7 (u6.blk hX6 (by simp))
      obtain ⟨b0, b1, b2, b3, b4, b5, b6, _⟩ := blk7 (u6.blk hby (by simp))
      go_wp2_with fail
      clear a0 a1 a2 a3 a4 a5 a6 b0 b1 b2 b3 b4 b5 b6
      refine (He2.out _ u6).mono ?_
      rintro e w7 ⟨rfl, u7⟩
      go_wp2_with fail
      refine (Haw.out _).mono ?_
      rintro e w8 ⟨rfl, u8⟩
      go_wp2_with fail
      go_ret
      exact ⟨rfl, ((((T4.trans tset (fun b hb => .inr (by simp at hb; omega))).trans0 u5).trans0 ty).trans0 u6).trans0 (u7.trans0 u8)⟩
  have e0' : (what == 0) = false := by simpa using hw0
  by_cases hw1 : what = 1
  · subst hw1
    have tset := (Touch.refl [G] w4).setCell (p := ⟨G, i * 7 + 1, none⟩) (.inl (by simp)) (.string (nm ++ (⟨#[120]⟩ : ByteArray)))
    obtain ⟨hq1, hq2⟩ := Hbs2.out ⟨⟨kd, nm ++ (⟨#[120]⟩ : ByteArray), ⟨vk, vn, vt⟩, op⟩, cnt⟩ rfl (fun q => app1_ne nm (congrArg ND.name q))
    have hown5 := Hset.out 1 (by omega) (.string (nm ++ (⟨#[120]⟩ : ByteArray))) ⟨⟨kd, nm ++ (⟨#[120]⟩ : ByteArray), ⟨vk, vn, vt⟩, op⟩, cnt⟩ rfl
    have hx5 := (Hx4.out.touch tset (fun b hb hp => by simp at hb; have := hp.2; omega)).any
    have hX5 := tset.blk HX4.out (by simp; omega)
    have hsb := hsz (l.set i ⟨⟨kd, nm ++ (⟨#[120]⟩ : ByteArray), ⟨vk, vn, vt⟩, op⟩, cnt⟩) (fun q => by have := congrArg List.length q; rw [List.length_set, List.length_nil] at this; omega) (by rw [List.length_set]; exact Hl.out)
    have hbb := Hbr.out (l.set i ⟨⟨kd, nm ++ (⟨#[120]⟩ : ByteArray), ⟨vk, vn, vt⟩, op⟩, cnt⟩) (by rw [List.length_set]; exact Hl.out) G c4 _ hown5.rd hc4
    obtain ⟨tb, htb⟩ : ∃ r, r = (buildX 60 (l.set i ⟨⟨kd, nm ++ (⟨#[120]⟩ : ByteArray), ⟨vk, vn, vt⟩, op⟩, cnt⟩)).1 := ⟨_, rfl⟩
    rw [← htb] at hsb hbb hq1 hq2
    clear htb
    have Hsb := Lib.hid hsb
    clear hsb
    by_cases hni : n ≤ i
    · have hni2 : (n : Int) ≤ (i : Int) := by omega
      rw [decide_eq_true hni] at hq1 hq2
      go_wp2_with fail
      refine hbb.mono ?_
      rintro e w5 ⟨x2, rfl, hx6, u5⟩
      replace hx6 := hx6.any
      obtain ⟨⟨k2, nm2, ⟨vk2, vn2, vt2⟩, op2⟩, B2, m2, c2⟩ := x2
      dsimp only [XC.val]
      have ty := (Touch.refl [] w5).alloc (.cells #[.int .i64 k2, .string nm2, .int .i64 vk2, .int .i64 vn2, .string vt2, .string op2, .slice B2 m2 c2] 33)
      have hby := heap_alloc_new w5 (.cells #[.int .i64 k2, .string nm2, .int .i64 vk2, .int .i64 vn2, .string vt2, .string op2, .slice B2 m2 c2] 33)
      have hX6 := ty.blk (u5.blk hX5 (by simp)) (by simp)
      have he1 := fun w' (t : Touch [] (w5.alloc (.cells #[.int .i64 k2, .string nm2, .int .i64 vk2, .int .i64 vn2, .string vt2, .string op2, .slice B2 m2 c2] 33)) w') => equalX_any 61 ta tb _ _ w' (((hx5.touch0 u5).touch0 ty).touch0 t) ((hx6.touch0 ty).touch0 t) hsa Hsb.out
      have he2 := fun w' (t : Touch [] (w5.alloc (.cells #[.int .i64 k2, .string nm2, .int .i64 vk2, .int .i64 vn2, .string vt2, .string op2, .slice B2 m2 c2] 33)) w') => equalX_any 61 tb ta _ _ w' ((hx6.touch0 ty).touch0 t) (((hx5.touch0 u5).touch0 ty).touch0 t) Hsb.out hsa
      rw [hq1] at he1
      rw [hq2] at he2
      simp only [XC.val] at he1 he2
      have He1 := Lib.hid he1
      have He2 := Lib.hid he2
      clear he1 he2 hx5 hx6
      obtain ⟨a0, a1, a2, a3, a4, a5, a6, _⟩ := blk7 hX6
      obtain ⟨b0, b1, b2, b3, b4, b5, b6, _⟩ := blk7 hby
      go_wp2_with fail
      clear a0 a1 a2 a3 a4 a5 a6 b0 b1 b2 b3 b4 b5 b6
      refine (He1.out _ (Touch.refl _ _)).mono ?_
      rintro e w6 ⟨rfl, u6⟩
      obtain ⟨a0, a1, a2, a3, a4, a5, a6, _⟩ := blk7 (u6.blk hX6 (by simp))
      obtain ⟨b0, b1, b2, b3, b4, b5, b6, _⟩ := blk7 (u6.blk hby (by simp))
      go_wp2_with fail
      clear a0 a1 a2 a3 a4 a5 a6 b0 b1 b2 b3 b4 b5 b6
      refine (He2.out _ u6).mono ?_
      rintro e w7 ⟨rfl, u7⟩
      go_wp2_with fail
      refine (Haw.out _).mono ?_
      rintro e w8 ⟨rfl, u8⟩
      go_wp2_with fail
      go_ret
      exact ⟨rfl, ((((T4.trans tset (fun b hb => .inr (by simp at hb; omega))).trans0 u5).trans0 ty).trans0 u6).trans0 (u7.trans0 u8)⟩
    · have hni2 : ¬ (n : Int) ≤ (i : Int) := by omega
      rw [decide_eq_false hni] at hq1 hq2
      go_wp2_with fail
      refine hbb.mono ?_
      rintro e w5 ⟨x2, rfl, hx6, u5⟩
      replace hx6 := hx6.any
      obtain ⟨⟨k2, nm2, ⟨vk2, vn2, vt2⟩, op2⟩, B2, m2, c2⟩ := x2
      dsimp only [XC.val]
      have ty := (Touch.refl [] w5).alloc (.cells #[.int .i64 k2, .string nm2, .int .i64 vk2, .int .i64 vn2, .string vt2, .string op2, .slice B2 m2 c2] 33)
      have hby := heap_alloc_new w5 (.cells #[.int .i64 k2, .string nm2, .int .i64 vk2, .int .i64 vn2, .string vt2, .string op2, .slice B2 m2 c2] 33)
      have hX6 := ty.blk (u5.blk hX5 (by simp)) (by simp)
      have he1 := fun w' (t : Touch [] (w5.alloc (.cells #[.int .i64 k2, .string nm2, .int .i64 vk2, .int .i64 vn2, .string vt2, .string op2, .slice B2 m2 c2] 33)) w') => equalX_any 61 ta tb _ _ w' (((hx5.touch0 u5).touch0 ty).touch0 t) ((hx6.touch0 ty).touch0 t) hsa Hsb.out
      have he2 := fun w' (t : Touch [] (w5.alloc (.cells #[.int .i64 k2, .string nm2, .int .i64 vk2, .int .i64 vn2, .string vt2, .string op2, .slice B2 m2 c2] 33)) w') => equalX_any 61 tb ta _ _ w' ((hx6.touch0 ty).touch0 t) (((hx5.touch0 u5).touch0 ty).touch0 t) Hsb.out hsa
      rw [hq1] at he1
      rw [hq2] at he2
      simp only [XC.val] at he1 he2
      have He1 := Lib.hid he1
      have He2 := Lib.hid he2
      clear he1 he2 hx5 hx6
      obtain ⟨a0, a1, a2, a3, a4, a5, a6, _⟩ := blk7 hX6
      obtain ⟨b0, b1, b2, b3, b4, b5, b6, _⟩ := blk7 hby
      go_wp2_with fail
      clear a0 a1 a2 a3 a4 a5 a6 b0 b1 b2 b3 b4 b5 b6
      refine (He1.out _ (Touch.refl _ _)).mono ?_
      rintro e w6 ⟨rfl, u6⟩
      obtain ⟨a0, a1, a2, a3, a4, a5, a6, _⟩ := blk7 (u6.blk hX6 (by simp))
      obtain ⟨b0, b1, b2, b3, b4, b5, b6, _⟩ := blk7 (u6.blk hby (by simp))
      go_wp2_with fail
      clear a0 a1 a2 a3 a4 a5 a6 b0 b1 b2 b3 b4 b5 b6
      refine (He2.out _ u6).mono ?_
      rintro e w7 ⟨rfl, u7⟩
      go_wp2_with fail
      refine (Haw.out _).mono ?_
      rintro e w8 ⟨rfl, u8⟩
      go_wp2_with fail
      go_ret
      exact ⟨rfl, ((((T4.trans tset (fun b hb => .inr (by simp at hb; omega))).trans0 u5).trans0 ty).trans0 u6).trans0 (u7.trans0 u8)⟩
  have e1' : (what == 1) = false := by simpa using hw1
  by_cases hw2 : what = 2
  · subst hw2
    have tset := (Touch.refl [G] w4).setCell (p := ⟨G, i * 7 + 3, none⟩) (.inl (by simp)) (.int .i64 (bits .xor .i64 vn 1))
    obtain ⟨hq1, hq2⟩ := Hbs2.out ⟨⟨kd, nm, ⟨vk, bits .xor .i64 vn 1, vt⟩, op⟩, cnt⟩ rfl (fun q => xor1_ne vn (congrArg (fun d => d.v.num) q).symm)
    have hown5 := Hset.out 3 (by omega) (.int .i64 (bits .xor .i64 vn 1)) ⟨⟨kd, nm, ⟨vk, bits .xor .i64 vn 1, vt⟩, op⟩, cnt⟩ rfl
    have hx5 := (Hx4.out.touch tset (fun b hb hp => by simp at hb; have := hp.2; omega)).any
    have hX5 := tset.blk HX4.out (by simp; omega)
    have hsb := hsz (l.set i ⟨⟨kd, nm, ⟨vk, bits .xor .i64 vn 1, vt⟩, op⟩, cnt⟩) (fun q => by have := congrArg List.length q; rw [List.length_set, List.length_nil] at this; omega) (by rw [List.length_set]; exact Hl.out)
    have hbb := Hbr.out (l.set i ⟨⟨kd, nm, ⟨vk, bits .xor .i64 vn 1, vt⟩, op⟩, cnt⟩) (by rw [List.length_set]; exact Hl.out) G c4 _ hown5.rd hc4
    obtain ⟨tb, htb⟩ : ∃ r, r = (buildX 60 (l.set i ⟨⟨kd, nm, ⟨vk, bits .xor .i64 vn 1, vt⟩, op⟩, cnt⟩)).1 := ⟨_, rfl⟩
    rw [← htb] at hsb hbb hq1 hq2
    clear htb
    have Hsb := Lib.hid hsb
    clear hsb
    by_cases hni : n ≤ i
    · have hni2 : (n : Int) ≤ (i : Int) := by omega
      rw [decide_eq_true hni] at hq1 hq2
      go_wp2_with fail
      refine hbb.mono ?_
      rintro e w5 ⟨x2, rfl, hx6, u5⟩
      replace hx6 := hx6.any
      obtain ⟨⟨k2, nm2, ⟨vk2, vn2, vt2⟩, op2⟩, B2, m2, c2⟩ := x2
      dsimp only [XC.val]
      have ty := (Touch.refl [] w5).alloc (.cells #[.int .i64 k2, .string nm2, .int .i64 vk2, .int .i64 vn2, .string vt2, .string op2, .slice B2 m2 c2] 33)
      have hby := heap_alloc_new w5 (.cells #[.int .i64 k2, .string nm2, .int .i64 vk2, .int .i64 vn2, .string vt2, .string op2, .slice B2 m2 c2] 33)
      have hX6 := ty.blk (u5.blk hX5 (by simp)) (by simp)
      have he1 := fun w' (t : Touch [] (w5.alloc (.cells #[.int .i64 k2, .string nm2, .int .i64 vk2, .int .i64 vn2, .string vt2, .string op2, .slice B2 m2 c2] 33)) w') => equalX_any 61 ta tb _ _ w' (((hx5.touch0 u5).touch0 ty).touch0 t) ((hx6.touch0 ty).touch0 t) hsa Hsb.out
      have he2 := fun w' (t : Touch [] (w5.alloc (.cells #[.int .i64 k2, .string nm2, .int .i64 vk2, .int .i64 vn2, .string vt2, .string op2, .slice B2 m2 c2] 33)) w') => equalX_any 61 tb ta _ _ w' ((hx6.touch0 ty).touch0 t) (((hx5.touch0 u5).touch0 ty).touch0 t) Hsb.out hsa
      rw [hq1] at he1
      rw [hq2] at he2
      simp only [XC.val] at he1 he2
      have He1 := Lib.hid he1
      have He2 := Lib.hid he2
      clear he1 he2 hx5 hx6
      obtain ⟨a0, a1, a2, a3, a4, a5, a6, _⟩ := blk7 hX6
      obtain ⟨b0, b1, b2, b3, b4, b5, b6, _⟩ := blk7 hby
      go_wp2_with fail
      clear a0 a1 a2 a3 a4 a5 a6 b0 b1 b2 b3 b4 b5 b6
      refine (He1.out _ (Touch.refl _ _)).mono ?_
      rintro e w6 ⟨rfl, u6⟩
      obtain ⟨a0, a1, a2, a3, a4, a5, a6, _⟩ := blk7 (u6.blk hX6 (by simp))
      obtain ⟨b0, b1, b2, b3, b4, b5, b6, _⟩ := blk7 (u6.blk hby (by simp))
      go_wp2_with fail
      clear a0 a1 a2 a3 a4 a5 a6 b0 b1 b2 b3 b4 b5 b6
      refine (He2.out _ u6).mono ?_
      rintro e w7 ⟨rfl, u7⟩
      go_wp2_with fail
      refine (Haw.out _).mono ?_
      rintro e w8 ⟨rfl, u8⟩
      go_wp2_with fail
      go_ret
      exact ⟨rfl, ((((T4.trans tset (fun b hb => .inr (by simp at hb; omega))).trans0 u5).trans0 ty).trans0 u6).trans0 (u7.trans0 u8)⟩
    · have hni2 : ¬ (n : Int) ≤ (i : Int) := by omega
      rw [decide_eq_false hni] at hq1 hq2
      go_wp2_with fail
      refine hbb.mono ?_
      rintro e w5 ⟨x2, rfl, hx6, u5⟩
      replace hx6 := hx6.any
      obtain ⟨⟨k2, nm2, ⟨vk2, vn2, vt2⟩, op2⟩, B2, m2, c2⟩ := x2
      dsimp only [XC.val]
      have ty := (Touch.refl [] w5).alloc (.cells #[.int .i64 k2, .string nm2, .int .i64 vk2, .int .i64 vn2, .string vt2, .string op2, .slice B2 m2 c2] 33)
      have hby := heap_alloc_new w5 (.cells #[.int .i64 k2, .string nm2, .int .i64 vk2, .int .i64 vn2, .string vt2, .string op2, .slice B2 m2 c2] 33)
      have hX6 := ty.blk (u5.blk hX5 (by simp)) (by simp)
      have he1 := fun w' (t : Touch [] (w5.alloc (.cells #[.int .i64 k2, .string nm2, .int .i64 vk2, .int .i64 vn2, .string vt2, .string op2, .slice B2 m2 c2] 33)) w') => equalX_any 61 ta tb _ _ w' (((hx5.touch0 u5).touch0 ty).touch0 t) ((hx6.touch0 ty).touch0 t) hsa Hsb.out
      have he2 := fun w' (t : Touch [] (w5.alloc (.cells #[.int .i64 k2, .string nm2, .int .i64 vk2, .int .i64 vn2, .string vt2, .string op2, .slice B2 m2 c2] 33)) w') => equalX_any 61 tb ta _ _ w' ((hx6.touch0 ty).touch0 t) (((hx5.touch0 u5).touch0 ty).touch0 t) Hsb.out hsa
      rw [hq1] at he1
      rw [hq2] at he2
      simp only [XC.val] at he1 he2
      have He1 := Lib.hid he1
      have He2 := Lib.hid he2
      clear he1 he2 hx5 hx6
      obtain ⟨a0, a1, a2, a3, a4, a5, a6, _⟩ := blk7 hX6
      obtain ⟨b0, b1, b2, b3, b4, b5, b6, _⟩ := blk7 hby
      go_wp2_with fail
      clear a0 a1 a2 a3 a4 a5 a6 b0 b1 b2 b3 b4 b5 b6
      refine (He1.out _ (Touch.refl _ _)).mono ?_
      rintro e w6 ⟨rfl, u6⟩
      obtain ⟨a0, a1, a2, a3, a4, a5, a6, _⟩ := blk7 (u6.blk hX6 (by simp))
      obtain ⟨b0, b1, b2, b3, b4, b5, b6, _⟩ := blk7 (u6.blk hby (by simp))
      go_wp2_with fail
      clear a0 a1 a2 a3 a4 a5 a6 b0 b1 b2 b3 b4 b5 b6
      refine (He2.out _ u6).mono ?_
      rintro e w7 ⟨rfl, u7⟩
      go_wp2_with fail
      refine (Haw.out _).mono ?_
      rintro e w8 ⟨rfl, u8⟩
      go_wp2_with fail
      go_ret
      exact ⟨rfl, ((((T4.trans tset (fun b hb => .inr (by simp at hb; omega))).trans0 u5).trans0 ty).trans0 u6).trans0 (u7.trans0 u8)⟩
  have e2' : (what == 2) = false := by simpa using hw2
  by_cases hw3 : what = 3
  · subst hw3
    have tset := (Touch.refl [G] w4).setCell (p := ⟨G, i * 7 + 5, none⟩) (.inl (by simp)) (.string (op ++ (⟨#[120]⟩ : ByteArray)))
    obtain ⟨hq1, hq2⟩ := Hbs2.out ⟨⟨kd, nm, ⟨vk, vn, vt⟩, op ++ (⟨#[120]⟩ : ByteArray)⟩, cnt⟩ rfl (fun q => app1_ne op (congrArg ND.op q))
    have hown5 := Hset.out 5 (by omega) (.string (op ++ (⟨#[120]⟩ : ByteArray))) ⟨⟨kd, nm, ⟨vk, vn, vt⟩, op ++ (⟨#[120]⟩ : ByteArray)⟩, cnt⟩ rfl
    have hx5 := (Hx4.out.touch tset (fun b hb hp => by simp at hb; have := hp.2; omega)).any
    have hX5 := tset.blk HX4.out (by simp; omega)
    have hsb := hsz (l.set i ⟨⟨kd, nm, ⟨vk, vn, vt⟩, op ++ (⟨#[120]⟩ : ByteArray)⟩, cnt⟩) (fun q => by have := congrArg List.length q; rw [List.length_set, List.length_nil] at this; omega) (by rw [List.length_set]; exact Hl.out)
    have hbb := Hbr.out (l.set i ⟨⟨kd, nm, ⟨vk, vn, vt⟩, op ++ (⟨#[120]⟩ : ByteArray)⟩, cnt⟩) (by rw [List.length_set]; exact Hl.out) G c4 _ hown5.rd hc4
    obtain ⟨tb, htb⟩ : ∃ r, r = (buildX 60 (l.set i ⟨⟨kd, nm, ⟨vk, vn, vt⟩, op ++ (⟨#[120]⟩ : ByteArray)⟩, cnt⟩)).1 := ⟨_, rfl⟩
    rw [← htb] at hsb hbb hq1 hq2
    clear htb
    have Hsb := Lib.hid hsb
    clear hsb
    by_cases hni : n ≤ i
    · have hni2 : (n : Int) ≤ (i : Int) := by omega
      rw [decide_eq_true hni] at hq1 hq2
      go_wp2_with fail
      refine hbb.mono ?_
      rintro e w5 ⟨x2, rfl, hx6, u5⟩
      replace hx6 := hx6.any
      obtain ⟨⟨k2, nm2, ⟨vk2, vn2, vt2⟩, op2⟩, B2, m2, c2⟩ := x2
      dsimp only [XC.val]
      have ty := (Touch.refl [] w5).alloc (.cells #[.int .i64 k2, .string nm2, .int .i64 vk2, .int .i64 vn2, .string vt2, .string op2, .slice B2 m2 c2] 33)
      have hby := heap_alloc_new w5 (.cells #[.int .i64 k2, .string nm2, .int .i64 vk2, .int .i64 vn2, .string vt2, .string op2, .slice B2 m2 c2] 33)
      have hX6 := ty.blk (u5.blk hX5 (by simp)) (by simp)
      have he1 := fun w' (t : Touch [] (w5.alloc (.cells #[.int .i64 k2, .string nm2, .int .i64 vk2, .int .i64 vn2, .string vt2, .string op2, .slice B2 m2 c2] 33)) w') => equalX_any 61 ta tb _ _ w' (((hx5.touch0 u5).touch0 ty).touch0 t) ((hx6.touch0 ty).touch0 t) hsa Hsb.out
      have he2 := fun w' (t : Touch [] (w5.alloc (.cells #[.int .i64 k2, .string nm2, .int .i64 vk2, .int .i64 vn2, .string vt2, .string op2, .slice B2 m2 c2] 33)) w') => equalX_any 61 tb ta _ _ w' ((hx6.touch0 ty).touch0 t) (((hx5.touch0 u5).touch0 ty).touch0 t) Hsb.out hsa
      rw [hq1] at he1
      rw [hq2] at he2
      simp only [XC.val] at he1 he2
      have He1 := Lib.hid he1
      have He2 := Lib.hid he2
      clear he1 he2 hx5 hx6
      obtain ⟨a0, a1, a2, a3, a4, a5, a6, _⟩ := blk7 hX6
      obtain ⟨b0, b1, b2, b3, b4, b5, b6, _⟩ := blk7 hby
      go_wp2_with fail
      clear a0 a1 a2 a3 a4 a5 a6 b0 b1 b2 b3 b4 b5 b6
      refine (He1.out _ (Touch.refl _ _)).mono ?_
      rintro e w6 ⟨rfl, u6⟩
      obtain ⟨a0, a1, a2, a3, a4, a5, a6, _⟩ := blk7 (u6.blk hX6 (by simp))
      obtain ⟨b0, b1, b2, b3, b4, b5, b6, _⟩ := blk7 (u6.blk hby (by simp))
      go_wp2_with fail
      clear a0 a1 a2 a3 a4 a5 a6 b0 b1 b2 b3 b4 b5 b6
      refine (He2.out _ u6).mono ?_
      rintro e w7 ⟨rfl, u7⟩
      go_wp2_with fail
      refine (Haw.out _).mono ?_
      rintro e w8 ⟨rfl, u8⟩
      go_wp2_with fail
      go_ret
      exact ⟨rfl, ((((T4.trans tset (fun b hb => .inr (by simp at hb; omega))).trans0 u5).trans0 ty).trans0 u6).trans0 (u7.trans0 u8)⟩
    · have hni2 : ¬ (n : Int) ≤ (i : Int) := by omega
      rw [decide_eq_false hni] at hq1 hq2
      go_wp2_with fail
      refine hbb.mono ?_
      rintro e w5 ⟨x2, rfl, hx6, u5⟩
      replace hx6 := hx6.any
      obtain ⟨⟨k2, nm2, ⟨vk2, vn2, vt2⟩, op2⟩, B2, m2, c2⟩ := x2
      dsimp only [XC.val]
      have ty := (Touch.refl [] w5).alloc (.cells #[.int .i64 k2, .string nm2, .int .i64 vk2, .int .i64 vn2, .string vt2, .string op2, .slice B2 m2 c2] 33)
      have hby := heap_alloc_new w5 (.cells #[.int .i64 k2, .string nm2, .int .i64 vk2, .int .i64 vn2, .string vt2, .string op2, .slice B2 m2 c2] 33)
      have hX6 := ty.blk (u5.blk hX5 (by simp)) (by simp)
      have he1 := fun w' (t : Touch [] (w5.alloc (.cells #[.int .i64 k2, .string nm2, .int .i64 vk2, .int .i64 vn2, .string vt2, .string op2, .slice B2 m2 c2] 33)) w') => equalX_any 61 ta tb _ _ w' (((hx5.touch0 u5).touch0 ty).touch0 t) ((hx6.touch0 ty).touch0 t) hsa Hsb.out
      have he2 := fun w' (t : Touch [] (w5.alloc (.cells #[.int .i64 k2, .string nm2, .int .i64 vk2, .int .i64 vn2, .string vt2, .string op2, .slice B2 m2 c2] 33)) w') => equalX_any 61 tb ta _ _ w' ((hx6.touch0 ty).touch0 t) (((hx5.touch0 u5).touch0 ty).touch0 t) Hsb.out hsa
      rw [hq1] at he1
      rw [hq2] at he2
      simp only [XC.val] at he1 he2
      have He1 := Lib.hid he1
      have He2 := Lib.hid he2
      clear he1 he2 hx5 hx6
      obtain ⟨a0, a1, a2, a3, a4, a5, a6, _⟩ := blk7 hX6
      obtain ⟨b0, b1, b2, b3, b4, b5, b6, _⟩ := blk7 hby
      go_wp2_with fail
      clear a0 a1 a2 a3 a4 a5 a6 b0 b1 b2 b3 b4 b5 b6
      refine (He1.out _ (Touch.refl _ _)).mono ?_
      rintro e w6 ⟨rfl, u6⟩
      obtain ⟨a0, a1, a2, a3, a4, a5, a6, _⟩ := blk7 (u6.blk hX6 (by simp))
      obtain ⟨b0, b1, b2, b3, b4, b5, b6, _⟩ := blk7 (u6.blk hby (by simp))
      go_wp2_with fail
      clear a0 a1 a2 a3 a4 a5 a6 b0 b1 b2 b3 b4 b5 b6
      refine (He2.out _ u6).mono ?_
      rintro e w7 ⟨rfl, u7⟩
      go_wp2_with fail
      refine (Haw.out _).mono ?_
      rintro e w8 ⟨rfl, u8⟩
      go_wp2_with fail
      go_ret
      exact ⟨rfl, ((((T4.trans tset (fun b hb => .inr (by simp at hb; omega))).trans0 u5).trans0 ty).trans0 u6).trans0 (u7.trans0 u8)⟩
  have e3' : (what == 3) = false := by simpa using hw3
  have tset := Touch.refl [G] w4
  have hq0 : eqX 61 ta ta = true := (eqX_iff 61 ta ta).2 rfl
  have hown5 := Hown4.out
  have hx5 := (Hx4.out.touch tset (fun b hb hp => by simp at hb; have := hp.2; omega)).any
  have hX5 := tset.blk HX4.out (by simp; omega)
  have hsb := hsa
  have hbb := Hbr.out l Hl.out G c4 _ hown5.rd hc4
  rw [← Hta.out] at hbb
  have Hsb := Lib.hid hsb
  clear hsb
  go_wp2_with fail
  refine hbb.mono ?_
  rintro e w5 ⟨x2, rfl, hx6, u5⟩
  replace hx6 := hx6.any
  obtain ⟨⟨k2, nm2, ⟨vk2, vn2, vt2⟩, op2⟩, B2, m2, c2⟩ := x2
  dsimp only [XC.val]
  have ty := (Touch.refl [] w5).alloc (.cells #[.int .i64 k2, .string nm2, .int .i64 vk2, .int .i64 vn2, .string vt2, .string op2, .slice B2 m2 c2] 33)
  have hby := heap_alloc_new w5 (.cells #[.int .i64 k2, .string nm2, .int .i64 vk2, .int .i64 vn2, .string vt2, .string op2, .slice B2 m2 c2] 33)
  have hX6 := ty.blk (u5.blk hX5 (by simp)) (by simp)
  have he1 := fun w' (t : Touch [] (w5.alloc (.cells #[.int .i64 k2, .string nm2, .int .i64 vk2, .int .i64 vn2, .string vt2, .string op2, .slice B2 m2 c2] 33)) w') => equalX_any 61 ta ta _ _ w' (((hx5.touch0 u5).touch0 ty).touch0 t) ((hx6.touch0 ty).touch0 t) hsa Hsb.out
  have he2 := fun w' (t : Touch [] (w5.alloc (.cells #[.int .i64 k2, .string nm2, .int .i64 vk2, .int .i64 vn2, .string vt2, .string op2, .slice B2 m2 c2] 33)) w') => equalX_any 61 ta ta _ _ w' ((hx6.touch0 ty).touch0 t) (((hx5.touch0 u5).touch0 ty).touch0 t) Hsb.out hsa
  rw [hq0] at he1 he2
  simp only [XC.val] at he1 he2
  have He1 := Lib.hid he1
  have He2 := Lib.hid he2
  clear he1 he2 hx5 hx6
  obtain ⟨a0, a1, a2, a3, a4, a5, a6, _⟩ := blk7 hX6
  obtain ⟨b0, b1, b2, b3, b4, b5, b6, _⟩ := blk7 hby
  go_wp2_with fail
  clear a0 a1 a2 a3 a4 a5 a6 b0 b1 b2 b3 b4 b5 b6
  refine (He1.out _ (Touch.refl _ _)).mono ?_
  rintro e w6 ⟨rfl, u6⟩
  obtain ⟨a0, a1, a2, a3, a4, a5, a6, _⟩ := blk7 (u6.blk hX6 (by simp))
  obtain ⟨b0, b1, b2, b3, b4, b5, b6, _⟩ := blk7 (u6.blk hby (by simp))
  go_wp2_with fail
  clear a0 a1 a2 a3 a4 a5 a6 b0 b1 b2 b3 b4 b5 b6
  refine (He2.out _ u6).mono ?_
  rintro e w7 ⟨rfl, u7⟩
  go_wp2_with fail
  refine (Haw.out _).mono ?_
  rintro e w8 ⟨rfl, u8⟩
  go_wp2_with fail
  go_ret
  exact ⟨rfl, ((((T4.trans tset (fun b hb => .inr (by simp at hb; omega))).trans0 u5).trans0 ty).trans0 u6).trans0 (u7.trans0 u8)⟩
end Go.Proofs.Ytlkckkagoommaaa
