/- Part 18 of the texts of this proof, one behind the other; each begins with its own sentence. No condition beyond those that its theorems state. -/
import Derived.Test.YtafoklilkdnepaaGreatDoorRt17
/- relop.Plan.Size, Type: for every plan whose Args are known. -/
namespace Go.Proofs.YtafoklilkdnepaaGreatDoor
open Go.RowKit

/-- how many plans one is, wherever it is asked for -/
def SizeC (w : World) (x : PC) (k : Nat) : Prop := ∀ w', Touch [] w w' → Calls Tryz.prog 19 #[x.val] w' fun e w'' => e = .returned (.int .i64 k) ∧ Touch [] w' w''
theorem sum_take_succ (l : List Nat) (j : Nat) (h : j < l.length) : (l.take (j + 1)).sum = (l.take j).sum + l[j] := by
  rw [List.take_succ_eq_append_getElem h, List.sum_append]; simp
theorem sum_take_le' (l : List Nat) (j : Nat) : (l.take j).sum ≤ l.sum := by
  induction l generalizing j with
  | nil => simp
  | cons a l ih => cases j with
    | zero => simp
    | succ j => have := ih j; rw [List.take_succ_cons, List.sum_cons, List.sum_cons]; omega

set_option maxRecDepth 40000 in
set_option maxHeartbeats 6400000 in
theorem size_node (x : PC) (xs : List PC) (ks : List Nat) (w : World) (hxs : xs.length = x.args.n) (hks : ks.length = x.args.n) (hX : RdK pcE w x.args.A xs) (hT : ∀ i (h1 : i < xs.length) (h2 : i < ks.length), SizeC w xs[i] ks[i]) (hsum : ks.sum ≤ 1000000) (hnn : x.args.n ≤ 1000000) :
    Calls Tryz.prog 19 #[x.val] w fun e w'' => e = .returned (.int .i64 (1 + ks.sum : Nat)) ∧ Touch [] w w'' := by
  obtain ⟨k0, k1, ⟨A2, n2, c2'⟩, ⟨⟨ck, cn, ⟨cvk, cvn, cvt⟩, cop⟩, CA, cnn, cc⟩, ⟨NA, nn, nc⟩, ⟨EA, en, ec⟩, ⟨OA, ol, oc⟩, ⟨GA, gn, gc⟩, ⟨BA, bn, bc⟩, count⟩ := x
  dsimp only at hxs hks hX hnn ⊢
  simp only [PC.val]
  obtain ⟨W, hW⟩ : ∃ W, W = w.alloc (.cells #[.int .i64 k0, .string k1, .slice A2 n2 c2', .int .i64 ck, .string cn, .int .i64 cvk, .int .i64 cvn, .string cvt, .string cop, .slice CA cnn cc, .slice NA nn nc, .slice EA en ec, .slice OA ol oc, .slice GA gn gc, .slice BA bn bc, .int .i64 count] 49) := ⟨_, rfl⟩
  have t0 : Touch [] w W := hW ▸ (Touch.refl [] w).alloc _
  have HW := Lib.hid hW
  have HT0 := Lib.hid t0
  have HX := Lib.hid (RdK.touch0 hX t0)
  have HTy := Lib.hid hT
  have Hxs := Lib.hid hxs
  have Hks := Lib.hid hks
  have Hsum := Lib.hid hsum
  clear hW t0 hX hT hxs hks hsum
  go_enter Tryz.func19, Tryz.ntmps19
  go_wp2_with fail
  rw [← HW.out]
  go_loopw [3, 9] (fun o i wr => ∃ (j q : Nat), j ≤ n2 ∧ q ≤ 1000001 ∧ i = .int .i64 j ∧ o = .int .i64 q ∧ Hid (q = 1 + (ks.take j).sum) ∧ Hid (Touch [] W wr)) (fun _ i _ => n2 - (intOf i).toNat)
  case atStart => exact ⟨0, 1, by omega, by omega, rfl, rfl, Lib.hid (by simp), Lib.hid (Touch.refl _ _)⟩
  case round =>
    obtain ⟨j, q, hj, hq, rfl, rfl, HQ, HT⟩ := hrel
    by_cases hlt : j < n2
    · have hjx : j < xs.length := by rw [Hxs.out]; exact hlt
      have hjv : j < ks.length := by rw [Hks.out]; exact hlt
      obtain ⟨ad, b1, o1, rfl, hadd, hc⟩ := RdK.cells (HX.out.touch0 HT.out) 16 pcE_length (by omega) j hjx
      have hty := HTy.out j hjx hjv
      have hst := sum_take_succ ks j hjv
      have hsl := sum_take_le' ks (j + 1)
      obtain ⟨y, hy⟩ : ∃ y, y = xs[j] := ⟨_, rfl⟩
      obtain ⟨u, hu⟩ : ∃ u, u = ks[j] := ⟨_, rfl⟩
      rw [← hy] at hc hty
      rw [← hu] at hty hst
      obtain ⟨y0, y1, ⟨yA2, yn2, yc2⟩, ⟨⟨yck, ycn, ⟨ycvk, ycvn, ycvt⟩, ycop⟩, yCA, ycnn, ycc⟩, ⟨yNA, ynn, ync⟩, ⟨yEA, yen, yec⟩, ⟨yOA, yol, yoc⟩, ⟨yGA, ygn, ygc⟩, ⟨yBA, ybn, ybc⟩, ycount⟩ := y
      have e0 := hc 0 _ rfl; have e1 := hc 1 _ rfl; have e2 := hc 2 _ rfl; have e3 := hc 3 _ rfl; have e4 := hc 4 _ rfl; have e5 := hc 5 _ rfl; have e6 := hc 6 _ rfl; have e7 := hc 7 _ rfl
      have e8 := hc 8 _ rfl; have e9 := hc 9 _ rfl; have e10 := hc 10 _ rfl; have e11 := hc 11 _ rfl; have e12 := hc 12 _ rfl; have e13 := hc 13 _ rfl; have e14 := hc 14 _ rfl; have e15 := hc 15 _ rfl
      rw [Nat.add_zero] at e0
      dsimp only at e0 e1 e2 e3 e4 e5 e6 e7 e8 e9 e10 e11 e12 e13 e14 e15
      have ta := (Touch.refl [] wr).alloc (.cells #[.int .i64 y0, .string y1, .slice yA2 yn2 yc2, .int .i64 yck, .string ycn, .int .i64 ycvk, .int .i64 ycvn, .string ycvt, .string ycop, .slice yCA ycnn ycc, .slice yNA ynn ync, .slice yEA yen yec, .slice yOA yol yoc, .slice yGA ygn ygc, .slice yBA ybn ybc, .int .i64 ycount] 49)
      have hty2 := hty _ ((HT0.out.trans0 HT.out).trans0 ta)
      simp only [PC.val] at hty2
      have Hty := Lib.hid hty2
      have Hst := Lib.hid hst
      have Hsl := Lib.hid hsl
      have HTa := Lib.hid ta
      have hjn : (j : Int) < (n2 : Int) := by omega
      have hub : q + u ≤ 1000001 := by have := HQ.out; have := Hsum.out; omega
      clear hc hty hty2 hy hu ta hst hsl
      go_wp2_with fail
      refine Hty.out.mono ?_
      rintro e w1 ⟨rfl, t1⟩
      have HT1 := Lib.hid ((HT.out.trans0 HTa.out).trans0 t1)
      clear t1
      go_wp2_with fail
      go_roundw
      case rel => exact ⟨j + 1, q + u, by omega, hub, by go_num, by go_num, Lib.hid (by rw [Hst.out, HQ.out]; omega), HT1⟩
      case measure => simp [intOf]; omega
    · obtain rfl : j = n2 := by omega
      have Hq := Lib.hid (show q = 1 + ks.sum by rw [HQ.out, ← Hks.out, List.take_length])
      clear HQ
      go_wp2_with fail
      go_ret
      exact ⟨by rw [← Hq.out]; rfl, HT0.out.trans0 HT.out⟩

set_option maxRecDepth 40000 in
set_option maxHeartbeats 6400000 in
theorem type_any (x : PC) (k : Nat) (hk : k ≤ 64) (I : Option Addr) (ic n : Nat) (v : Int × List CD) (w : World) (hs : SizeC w x k) (ht : TypedC w I ic n x 1 v) :
    Calls Tryz.prog 16 #[x.val, .slice I n ic] w (TyPost w.heap.size v w) := by
  obtain ⟨k0, k1, ⟨A2, n2, c2'⟩, ⟨⟨ck, cn, ⟨cvk, cvn, cvt⟩, cop⟩, CA, cnn, cc⟩, ⟨NA, nn, nc⟩, ⟨EA, en, ec⟩, ⟨OA, ol, oc⟩, ⟨GA, gn, gc⟩, ⟨BA, bn, bc⟩, count⟩ := x
  simp only [PC.val]
  have ta := (Touch.refl [] w).alloc (.cells #[.int .i64 k0, .string k1, .slice A2 n2 c2', .int .i64 ck, .string cn, .int .i64 cvk, .int .i64 cvn, .string cvt, .string cop, .slice CA cnn cc, .slice NA nn nc, .slice EA en ec, .slice OA ol oc, .slice GA gn gc, .slice BA bn bc, .int .i64 count] 49)
  have hb := heap_alloc_new w (.cells #[.int .i64 k0, .string k1, .slice A2 n2 c2', .int .i64 ck, .string cn, .int .i64 cvk, .int .i64 cvn, .string cvt, .string cop, .slice CA cnn cc, .slice NA nn nc, .slice EA en ec, .slice OA ol oc, .slice GA gn gc, .slice BA bn bc, .int .i64 count] 49)
  have hs1 := hs _ ta
  simp only [PC.val] at hs1
  have Hs := Lib.hid hs1
  have Ht := Lib.hid ht
  have HA := Lib.hid (And.intro ta hb)
  clear ta hb hs hs1 ht
  have hk6 : (64 < (k : Int)) = False := by simp; omega
  go_enter Tryz.func16, Tryz.ntmps16
  go_wp2_with fail
  refine Hs.out.mono ?_
  rintro e w1 ⟨rfl, t1⟩
  obtain ⟨p0, p1, p2, p3, p4, p5, p6, p7, p8, p9, p10, p11, p12, p13, p14, p15⟩ := blk16 (t1.blk HA.out.2 (by simp))
  have ht1 := Ht.out w1 (HA.out.1.trans0 t1)
  simp only [PC.val] at ht1
  have Ht1 := Lib.hid ht1
  have HT1 := Lib.hid (HA.out.1.trans0 t1)
  clear t1 ht1 Ht
  go_wp2_with fail
  refine Ht1.out.mono ?_
  rintro e w2 ⟨⟨sA, sn, sc⟩, rfl, s1, s2, s3, s4, t2⟩
  have HY := Lib.hid (And.intro s1 (And.intro s2 (And.intro s3 (And.intro s4 t2))))
  clear s1 s2 s3 s4 t2
  go_wp2_with fail
  go_ret2
  obtain ⟨s1, s2, s3, s4, t2⟩ := HY.out
  exact ⟨⟨sA, sn, sc⟩, rfl, s1, s2, s3, fun b hb => ⟨Nat.le_trans HT1.out.size (s4 b hb).1, (s4 b hb).2⟩, HT1.out.trans0 t2⟩
end Go.Proofs.YtafoklilkdnepaaGreatDoor

/- relop.Plan.Eval: for every plan whose type and evaluation are known. -/
namespace Go.Proofs.YtafoklilkdnepaaGreatDoor
open Go.RowKit

def topV (v : Int × List CD) (ev : Int × List CD × List (List VD)) : Int × List CD × List (List VD) := if v.1 = 0 then ev else (v.1, [], [])

set_option maxRecDepth 40000 in
set_option maxHeartbeats 6400000 in
theorem evalTop (x : PC) (k : Nat) (hk : k ≤ 64) (I : Option Addr) (ic n : Nat) (v : Int × List CD) (ev : Int × List CD × List (List VD)) (w : World) (hs : SizeC w x k) (ht : TypedC w I ic n x 1 v) (he : v.1 = 0 → EvalC w I ic n x ev) :
    Calls Tryz.prog 12 #[x.val, .slice I n ic] w (EvPost (topV v ev) w) := by
  obtain ⟨PO, hPO⟩ : ∃ PO, PO = EvPost (topV v ev) w := ⟨_, rfl⟩
  rw [← hPO]
  have HPO := Lib.hid hPO
  obtain ⟨k0, k1, ⟨A2, n2, c2'⟩, ⟨⟨ck, cn, ⟨cvk, cvn, cvt⟩, cop⟩, CA, cnn, cc⟩, ⟨NA, nn, nc⟩, ⟨EA, en, ec⟩, ⟨OA, ol, oc⟩, ⟨GA, gn, gc⟩, ⟨BA, bn, bc⟩, count⟩ := x
  have Hty := Lib.hid fun w' (t : Touch [] w w') => type_any _ k hk I ic n v w' (fun w'' t2 => hs w'' (t.trans0 t2)) (fun w'' t2 => ht w'' (t.trans0 t2))
  have Hev := Lib.hid fun (h0 : v.1 = 0) w' (t : Touch [] w w') => he h0 w' t
  simp only [PC.val] at *
  obtain ⟨W, hW⟩ : ∃ W, W = (w.alloc (.cells #[.int .i64 k0, .string k1, .slice A2 n2 c2', .int .i64 ck, .string cn, .int .i64 cvk, .int .i64 cvn, .string cvt, .string cop, .slice CA cnn cc, .slice NA nn nc, .slice EA en ec, .slice OA ol oc, .slice GA gn gc, .slice BA bn bc, .int .i64 count] 49)).alloc (.cells #[.slice none 0 0, .slice none 0 0] 27) := ⟨_, rfl⟩
  have t0 : Touch [] w W := hW ▸ ((Touch.refl [] w).alloc _).alloc _
  have hb0 := hW ▸ ((Touch.refl [] (w.alloc (.cells #[.int .i64 k0, .string k1, .slice A2 n2 c2', .int .i64 ck, .string cn, .int .i64 cvk, .int .i64 cvn, .string cvt, .string cop, .slice CA cnn cc, .slice NA nn nc, .slice EA en ec, .slice OA ol oc, .slice GA gn gc, .slice BA bn bc, .int .i64 count] 49))).alloc (.cells #[.slice none 0 0, .slice none 0 0] 27)).blk (heap_alloc_new w _) (by simp)
  have hbt : W.heap[w.heap.size + 1]? = some (.cells #[.slice none 0 0, .slice none 0 0] 27 (0, 0)) := by
    have := heap_alloc_new (w.alloc (.cells #[.int .i64 k0, .string k1, .slice A2 n2 c2', .int .i64 ck, .string cn, .int .i64 cvk, .int .i64 cvn, .string cvt, .string cop, .slice CA cnn cc, .slice NA nn nc, .slice EA en ec, .slice OA ol oc, .slice GA gn gc, .slice BA bn bc, .int .i64 count] 49)) (.cells #[.slice none 0 0, .slice none 0 0] 27)
    rw [World.size_alloc] at this
    exact hW ▸ this
  have hWs : W.heap.size = w.heap.size + 2 := by rw [hW]; simp
  have HW := Lib.hid hW
  have HT0 := Lib.hid (And.intro t0 (And.intro hb0 (And.intro hbt hWs)))
  clear hW t0 hb0 hbt hWs hPO hs ht he
  go_enter Tryz.func12, Tryz.ntmps12
  go_wp2_with fail
  rw [← HW.out]
  refine (Hty.out _ HT0.out.1).mono ?_
  rintro e w1 ⟨⟨sA, sn, sc⟩, rfl, _, _, _, _, t1⟩
  have HT1 := Lib.hid (And.intro t1 (And.intro (t1.blk HT0.out.2.1 (by simp)) (t1.blk HT0.out.2.2.1 (by simp))))
  clear t1
  obtain ⟨ver, vcs⟩ := v
  by_cases hz : ver = 0
  · have HV := Lib.hid (show topV (ver, vcs) ev = ev by unfold topV; rw [if_pos hz])
    have Hev1 := Lib.hid (Hev.out hz w1 (HT0.out.1.trans0 HT1.out.1))
    subst hz
    obtain ⟨p0, p1, p2, p3, p4, p5, p6, p7, p8, p9, p10, p11, p12, p13, p14, p15⟩ := blk16 HT1.out.2.1
    go_wp2_with fail
    refine Hev1.out.mono ?_
    rintro e w2 ⟨⟨mA, mn, mc⟩, ⟨gA, gn', gc'⟩, rfl, hnt, t2⟩
    have HM := Lib.hid (And.intro hnt (And.intro t2 (t2.blk HT1.out.2.2 (by simp))))
    clear hnt t2 p0 p1 p2 p3 p4 p5 p6 p7 p8 p9 p10 p11 p12 p13 p14 p15
    obtain ⟨z0, z1, y0, y1⟩ := blk2 HM.out.2.2
    go_wp2_with fail
    obtain ⟨hnt, t2, hr2⟩ := HM.out
    have tq := touch2 w2 (w.heap.size + 1) (.slice mA mn mc) (.slice gA gn' gc')
    have hs7 := HT1.out.1.size
    have hWs := HT0.out.2.2.2
    refine bodyPost_ret (results_cell_two rfl _ _ (w.heap.size + 1) _ _ _ _ rfl (set2 hr2 rfl _ _) Tryz.underlying27 rfl rfl) rfl ?_
    rw [HPO.out, HV.out]
    refine ⟨⟨mA, mn, mc⟩, ⟨gA, gn', gc'⟩, rfl, ?_, ((HT0.out.1.trans0 HT1.out.1).trans0 t2).trans tq (fun b hb => .inr (by simp at hb; omega))⟩
    refine ⟨hnt.n, hnt.le, RdK.touch hnt.cols tq (fun b hb hm => ?_), fun b hb => ⟨?_, ?_⟩, hnt.m, ?_, fun b hb => ?_, hnt.apart⟩
    · have := (hnt.cf b hb).1; simp at hm; omega
    · have := (hnt.cf b hb).1; omega
    · have := (hnt.cf b hb).2; have := tq.size; omega
    · exact (hnt.rws.touch tq (fun b hb => by simp at hb; omega) (fun b hb => hnt.rf b hb)).base (by omega)
    · have := hnt.rf b hb; omega
  · have HV := Lib.hid (show topV (ver, vcs) ev = (ver, [], []) by unfold topV; rw [if_neg hz])
    have hq : (ver == 0) = false := by rw [beq_eq_false_iff_ne]; exact hz
    have hq' : (ver != 0) = true := by rw [bne, hq]; rfl
    obtain ⟨z0, z1, y0, y1⟩ := blk2 HT1.out.2.2
    go_wp2_with fail
    refine bodyPost_ret (results_cell_two rfl _ _ (w.heap.size + 1) _ _ _ _ rfl (set2 HT1.out.2.2 rfl _ _) Tryz.underlying27 rfl rfl) rfl ?_
    rw [HPO.out, HV.out]
    exact EvPost.err ver ((HT0.out.1.trans0 HT1.out.1).trans (touch2 _ _ _ _) (fun b hb => .inr (by simp at hb; omega)))
end Go.Proofs.YtafoklilkdnepaaGreatDoor

/- From the walks of each kind to what the general walks ask for. No program's function. -/
namespace Go.Proofs.YtafoklilkdnepaaGreatDoor
open Go.RowKit

theorem TyPost.base {b b' : Nat} {v : Int × List CD} {w : World} {e : Ending} {w' : World} (h : TyPost b v w e w') (hb : b' ≤ b) : TyPost b' v w e w' := by
  obtain ⟨s, h1, h2, h3, h4, h5, h6⟩ := h
  exact ⟨s, h1, h2, h3, h4, fun x hx => ⟨Nat.le_trans hb (h5 x hx).1, (h5 x hx).2⟩, h6⟩
theorem SizeC.touch0 {w w' : World} {x : PC} {k : Nat} (h : SizeC w x k) (ht : Touch [] w w') : SizeC w' x k := fun w'' t => h w'' (ht.trans0 t)
theorem TypedC.touch0 {w w' : World} {I : Option Addr} {ic n : Nat} {x : PC} {d : Int} {v : Int × List CD} (h : TypedC w I ic n x d v) (ht : Touch [] w w') : TypedC w' I ic n x d v := fun w'' t => h w'' (ht.trans0 t)
/-- a scan is one plan -/
theorem sizeC_leaf (x : PC) (h0 : x.args.n = 0) (w : World) : SizeC w x 1 := fun w' _ => by
  have := size_node x [] [] w' (by rw [h0]; rfl) (by rw [h0]; rfl) (RdK.nil _ _ _) (fun i h => absurd h (by simp)) (by simp) (by omega)
  exact this
theorem sizeC_node (x : PC) (xs : List PC) (ks : List Nat) (w : World) (hxs : xs.length = x.args.n) (hks : ks.length = x.args.n) (hX : RdK pcE w x.args.A xs) (hT : ∀ i (h1 : i < xs.length) (h2 : i < ks.length), SizeC w xs[i] ks[i]) (hsum : ks.sum ≤ 1000000) (hnn : x.args.n ≤ 1000000) : SizeC w x (1 + ks.sum) :=
  fun w' t => size_node x xs ks w' hxs hks (RdK.touch0 hX t) (fun i a b => (hT i a b).touch0 t) hsum hnn
theorem typedC_scan (x : PC) (hk0 : x.kind = 1) (ha0 : x.args.n = 0) (d : Int) (hd : d ≤ 16) (I : Option Addr) (ic n : Nat) (l : List SrcD) (hn : l.length = n) (hl : n ≤ 1000000) (hok : ∀ d ∈ l, d.Ok) (w : World) (hG : NeedsAt w) (h : SrcsAt w I l) : TypedC w I ic n x d (scanV l x.name) :=
  fun w' t => typed_scan x hk0 ha0 d hd I ic n l hn hl hok w' (hG.touch0 t) (h.touch0 t)
theorem typedC_node (x : PC) (kk m : Nat) (hk0 : x.kind = kk) (hk2 : 2 ≤ kk) (hk9 : kk ≤ 9) (hm : x.args.n = m) (hnd : needV kk = m) (d : Int) (hd0 : 0 ≤ d) (hd : d ≤ 16) (I : Option Addr) (ic n : Nat) (w : World) (hG : NeedsAt w)
    (xs : List PC) (vs : List (Int × List CD)) (hxs : xs.length = m) (hvs : vs.length = m) (hX : RdK pcE w x.args.A xs) (hT : ∀ i (h1 : i < xs.length) (h2 : i < vs.length), TypedC w I ic n xs[i] (d + 1) vs[i])
    (v : Int × List CD) (hv : errL vs = 0 → SchemaC w x (vs.map (·.2)) v) (hok : ∀ c ∈ v.2, c.Ok) (hvl : v.2.length ≤ 1000000) : TypedC w I ic n x d (nodeV vs v) :=
  fun w' t => typed_node x kk m hk0 hk2 hk9 hm hnd d hd0 hd I ic n w' (hG.touch0 t) xs vs hxs hvs (RdK.touch0 hX t) (fun i a b => (hT i a b).touch0 t) v (fun h0 w'' base L lc sl t2 => hv h0 w'' base L lc sl (t.trans0 t2)) hok hvl
theorem evalC_scan (x : PC) (hk0 : x.kind = 1) (ha0 : x.args.n = 0) (I : Option Addr) (ic n : Nat) (l : List SrcD) (hn : l.length = n) (hl : n ≤ 1000000) (k : Nat) (hkl : k < l.length) (hs : srcI l x.name = some k) (hcl : l[k].cs.length ≤ 1000000) (hrl : l[k].rows.length ≤ 1000000) (hrr : RowsLe l[k].rows) (w : World) (h : SrcsAt w I l) : EvalC w I ic n x (0, l[k].cs, l[k].rows) :=
  fun w' t => eval_scan x hk0 ha0 I ic n l hn hl k hkl hs hcl hrl hrr w' (h.touch0 t)
theorem evalC_node (x : PC) (kk m : Nat) (hk0 : x.kind = kk) (hk2 : 2 ≤ kk) (hm : x.args.n = m) (hm2 : m ≤ 2) (I : Option Addr) (ic n : Nat) (w : World)
    (xs : List PC) (vs : List (Int × List CD × List (List VD))) (hxs : xs.length = m) (hvs : vs.length = m) (hX : RdK pcE w x.args.A xs) (hE : ∀ i (h1 : i < xs.length) (h2 : i < vs.length), EvalC w I ic n xs[i] vs[i])
    (ver : Int) (cs : List CD) (hS : errL (vs.map fun v => (v.1, v.2.1)) = 0 → SchemaC w x (vs.map (·.2.1)) (ver, cs)) (rv : Int × List (List VD)) (hR : errL (vs.map fun v => (v.1, v.2.1)) = 0 → RowsC w x (vs.map (·.2)) rv)
    (hok : ∀ c ∈ cs, c.Ok) (hvl : cs.length ≤ 1000000) (hrk : RowsOk rv.2) (hrl : RowsLe rv.2) (hrn : rv.2.length ≤ 1000000) : EvalC w I ic n x (nodeE vs cs rv) :=
  fun w' t => eval_node x kk m hk0 hk2 hm hm2 I ic n w' xs vs hxs hvs (RdK.touch0 hX t) (fun i a b w'' t2 => hE i a b w'' (t.trans0 t2)) ver cs (fun h0 w'' base L lc sl t2 => hS h0 w'' base L lc sl (t.trans0 t2)) rv (fun h0 w'' L lc tl t2 => hR h0 w'' L lc tl (t.trans0 t2)) hok hvl hrk hrl hrn
/-- the schema of a join -/
theorem schemaC_join (x : PC) (hk0 : x.kind = 4) (on : List (ByteArray × ByteArray)) (ho : x.on.n = on.length) (hlo : on.length ≤ 1000000) (a b : List CD) (hl1 : a.length ≤ 1000) (hl2 : b.length ≤ 1000) (w : World) (hr : RdK prE w x.on.A on) : SchemaC w x [a, b] (onV a b on, a ++ b) := by
  intro w' base L lc sl t hb hs hL
  obtain ⟨hs1, hs2⟩ := hs
  match sl, hs1 with
  | [s1, s2], _ =>
    have h1 := hs2 0 (by simp) (by simp)
    have h2 := hs2 1 (by simp) (by simp)
    refine (schema_join x hk0 on ho hlo L lc s1 s2 a b h1.1 h2.1 h1.2.1 h2.2.1 hl1 hl2 w' hL (RdK.touch0 hr t) h1.2.2.1 h2.2.2.1).mono ?_
    rintro e w'' ⟨A, c, rfl, hm⟩
    exact (TyPost.made hm).base hb
/-- the schema of a group -/
theorem schemaC_group (x : PC) (hk0 : x.kind = 6) (names : List ByteArray) (aggs : List AG) (hnn : x.names.n = names.length) (han : x.aggs.n = aggs.length) (hln : names.length ≤ 100000) (hla : aggs.length ≤ 100000) (a : List CD) (hl1 : a.length ≤ 1000) (w : World)
    (hr : RdK btE w x.names.A names) (hg : RdK agE w x.aggs.A aggs) : SchemaC w x [a] (groupV a names aggs) := by
  intro w' base L lc sl t hb hs hL
  obtain ⟨hs1, hs2⟩ := hs
  match sl, hs1 with
  | [s1], _ =>
    have h1 := hs2 0 (by simp) (by simp)
    refine (schema_group x hk0 names aggs hnn han hln hla L lc s1 a h1.1 hl1 w' hL (RdK.touch0 hr t) (RdK.touch0 hg t) h1.2.2.1).mono ?_
    intro e w'' h
    exact (TyPost.of h).base hb
theorem rowsC_join (x : PC) (hk0 : x.kind = 4) (on : List (ByteArray × ByteArray)) (ho : x.on.n = on.length) (hlo : on.length ≤ 1000) (csA csB : List CD) (rowsA rowsB : List (List VD)) (w : World)
    (hr : RdK prE w x.on.A on) (hgA : GoodR w rowsA csA.length) (hgB : GoodR w rowsB csB.length)
    (hA0 : 0 < csA.length) (hB0 : 0 < csB.length) (hA1 : csA.length ≤ 16) (hB1 : csB.length ≤ 16) (hA2 : rowsA.length ≤ 4096) (hB2 : rowsB.length ≤ 4096) :
    RowsC w x [(csA, rowsA), (csB, rowsB)] (joinV false csB.length rowsA rowsB (placesV csA (on.map (·.1))) (placesV csB (on.map (·.2)))) := by
  intro w' L lc tl t hs hL
  obtain ⟨hs1, hs2⟩ := hs
  match tl, hs1 with
  | [t1, t2], _ => exact rows_join x hk0 on ho hlo L lc t1 t2 csA csB rowsA rowsB w' hL (hs2 0 (by simp) (by simp)) (hs2 1 (by simp) (by simp)) (RdK.touch0 hr t) (hgA.touch0 t) (hgB.touch0 t) hA0 hB0 hA1 hB1 hA2 hB2
theorem rowsC_group0 (x : PC) (hk0 : x.kind = 6) (h1 : x.names.n = 0) (h2 : x.aggs.n = 1) (op nm : ByteArray) (cs : List CD) (hl : cs.length ≤ 1000000) (w : World) (hg : RdK agE w x.aggs.A [⟨op, ⟨#[]⟩, nm⟩]) : RowsC w x [(cs, [])] (0, [[⟨1, 0, ⟨#[]⟩⟩]]) := by
  intro w' L lc tl t hs hL
  obtain ⟨hs1, hs2⟩ := hs
  match tl, hs1 with
  | [t1], _ => exact rows_group0 x hk0 h1 h2 op nm L lc t1 cs hl w' hL (hs2 0 (by simp) (by simp)) (RdK.touch0 hg t)
theorem sortR_one (r : List VD) : sortR [r] = [r] := (sortR_of (rows := [r]) ⟨.refl _, by simp⟩).symm
end Go.Proofs.YtafoklilkdnepaaGreatDoor

/- The schema of each kind of plan, as the general walks ask for it; a plan of no kind. -/
namespace Go.Proofs.YtafoklilkdnepaaGreatDoor
open Go.RowKit

theorem schemaC_left (x : PC) (hk0 : x.kind = 5) (on : List (ByteArray × ByteArray)) (ho : x.on.n = on.length) (hlo : on.length ≤ 1000000) (a b : List CD) (hl1 : a.length ≤ 1000) (hl2 : b.length ≤ 1000) (w : World) (hr : RdK prE w x.on.A on) : SchemaC w x [a, b] (onV a b on, a ++ b) := by
  intro w' base L lc sl t hb hs hL
  obtain ⟨hs1, hs2⟩ := hs
  match sl, hs1 with
  | [s1, s2], _ =>
    have h1 := hs2 0 (by simp) (by simp)
    have h2 := hs2 1 (by simp) (by simp)
    refine (schema_left x hk0 on ho hlo L lc s1 s2 a b h1.1 h2.1 h1.2.1 h2.2.1 hl1 hl2 w' hL (RdK.touch0 hr t) h1.2.2.1 h2.2.2.1).mono ?_
    rintro e w'' ⟨A, c, rfl, hm⟩
    exact (TyPost.made hm).base hb
theorem TyPost.same {base : Nat} {w w' : World} {s : SL} {a : List CD} {k : Int} (h1 : s.n = a.length) (h2 : s.n ≤ s.c) (h3 : ColsAt w s.A a) (h4 : ∀ b ∈ fpo s.A, base ≤ b ∧ b < w.heap.size) (t : Touch [] w w') : TyPost base (k, a) w (.returned (.tuple #[.slice s.A s.n s.c, .int .i64 k])) w' :=
  ⟨s, rfl, h1, h2, h3.touch0 t, fun b hb => ⟨(h4 b hb).1, Nat.lt_of_lt_of_le (h4 b hb).2 t.size⟩, t⟩
theorem schemaC_where (x : PC) (hk0 : x.kind = 2) (a : List CD) (r : Int × Int) (w : World) (hE : ETypeS w x.cond a r) : SchemaC w x [a] (r.2, a) := by
  intro w' base L lc sl t hb hs hL
  obtain ⟨hs1, hs2⟩ := hs
  match sl, hs1 with
  | [s1], _ =>
    have h1 := hs2 0 (by simp) (by simp)
    have hE2 := hE.at_ t h1.2.2.1 s1.c
    rw [show a.length = s1.n from h1.1.symm] at hE2
    refine (schema_where x hk0 L lc s1 a h1.1 r w' hL hE2).mono ?_
    rintro e w'' ⟨rfl, t2⟩
    exact TyPost.same h1.1 h1.2.1 h1.2.2.1 h1.2.2.2 t2
theorem schemaC_keep (x : PC) (hk0 : x.kind = 3) (names : List ByteArray) (xs : List XC) (ets : List (Int × Int)) (hnn : x.names.n = names.length) (hen : x.exprs.n = xs.length) (hle : ets.length = xs.length) (hln : names.length ≤ 100000) (hlx : xs.length ≤ 100000) (a : List CD) (w : World)
    (hr : RdK btE w x.names.A names) (hx : RdK xcE w x.exprs.A xs) (hE : ∀ i (h1 : i < xs.length) (h2 : i < ets.length), ETypeS w xs[i] a ets[i]) : SchemaC w x [a] (keepV names ets) := by
  intro w' base L lc sl t hb hs hL
  obtain ⟨hs1, hs2⟩ := hs
  match sl, hs1 with
  | [s1], _ =>
    have h1 := hs2 0 (by simp) (by simp)
    refine (schema_keep x hk0 names xs ets hnn hen hle hln hlx L lc s1 a h1.1 w' hL (RdK.touch0 hr t) (RdK.touch0 hx t) (fun i q1 q2 => ?_)).mono ?_
    · have hE2 := (hE i q1 q2).at_ t h1.2.2.1 s1.c
      rw [show a.length = s1.n from h1.1.symm] at hE2
      exact hE2
    · intro e w'' h
      exact (TyPost.of h).base hb
theorem schemaC_union (x : PC) (hk0 : x.kind = 7) (a b : List CD) (hl1 : a.length ≤ 1000000) (hl2 : b.length ≤ 1000000) (w : World) : SchemaC w x [a, b] (if eqCs a b = true then (0, a) else (12, [])) := by
  intro w' base L lc sl t hb hs hL
  obtain ⟨hs1, hs2⟩ := hs
  match sl, hs1 with
  | [s1, s2], _ =>
    have h1 := hs2 0 (by simp) (by simp)
    have h2 := hs2 1 (by simp) (by simp)
    refine (schema_union x hk0 L lc s1 s2 a b h1.1 h2.1 hl1 hl2 w' hL h1.2.2.1 h2.2.2.1).mono ?_
    rintro e w'' ⟨rfl, t2⟩
    by_cases h : eqCs a b = true
    · rw [if_pos h, if_pos h]
      exact TyPost.same h1.1 h1.2.1 h1.2.2.1 h1.2.2.2 t2
    · rw [if_neg h, if_neg h]
      exact TyPost.err _ 12 t2
theorem schemaC_distinct (x : PC) (hk0 : x.kind = 8) (a : List CD) (w : World) : SchemaC w x [a] (0, a) := by
  intro w' base L lc sl t hb hs hL
  obtain ⟨hs1, hs2⟩ := hs
  match sl, hs1 with
  | [s1], _ =>
    have h1 := hs2 0 (by simp) (by simp)
    refine (schema_distinct x hk0 L lc s1 w' hL).mono ?_
    rintro e w'' ⟨rfl, t2⟩
    exact TyPost.same h1.1 h1.2.1 h1.2.2.1 h1.2.2.2 t2
theorem schemaC_first (x : PC) (hk0 : x.kind = 9) (l : List (ByteArray × Bool)) (hlb : x.by_.n = l.length) (hll : l.length ≤ 1000000) (a : List CD) (hl1 : a.length ≤ 1000000) (w : World) (hr : RdK odE w x.by_.A l) : SchemaC w x [a] (byV a l x.count, a) := by
  intro w' base L lc sl t hb hs hL
  obtain ⟨hs1, hs2⟩ := hs
  match sl, hs1 with
  | [s1], _ =>
    have h1 := hs2 0 (by simp) (by simp)
    refine (schema_first x hk0 l hlb hll L lc s1 a h1.1 hl1 w' hL (RdK.touch0 hr t) h1.2.2.1).mono ?_
    rintro e w'' ⟨rfl, t2⟩
    exact TyPost.same h1.1 h1.2.1 h1.2.2.1 h1.2.2.2 t2

set_option maxRecDepth 40000 in
set_option maxHeartbeats 6400000 in
theorem typed_wrong (x : PC) (hk : x.kind < 1 ∨ 9 < x.kind) (d : Int) (hd : d ≤ 16) (I : Option Addr) (ic n : Nat) (w : World) :
    Calls Tryz.prog 31 #[x.val, .slice I n ic, .int .i64 d] w (TyPost w.heap.size (20, []) w) := by
  obtain ⟨k0, k1, ⟨A2, n2, c2'⟩, ⟨⟨ck, cn, ⟨cvk, cvn, cvt⟩, cop⟩, CA, cnn, cc⟩, ⟨NA, nn, nc⟩, ⟨EA, en, ec⟩, ⟨OA, ol, oc⟩, ⟨GA, gn, gc⟩, ⟨BA, bn, bc⟩, count⟩ := x
  dsimp only at hk ⊢
  simp only [PC.val]
  obtain ⟨W, hW⟩ : ∃ W, W = w.alloc (.cells #[.int .i64 k0, .string k1, .slice A2 n2 c2', .int .i64 ck, .string cn, .int .i64 cvk, .int .i64 cvn, .string cvt, .string cop, .slice CA cnn cc, .slice NA nn nc, .slice EA en ec, .slice OA ol oc, .slice GA gn gc, .slice BA bn bc, .int .i64 count] 49) := ⟨_, rfl⟩
  have t0 : Touch [] w W := hW ▸ (Touch.refl [] w).alloc _
  have hb0 := hW ▸ heap_alloc_new w (.cells #[.int .i64 k0, .string k1, .slice A2 n2 c2', .int .i64 ck, .string cn, .int .i64 cvk, .int .i64 cvn, .string cvt, .string cop, .slice CA cnn cc, .slice NA nn nc, .slice EA en ec, .slice OA ol oc, .slice GA gn gc, .slice BA bn bc, .int .i64 count] 49)
  have q0 : W.cell? ⟨w.heap.size, 0, none⟩ = some (.int .i64 k0) := cell_blk hb0 rfl
  have hd2 : (16 < d) = False := by simp; omega
  have HW := Lib.hid hW
  have HT0 := Lib.hid t0
  clear hb0 hW t0
  rcases hk with hk | hk
  · have hk1 : (k0 < 1) = True := eq_true hk
    go_enter Tryz.func31, Tryz.ntmps31
    go_wp2_with fail
    rw [← HW.out]
    go_quiet (fail)
    go_wp2
    go_ret2
    exact TyPost.err _ 20 (HT0.out.drewN _)
  · have hk1 : (k0 < 1) = False := eq_false (by omega)
    have hk2 : (9 < k0) = True := eq_true hk
    go_enter Tryz.func31, Tryz.ntmps31
    go_wp2_with fail
    rw [← HW.out]
    go_quiet (fail)
    go_wp2
    go_ret2
    exact TyPost.err _ 20 (HT0.out.drewN _)
theorem typedC_wrong (x : PC) (hk : x.kind < 1 ∨ 9 < x.kind) (d : Int) (hd : d ≤ 16) (I : Option Addr) (ic n : Nat) (w : World) : TypedC w I ic n x d (20, []) := fun w' _ => typed_wrong x hk d hd I ic n w'
end Go.Proofs.YtafoklilkdnepaaGreatDoor

/- Rows of expressions of the calls' own: how one more comes to them. No program's function. -/
namespace Go.Proofs.YtafoklilkdnepaaGreatDoor
open Go.RowKit

/-- blocks behind a base that are there -/
def Fr (base : Nat) (w : World) : Nat → Prop := fun b => base ≤ b ∧ b < w.heap.size
/-- a row of expressions of the calls' own; what lies below it lies elsewhere -/
def OwnX (t : TypeId) (enc : XC → List Value) (base n : Nat) (w : World) (B : Option Addr) (c : Nat) (args : List (TX n)) : Prop :=
  ∃ xs : List XC, xs.length = args.length ∧ OwnK t 7 enc w B c xs ∧ (∀ b ∈ fpo B, base ≤ b) ∧ ∀ i (h1 : i < xs.length) (h2 : i < args.length), ExP enc (fun b => Fr base w b ∧ b ∉ fpo B) n w xs[i] args[i]
theorem OwnX.nil (t : TypeId) (enc : XC → List Value) (base n : Nat) (w : World) : OwnX t enc base n w none 0 [] := ⟨[], rfl, OwnK.nil _ _ _ _, by simp [fpo], fun i h => absurd h (by simp)⟩
theorem OwnX.lt {t : TypeId} {enc : XC → List Value} {base n : Nat} {w : World} {B : Option Addr} {c : Nat} {args : List (TX n)} (h : OwnX t enc base n w B c args) : ∀ b ∈ fpo B, base ≤ b ∧ b < w.heap.size := by
  obtain ⟨xs, _, h2, h3, _⟩ := h
  exact fun b hb => ⟨h3 b hb, h2.lt b hb⟩
theorem OwnX.touch {t : TypeId} {enc : XC → List Value} {base n : Nat} {w w' : World} {B : Option Addr} {c : Nat} {args : List (TX n)} {fp : List Nat} (h : OwnX t enc base n w B c args) (ht : Touch fp w w') (hfp : ∀ b ∈ fp, b < base) : OwnX t enc base n w' B c args := by
  obtain ⟨xs, h1, h2, h3, h4⟩ := h
  exact ⟨xs, h1, h2.touch ht (fun b hb hm => by have := hfp b hm; have := h3 b hb; omega), h3, fun i a b => ((h4 i a b).touch ht (fun b hb hp => by have := hfp b hb; have := hp.1.1; omega)).mono (fun b hb => ⟨⟨hb.1.1, Nat.lt_of_lt_of_le hb.1.2 ht.size⟩, hb.2⟩)⟩
theorem OwnX.touch0 {t : TypeId} {enc : XC → List Value} {base n : Nat} {w w' : World} {B : Option Addr} {c : Nat} {args : List (TX n)} (h : OwnX t enc base n w B c args) (ht : Touch [] w w') : OwnX t enc base n w' B c args := h.touch ht (by simp)
theorem OwnX.tree {t : TypeId} {enc : XC → List Value} {base n : Nat} {w : World} {B : Option Addr} {c : Nat} {args : List (TX n)} (h : OwnX t enc base n w B c args) (nd : ND) (m : Nat) (hm : m = args.length) : ExP enc (Fr base w) (n + 1) w ⟨nd, B, m, c⟩ (nd, args) := by
  have hlt := h.lt
  obtain ⟨xs, h1, h2, _, h4⟩ := h
  exact ⟨rfl, hm, hlt, xs, h1, h2.rd, fun i a b => (h4 i a b).mono fun b hb => hb.1⟩
theorem OwnX.base {t : TypeId} {enc : XC → List Value} {base base' n : Nat} {w : World} {B : Option Addr} {c : Nat} {args : List (TX n)} (h : OwnX t enc base n w B c args) (hb : base' ≤ base) : OwnX t enc base' n w B c args := by
  obtain ⟨xs, h1, h2, h3, h4⟩ := h
  exact ⟨xs, h1, h2, fun b hbm => by have := h3 b hbm; omega, fun i a b => (h4 i a b).mono fun b hp => ⟨⟨by have := hp.1.1; omega, hp.1.2⟩, hp.2⟩⟩

/-- append of one more expression -/
theorem wpList_appX {enc : XC → List Value} (hE : ∀ x, (enc x).length = 7) (hone : ∀ x, ∀ u ∈ enc x, u.oneCell' = true) {w : World} {ops : Array Oper} {rest : List Oper} {o : Oper} {a : Act} {Q : Exit → Act → World → Prop} (hgd : o.guard = none) (s y : Operand) (t : TypeId)
    (ho : o.op = .call { callee := .builtin .append, args := #[s, y], argTypes := #[t, t] })
    (e : TypeId) (z : Value) (bytes : Nat) (hinfo : (Tryz.prog.info? e).map (fun i => (i.zero, i.size, i.bytes)) = some (some z, 7, bytes)) (ht : Tryz.prog.underlying t = some (.slice e)) (hzs : z.cells.size = 7) (hby : bytes ≤ 1000)
    (base n : Nat) (B : Option Addr) (m c : Nat) (args : List (TX n)) (hm : args.length = m) (hs : a.eval s = .slice B m c) (hown : OwnX e enc base n w B c args)
    (x : XC) (r : TX n) (hx : ExP enc (fun b => Fr base w b ∧ b ∉ fpo B) n w x r) (hbase : base ≤ w.heap.size)
    (g : Nat) (hy : a.eval y = .slice (some ⟨w.heap.size, 0, none⟩) 1 g) (h63 : m + 1 ≤ 1000000000) {cs : Array Value} (hcs : cs.toList = enc x)
    (h : ∀ B' c' w', OwnX e enc base n w' B' c' (args ++ [r]) → Touch (fpo B) w w' → (∀ b ∈ fpo B', b ∈ fpo B ∨ w.heap.size < b) → wpList Tryz.prog ops Q rest (a.put o.dst (.slice B' (m + 1) c')) w') :
    wpList Tryz.prog ops Q (o :: rest) a (w.alloc (.cells cs e)) := by
  obtain ⟨xs, h1, h2, h3, h4⟩ := hown
  have ta := (Touch.refl [] w).alloc (.cells cs e)
  refine wpList_appK (enc := enc) hgd s y t ho e z 7 bytes hinfo ht hzs (by omega) hE hone B m c xs (by rw [h1, hm]) hs (h2.touch0 ta)
    (some ⟨w.heap.size, 0, none⟩) 1 g [x] rfl hy (RdK.one (enc := enc) w e x cs hcs) h63 hby ?_
  intro B' c' w' hown' t' hf'
  rw [World.size_alloc] at hf'
  have hw := t'.size
  rw [World.size_alloc] at hw
  have hlt := h2.lt
  have tt : Touch (fpo B) w w' := (ta.mono (fp2 := fpo B) (fun b hb => by simp at hb)).trans t' (fun b hb => .inl hb)
  have key : ∀ {x : XC} {r : TX n}, ExP enc (fun b => Fr base w b ∧ b ∉ fpo B) n w x r → ExP enc (fun b => Fr base w' b ∧ b ∉ fpo B') n w' x r := fun hx =>
    (hx.touch tt (fun b hb hp => hp.2 hb)).mono fun b hp => ⟨⟨hp.1.1, by have := hp.1.2; omega⟩, fun hm => by
      rcases hf' b hm with q | q
      · exact hp.2 q
      · have := hp.1.2; omega⟩
  refine h B' c' w' ⟨xs ++ [x], by simp [h1], hown', fun b hb => ?_, fun i a1 b1 => ?_⟩ tt (fun b hb => ?_)
  · rcases hf' b hb with q | q
    · exact h3 b q
    · omega
  · by_cases hi : i < xs.length
    · have hi2 : i < args.length := by rw [← h1]; exact hi
      rw [List.getElem_append_left hi, List.getElem_append_left hi2]
      exact key (h4 i hi hi2)
    · have hi' : i = xs.length := by rw [List.length_append] at a1; simp at a1; omega
      subst hi'
      have e1 : (xs ++ [x])[xs.length] = x := by rw [List.getElem_append_right (Nat.le_refl _)]; simp
      have e2 : (args ++ [r])[xs.length] = r := by rw [List.getElem_append_right (by rw [h1]; exact Nat.le_refl _)]; simp [h1]
      rw [e1, e2]
      exact key hx
  · rcases hf' b hb with q | q
    · exact .inl q
    · exact .inr (by omega)
/-- the same as one step of a region that draws its order -/
theorem step_appX {enc : XC → List Value} (hE : ∀ x, (enc x).length = 7) (hone : ∀ x, ∀ u ∈ enc x, u.oneCell' = true) {w : World} {ops : Array Oper} {o : Oper} {a : Act} {K : Act → World → Prop} {Q : Exit → Act → World → Prop} {E : Prop} (hgd : o.guard = none) (s y : Operand) (t : TypeId)
    (ho : o.op = .call { callee := .builtin .append, args := #[s, y], argTypes := #[t, t] })
    (e : TypeId) (z : Value) (bytes : Nat) (hinfo : (Tryz.prog.info? e).map (fun i => (i.zero, i.size, i.bytes)) = some (some z, 7, bytes)) (ht : Tryz.prog.underlying t = some (.slice e)) (hzs : z.cells.size = 7) (hby : bytes ≤ 1000)
    (base n : Nat) (B : Option Addr) (m c : Nat) (args : List (TX n)) (hm : args.length = m) (hs : a.eval s = .slice B m c) (hown : OwnX e enc base n w B c args)
    (x : XC) (r : TX n) (hx : ExP enc (fun b => Fr base w b ∧ b ∉ fpo B) n w x r) (hbase : base ≤ w.heap.size)
    (g : Nat) (hy : a.eval y = .slice (some ⟨w.heap.size, 0, none⟩) 1 g) (h63 : m + 1 ≤ 1000000000) {cs : Array Value} (hcs : cs.toList = enc x)
    (h : ∀ B' c' w', OwnX e enc base n w' B' c' (args ++ [r]) → Touch (fpo B) w w' → (∀ b ∈ fpo B', b ∈ fpo B ∨ w.heap.size < b) → K (a.put o.dst (.slice B' (m + 1) c')) w') :
    if Region.wanted o (yielded ops a.tmps) = true then Oper.wp Tryz.prog o a (w.alloc (.cells cs e)) K Q else E := by
  obtain ⟨xs, h1, h2, h3, h4⟩ := hown
  have ta := (Touch.refl [] w).alloc (.cells cs e)
  refine step_appK (enc := enc) hgd s y t ho e z 7 bytes hinfo ht hzs (by omega) hE hone B m c xs (by rw [h1, hm]) hs (h2.touch0 ta)
    (some ⟨w.heap.size, 0, none⟩) 1 g [x] rfl hy (RdK.one (enc := enc) w e x cs hcs) h63 hby ?_
  intro B' c' w' hown' t' hf'
  rw [World.size_alloc] at hf'
  have hw := t'.size
  rw [World.size_alloc] at hw
  have hlt := h2.lt
  have tt : Touch (fpo B) w w' := (ta.mono (fp2 := fpo B) (fun b hb => by simp at hb)).trans t' (fun b hb => .inl hb)
  have key : ∀ {x : XC} {r : TX n}, ExP enc (fun b => Fr base w b ∧ b ∉ fpo B) n w x r → ExP enc (fun b => Fr base w' b ∧ b ∉ fpo B') n w' x r := fun hx =>
    (hx.touch tt (fun b hb hp => hp.2 hb)).mono fun b hp => ⟨⟨hp.1.1, by have := hp.1.2; omega⟩, fun hm => by
      rcases hf' b hm with q | q
      · exact hp.2 q
      · have := hp.1.2; omega⟩
  refine h B' c' w' ⟨xs ++ [x], by simp [h1], hown', fun b hb => ?_, fun i a1 b1 => ?_⟩ tt (fun b hb => ?_)
  · rcases hf' b hb with q | q
    · exact h3 b q
    · omega
  · by_cases hi : i < xs.length
    · have hi2 : i < args.length := by rw [← h1]; exact hi
      rw [List.getElem_append_left hi, List.getElem_append_left hi2]
      exact key (h4 i hi hi2)
    · have hi' : i = xs.length := by rw [List.length_append] at a1; simp at a1; omega
      subst hi'
      have e1 : (xs ++ [x])[xs.length] = x := by rw [List.getElem_append_right (Nat.le_refl _)]; simp
      have e2 : (args ++ [r])[xs.length] = r := by rw [List.getElem_append_right (by rw [h1]; exact Nat.le_refl _)]; simp [h1]
      rw [e1, e2]
      exact key hx
  · rcases hf' b hb with q | q
    · exact .inl q
    · exact .inr (by omega)
/-- a struct of seven cells is written -/
theorem out7 {X : World} {R : Nat} {t : TypeId} {a0 a1 a2 a3 a4 a5 a6 : Value} (h : X.heap[R]? = some (.cells #[a0, a1, a2, a3, a4, a5, a6] t (0, 0))) (v0 v1 v2 v3 v4 v5 v6 : Value) :
    (((((((X.setCell ⟨R, 0, none⟩ v0).setCell ⟨R, 1, none⟩ v1).setCell ⟨R, 2, none⟩ v2).setCell ⟨R, 3, none⟩ v3).setCell ⟨R, 4, none⟩ v4).setCell ⟨R, 5, none⟩ v5).setCell ⟨R, 6, none⟩ v6).heap[R]? = some (.cells #[v0, v1, v2, v3, v4, v5, v6] t (0, 0)) ∧ Touch [R] X (((((((X.setCell ⟨R, 0, none⟩ v0).setCell ⟨R, 1, none⟩ v1).setCell ⟨R, 2, none⟩ v2).setCell ⟨R, 3, none⟩ v3).setCell ⟨R, 4, none⟩ v4).setCell ⟨R, 5, none⟩ v5).setCell ⟨R, 6, none⟩ v6) := by
  have t := Touch.refl [R] X
  have h0 := set_blk h 0 v0
  have t := t.setCell (p := ⟨R, 0, none⟩) (.inl (by simp)) v0
  simp only [List.setIfInBounds_toArray, List.set_cons_zero] at h0
  have h1 := set_blk h0 1 v1
  have t := t.setCell (p := ⟨R, 1, none⟩) (.inl (by simp)) v1
  simp only [List.setIfInBounds_toArray, List.set_cons_zero, List.set_cons_succ] at h1
  have h2 := set_blk h1 2 v2
  have t := t.setCell (p := ⟨R, 2, none⟩) (.inl (by simp)) v2
  simp only [List.setIfInBounds_toArray, List.set_cons_zero, List.set_cons_succ] at h2
  have h3 := set_blk h2 3 v3
  have t := t.setCell (p := ⟨R, 3, none⟩) (.inl (by simp)) v3
  simp only [List.setIfInBounds_toArray, List.set_cons_zero, List.set_cons_succ] at h3
  have h4 := set_blk h3 4 v4
  have t := t.setCell (p := ⟨R, 4, none⟩) (.inl (by simp)) v4
  simp only [List.setIfInBounds_toArray, List.set_cons_zero, List.set_cons_succ] at h4
  have h5 := set_blk h4 5 v5
  have t := t.setCell (p := ⟨R, 5, none⟩) (.inl (by simp)) v5
  simp only [List.setIfInBounds_toArray, List.set_cons_zero, List.set_cons_succ] at h5
  have h6 := set_blk h5 6 v6
  have t := t.setCell (p := ⟨R, 6, none⟩) (.inl (by simp)) v6
  simp only [List.setIfInBounds_toArray, List.set_cons_zero, List.set_cons_succ] at h6
  exact ⟨h6, t⟩
theorem blk7 {w : World} {R : Nat} {t : TypeId} {a0 a1 a2 a3 a4 a5 a6 : Value} (h : w.heap[R]? = some (.cells #[a0, a1, a2, a3, a4, a5, a6] t (0, 0))) :
    w.cell? ⟨R, 0, none⟩ = some a0 ∧ w.cell? ⟨R, 1, none⟩ = some a1 ∧ w.cell? ⟨R, 2, none⟩ = some a2 ∧ w.cell? ⟨R, 3, none⟩ = some a3 ∧ w.cell? ⟨R, 4, none⟩ = some a4 ∧ w.cell? ⟨R, 5, none⟩ = some a5 ∧ w.cell? ⟨R, 6, none⟩ = some a6 ∧ w.frozen? ⟨R, 0, none⟩ = false ∧ w.frozen? ⟨R, 1, none⟩ = false ∧ w.frozen? ⟨R, 2, none⟩ = false ∧ w.frozen? ⟨R, 3, none⟩ = false ∧ w.frozen? ⟨R, 4, none⟩ = false ∧ w.frozen? ⟨R, 5, none⟩ = false ∧ w.frozen? ⟨R, 6, none⟩ = false :=
  ⟨cell_blk h rfl, cell_blk h rfl, cell_blk h rfl, cell_blk h rfl, cell_blk h rfl, cell_blk h rfl, cell_blk h rfl, by simp [World.frozen?, h], by simp [World.frozen?, h], by simp [World.frozen?, h], by simp [World.frozen?, h], by simp [World.frozen?, h], by simp [World.frozen?, h], by simp [World.frozen?, h]⟩
end Go.Proofs.YtafoklilkdnepaaGreatDoor

/- expr.Expr.Size, bywashref04.Size: how many expressions. For every expression. -/
namespace Go.Proofs.YtafoklilkdnepaaGreatDoor
open Go.RowKit

set_option maxRecDepth 20000 in
set_option maxHeartbeats 800000 in
theorem sizeX_any (n : Nat) : ∀ (e : TX n) (x : XC) (w : World), ExP xcE anyB n w x e → sizeX n e ≤ 2000000 →
    Calls Tryz.prog 26 #[x.val] w fun r w' => r = .returned (.int .i64 (sizeX n e)) ∧ Touch [] w w' := by
  induction n with
  | zero => intro e; exact e.elim
  | succ n ih =>
    intro e x w hx hs
    obtain ⟨nd, args⟩ := e
    obtain ⟨h1, h2, h3⟩ := hx.args
    have hsum : sumX n args ≤ 2000000 := by have hs' : 1 + sumX n args ≤ 2000000 := hs; omega
    have hlen := len_le_sum n args
    have htk := sum_take_le n args
    have hfin : sizeX (n + 1) (nd, args) = 1 + sumX n args := rfl
    obtain ⟨⟨k, nm, ⟨vk, vn, vt⟩, op⟩, A, m, c⟩ := x
    dsimp only at h2 h3
    subst h2
    dsimp only [XC.val]
    have Htk := Lib.hid htk; have Hfin := Lib.hid hfin; have Ih := Lib.hid ih
    have t0 := (Touch.refl [] w).alloc (.cells #[.int .i64 k, .string nm, .int .i64 vk, .int .i64 vn, .string vt, .string op, .slice A args.length c] 44)
    clear htk hfin ih hx h1 hs
    go_enter Tryz.func26, Tryz.ntmps26
    go_wp2_with fail
    go_loopw [3, 9] (fun v i wr => ∃ j : Nat, j ≤ args.length ∧ i = .int .i64 j ∧ v = .int .i64 ((1 + sumX n (args.take j) : Nat) : Int) ∧ Touch [] w wr) (fun _ i _ => args.length - (intOf i).toNat)
    case atStart => exact ⟨0, by omega, rfl, by simp [sumX], t0⟩
    case round =>
      obtain ⟨j, hj, rfl, rfl, ht⟩ := hrel
      by_cases hlt : j < args.length
      · obtain ⟨ad, b, off, y, rfl, hadd, hy, hcell⟩ := (h3.touch0 ht).at_ xcE_length j hlt
        have hsn := sumX_snoc n args j hlt
        have hms := size_mem (List.getElem_mem hlt)
        have htj := Htk.out j
        have htj1 := Htk.out (j + 1)
        obtain ⟨a, hae⟩ : ∃ a, a = args[j] := ⟨_, rfl⟩
        rw [← hae] at hy hsn hms
        have ta := (Touch.refl [] wr).alloc (.cells #[.int .i64 y.nd.kind, .string y.nd.name, .int .i64 y.nd.v.kind, .int .i64 y.nd.v.num, .string y.nd.v.text, .string y.nd.op, .slice y.A y.n y.c] 44)
        have hc := Lib.hid (Ih.out a y _ (hy.touch0 ta) (by omega))
        have c0 := hcell 0 _ rfl; have c1 := hcell 1 _ rfl; have c2 := hcell 2 _ rfl; have c3 := hcell 3 _ rfl; have c4 := hcell 4 _ rfl; have c5 := hcell 5 _ rfl; have c6 := hcell 6 _ rfl
        rw [Nat.add_zero] at c0
        obtain ⟨p, hp⟩ : ∃ p, p = sumX n (args.take j) := ⟨_, rfl⟩
        obtain ⟨q, hq⟩ : ∃ q, q = sizeX n a := ⟨_, rfl⟩
        rw [← hp] at hsn htj ⊢
        rw [← hq] at hsn hms
        rw [hsn] at htj1
        have Hsn := Lib.hid hsn
        rw [← hq] at hc
        clear hsn hae hcell hp hq
        obtain ⟨⟨k2, nm2, ⟨vk2, vn2, vt2⟩, op2⟩, A2, m2, c2'⟩ := y
        simp only [XC.val] at hc c0 c1 c2 c3 c4 c5 c6
        go_wp2_with fail
        refine hc.out.mono ?_
        rintro e w1 ⟨rfl, t1⟩
        go_wp2_with fail
        go_roundw
        case rel => exact ⟨j + 1, by omega, by go_num, by rw [Hsn.out]; go_num, (ht.trans0 ta).trans0 t1⟩
        case measure => simp [intOf]; omega
      · obtain rfl : j = args.length := by omega
        rw [List.take_length]
        go_wp2_with fail
        go_ret
        exact ⟨by rw [Hfin.out]; rfl, ht⟩
end Go.Proofs.YtafoklilkdnepaaGreatDoor
