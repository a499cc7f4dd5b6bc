/- Part 15 of the texts of this proof, one behind the other; each begins with its own sentence. No condition beyond those that its theorems state. -/
import Derived.Test.YtafoklilkdnepaaGreatDoorRu14
/- relop.Plan.eval at plans with Args. For every such plan, by what its Args, its schema and its rows tell. -/
namespace Go.Proofs.YtafoklilkdnepaaGreatDoor
open Go.RowKit

/-- what an evaluation tells, by its Args, its schema and its rows -/
def nodeE (vs : List (Int × List CD × List (List VD))) (cs : List CD) (rv : Int × List (List VD)) : Int × List CD × List (List VD) :=
 if errL (vs.map fun v => (v.1, v.2.1)) = 0 then (if rv.1 = 0 then (if fitV cs rv.2 = 0 then (0, cs, sortR rv.2) else (fitV cs rv.2, [], [])) else (rv.1, [], [])) else (errL (vs.map fun v => (v.1, v.2.1)), [], [])
/-- slices that lead to these tables, made since base, apart from the row L that holds them -/
def TabsU (base : Nat) (L : Option Addr) (w : World) (tl : List (SL × SL)) (vs : List (List CD × List (List VD))) : Prop := tl.length = vs.length ∧ ∀ i (h1 : i < tl.length) (h2 : i < vs.length), ∃ lo hi, TabU lo hi w tl[i].1 tl[i].2 vs[i].1 vs[i].2 ∧ base ≤ lo ∧ hi ≤ w.heap.size ∧ ∀ b ∈ fpo L, b < lo ∨ hi ≤ b
theorem TabsU.nil (base : Nat) (L : Option Addr) (w : World) : TabsU base L w [] [] := ⟨rfl, fun i h => absurd h (by simp)⟩
theorem TabsU.touch0 {base : Nat} {L : Option Addr} {w w' : World} {tl : List (SL × SL)} {vs : List (List CD × List (List VD))} (h : TabsU base L w tl vs) (ht : Touch [] w w') : TabsU base L w' tl vs := ⟨h.1, fun i a b => by
 obtain ⟨lo, hi, h1, h2, h3, h4⟩ := h.2 i a b
 exact ⟨lo, hi, h1.touch ht (by simp), h2, Nat.le_trans h3 ht.size, h4⟩⟩
theorem TabsU.grow {base : Nat} {L L' : Option Addr} {w w' : World} {tl : List (SL × SL)} {vs : List (List CD × List (List VD))} (h : TabsU base L w tl vs) (ht : Touch (fpo L) w w') (hf : ∀ b ∈ fpo L', b ∈ fpo L ∨ w.heap.size ≤ b) : TabsU base L' w' tl vs := ⟨h.1, fun i a b => by
 obtain ⟨lo, hi, h1, h2, h3, h4⟩ := h.2 i a b
 exact ⟨lo, hi, h1.touch ht h4, h2, Nat.le_trans h3 ht.size, fun b hb => by
  rcases hf b hb with q | q
  ·exact h4 b q
  ·right; omega⟩⟩
theorem TabsU.snoc {base : Nat} {L : Option Addr} {w : World} {tl : List (SL × SL)} {vs : List (List CD × List (List VD))} (h : TabsU base L w tl vs) (s r : SL) (cs : List CD) (rows : List (List VD)) (lo hi : Nat) (h1 : TabU lo hi w s r cs rows) (h2 : base ≤ lo) (h3 : hi ≤ w.heap.size) (h4 : ∀ b ∈ fpo L, b < lo ∨ hi ≤ b) : TabsU base L w (tl ++ [(s, r)]) (vs ++ [(cs, rows)]) := by
 refine ⟨by rw [List.length_append, List.length_append, h.1]; rfl, fun i a b => ?_⟩
 by_cases hi' : i < tl.length
 ·have hi2 : i < vs.length := by rw [← h.1]; exact hi'
  rw [List.getElem_append_left hi', List.getElem_append_left hi2]
  exact h.2 i hi' hi2
 ·have hi'' : i = tl.length := by rw [List.length_append] at a; simp at a; omega
  subst hi''
  have e1 : (tl ++ [(s, r)])[tl.length] = (s, r) := by simp
  have e2 : (vs ++ [(cs, rows)])[tl.length] = (cs, rows) := by rw [List.getElem_append_right (by rw [h.1]; exact Nat.le_refl _)]; simp [h.1]
  rw [e1, e2]
  exact ⟨lo, hi, h1, h2, h3, h4⟩
/-- what a plan's rows are, wherever they are asked for -/
def RowsC (w : World) (x : PC) (tabs : List (List CD × List (List VD))) (rv : Int × List (List VD)) : Prop := ∀ w' (L : Option Addr) (lc : Nat) (tl : List (SL × SL)), Touch [] w w' → (tl.length = tabs.length ∧ ∀ i (h1 : i < tl.length) (h2 : i < tabs.length), TabAt w' tl[i].1 tl[i].2 tabs[i].1 tabs[i].2) → RdK tbE w' L tl →
 Calls Tryz.prog 65 #[x.val, .slice L tabs.length lc] w' (RowsPost rv w')
theorem info_t5 : (Tryz.prog.info? 27).map (fun i => (i.zero, i.size, i.bytes)) = some (some (.agg #[.slice none 0 0, .slice none 0 0]), 2, 48) := by kernel_rfl

set_option maxRecDepth 40000 in
set_option maxHeartbeats 25600000 in
theorem eval_node (x : PC) (kk m : Nat) (hk0 : x.kind = kk) (hk2 : 2 ≤ kk) (hm : x.args.n = m) (hm2 : m ≤ 2) (I : Option Addr) (ic n : Nat) (w : World)
  (xs : List PC) (vs : List (Int × List CD × List (List VD))) (hxs : xs.length = m) (hvs : vs.length = m) (hX : RdK pcE w x.args.A xs) (hE : ∀ i (h1 : i < xs.length) (h2 : i < vs.length), EvalC w I ic n xs[i] vs[i])
  (ver : Int) (cs : List CD) (hS : errL (vs.map fun v => (v.1, v.2.1)) = 0 → SchemaC w x (vs.map (·.2.1)) (ver, cs)) (rv : Int × List (List VD)) (hR : errL (vs.map fun v => (v.1, v.2.1)) = 0 → RowsC w x (vs.map (·.2)) rv)
  (hok : ∀ c ∈ cs, c.Ok) (hvl : cs.length ≤ 1000000) (hrk : RowsOk rv.2) (hrl : RowsLe rv.2) (hrn : rv.2.length ≤ 1000000) :
  Calls Tryz.prog 30 #[x.val, .slice I n ic] w (EvPost (nodeE vs cs rv) w) := by
 obtain ⟨PO, hPO⟩ : ∃ PO, PO = EvPost (nodeE vs cs rv) w := ⟨_, rfl⟩
 rw [← hPO]
 have HPO := Lib.hid hPO
 have HSC := Lib.hid hS
 have HRC := Lib.hid hR
 obtain ⟨k0, k1, ⟨A2, n2, c2'⟩, ⟨⟨ck, cn, ⟨cvk, cvn, cvt⟩, cop⟩, CA, cnn, cc⟩, ⟨NA, nn, nc⟩, ⟨EA, en, ec⟩, ⟨OA, ol, oc⟩, ⟨GA, gn, gc⟩, ⟨BA, bn, bc⟩, count⟩ := x
 dsimp only at hk0 hm hX ⊢
 subst hk0 hm
 simp only [PC.val]
 obtain ⟨W, hW⟩ : ∃ W, W = (w.alloc (.cells #[.int .i64 (kk : Nat), .string k1, .slice A2 n2 c2', .int .i64 ck, .string cn, .int .i64 cvk, .int .i64 cvn, .string cvt, .string cop, .slice CA cnn cc, .slice NA nn nc, .slice EA en ec, .slice OA ol oc, .slice GA gn gc, .slice BA bn bc, .int .i64 count] 49)).alloc (.cells #[.slice none 0 0, .slice none 0 0] 27) := ⟨_, rfl⟩
 have t0 : Touch [] w W := hW ▸ ((Touch.refl [] w).alloc _).alloc _
 have hb0 := hW ▸ ((Touch.refl [] (w.alloc (.cells #[.int .i64 (kk : Nat), .string k1, .slice A2 n2 c2', .int .i64 ck, .string cn, .int .i64 cvk, .int .i64 cvn, .string cvt, .string cop, .slice CA cnn cc, .slice NA nn nc, .slice EA en ec, .slice OA ol oc, .slice GA gn gc, .slice BA bn bc, .int .i64 count] 49))).alloc (.cells #[.slice none 0 0, .slice none 0 0] 27)).blk (heap_alloc_new w _) (by simp)
 have hbt : W.heap[w.heap.size + 1]? = some (.cells #[.slice none 0 0, .slice none 0 0] 27 (0, 0)) := by
  have := heap_alloc_new (w.alloc (.cells #[.int .i64 (kk : Nat), .string k1, .slice A2 n2 c2', .int .i64 ck, .string cn, .int .i64 cvk, .int .i64 cvn, .string cvt, .string cop, .slice CA cnn cc, .slice NA nn nc, .slice EA en ec, .slice OA ol oc, .slice GA gn gc, .slice BA bn bc, .int .i64 count] 49)) (.cells #[.slice none 0 0, .slice none 0 0] 27)
  rw [World.size_alloc] at this
  exact hW ▸ this
 have hWs : W.heap.size = w.heap.size + 2 := by rw [hW]; simp
 have q2 : W.cell? ⟨w.heap.size, 2, none⟩ = some (.slice A2 n2 c2') := cell_blk hb0 rfl
 have hkc : ((kk : Int) == 1) = false := by rw [beq_eq_false_iff_ne]; omega
 have HW := Lib.hid hW
 have HT0 := Lib.hid (And.intro t0 (And.intro hb0 (And.intro hbt hWs)))
 have HX := Lib.hid (RdK.touch0 hX t0)
 have HEv := Lib.hid hE
 have Hxs := Lib.hid hxs
 have Hvs := Lib.hid hvs
 have Hok := Lib.hid (And.intro hok (And.intro hrk hrl))
 clear hb0 hbt hW t0 hX hE hxs hvs hPO hS hR hWs hok hrk hrl
 go_enter Tryz.func30, Tryz.ntmps30
 go_wp2_with fail
 rw [← HW.out]
 go_loopw [6, 23] (fun o i wr => ∃ (j : Nat) (L : Option Addr) (lc : Nat) (tl : List (SL × SL)), j ≤ n2 ∧ i = .int .i64 j ∧ o = .slice L j lc ∧ Hid (∀ i (hi : i < j) (h2 : i < vs.length), vs[i].1 = 0) ∧ Hid (TabsU W.heap.size L wr tl ((vs.map (·.2)).take j)) ∧ Hid (OwnK 27 2 tbE wr L lc tl) ∧ Hid (∀ b ∈ fpo L, W.heap.size ≤ b) ∧ Hid (Touch [] W wr)) (fun _ i _ => n2 - (intOf i).toNat)
 case atStart => exact ⟨0, none, 0, [], by omega, rfl, rfl, Lib.hid (fun i h => absurd h (by omega)), Lib.hid (TabsU.nil _ _ _), Lib.hid (OwnK.nil _ _ _ _), Lib.hid (by simp [fpo]), Lib.hid (Touch.refl _ _)⟩
 case round =>
  obtain ⟨j, L, lc, tl, hj, rfl, rfl, HE, HS, HO, HF, HT⟩ := hrel
  have htlj : Hid (tl.length = j) := Lib.hid (by rw [HS.out.1, List.length_take, List.length_map, Hvs.out]; omega)
  by_cases hlt : j < n2
  ·have hjx : j < xs.length := by rw [Hxs.out]; exact hlt
   have hjv : j < vs.length := by rw [Hvs.out]; exact hlt
   obtain ⟨ad, b1, o1, rfl, hadd, hc⟩ := RdK.cells (HX.out.touch0 HT.out) 16 pcE_length (by omega) j hjx
   have hty := HEv.out j hjx hjv
   have hmv : (vs.map (·.2)).take (j + 1) = (vs.map (·.2)).take j ++ [vs[j].2] := by
    rw [List.take_succ_eq_append_getElem (by rw [List.length_map]; exact hjv), List.getElem_map]
   have her : vs[j].1 ≠ 0 → errL (vs.map fun v => (v.1, v.2.1)) = vs[j].1 := fun h0 => by
    have := errL_at (l := vs.map fun v => (v.1, v.2.1)) (j := j) (by rw [List.length_map]; exact hjv) (fun i hi => by rw [List.getElem_map]; exact HE.out i hi (by omega)) (by rw [List.getElem_map]; exact h0)
    rw [this, List.getElem_map]
   obtain ⟨y, hy⟩ : ∃ y, y = xs[j] := ⟨_, rfl⟩
   obtain ⟨u, hu⟩ : ∃ u, u = vs[j] := ⟨_, rfl⟩
   rw [← hy] at hc hty
   rw [← hu] at hty hmv her
   obtain ⟨y0, y1, ⟨yA2, yn2, yc2⟩, ⟨⟨yck, ycn, ⟨ycvk, ycvn, ycvt⟩, ycop⟩, yCA, ycnn, ycc⟩, ⟨yNA, ynn, ync⟩, ⟨yEA, yen, yec⟩, ⟨yOA, yol, yoc⟩, ⟨yGA, ygn, ygc⟩, ⟨yBA, ybn, ybc⟩, ycount⟩ := y
   have e0 := hc 0 _ rfl; have e1 := hc 1 _ rfl; have e2 := hc 2 _ rfl; have e3 := hc 3 _ rfl; have e4 := hc 4 _ rfl; have e5 := hc 5 _ rfl; have e6 := hc 6 _ rfl; have e7 := hc 7 _ rfl
   have e8 := hc 8 _ rfl; have e9 := hc 9 _ rfl; have e10 := hc 10 _ rfl; have e11 := hc 11 _ rfl; have e12 := hc 12 _ rfl; have e13 := hc 13 _ rfl; have e14 := hc 14 _ rfl; have e15 := hc 15 _ rfl
   rw [Nat.add_zero] at e0
   dsimp only at e0 e1 e2 e3 e4 e5 e6 e7 e8 e9 e10 e11 e12 e13 e14 e15
   have ta := (Touch.refl [] wr).alloc (.cells #[.int .i64 y0, .string y1, .slice yA2 yn2 yc2, .int .i64 yck, .string ycn, .int .i64 ycvk, .int .i64 ycvn, .string ycvt, .string ycop, .slice yCA ycnn ycc, .slice yNA ynn ync, .slice yEA yen yec, .slice yOA yol yoc, .slice yGA ygn ygc, .slice yBA ybn ybc, .int .i64 ycount] 49)
   have hty2 := hty _ ((HT0.out.1.trans0 HT.out).trans0 ta)
   simp only [PC.val] at hty2
   have Hty := Lib.hid hty2
   have Hmv := Lib.hid hmv
   have HTa := Lib.hid ta
   have hjn : (j : Int) < (n2 : Int) := by omega
   obtain ⟨uer, ucs, urows⟩ := u
   dsimp only at her hmv Hmv Hty
   have Hu := Lib.hid hu
   clear hc hty hty2 hy hu hmv ta
   by_cases hz : uer = 0
   ·as_aux_lemma =>
    subst hz
    clear her
    go_wp2_with fail
    refine Hty.out.mono ?_
    rintro e w1 ⟨⟨sA, sn, sc⟩, ⟨rA, rn, rc⟩, rfl, hnt, t1⟩
    have hUT : TabU (wr.heap.size + 1) w1.heap.size w1 ⟨sA, sn, sc⟩ ⟨rA, rn, rc⟩ ucs urows := by
     have := TabU.of hnt
     rw [World.size_alloc] at this
     exact this
    have T1 := HTa.out.trans0 t1
    have hs1 := HTa.out.size
    rw [World.size_alloc] at hs1
    have HY := Lib.hid (And.intro hUT t1.size)
    have HT1 := Lib.hid T1
    have tb := (Touch.refl [] w1).alloc (.cells #[.slice sA sn sc, .slice rA rn rc] 27)
    have HTb := Lib.hid (And.intro tb (heap_alloc_new w1 (.cells #[.slice sA sn sc, .slice rA rn rc] 27)))
    clear hnt t1 T1 hUT hs1 tb
    go_wp2_with (at_builtin; refine stop ?_)
    refine go ?_
    have tc := HTb.out.1.alloc (.cells #[.slice sA sn sc, .slice rA rn rc] 27)
    have hrd1 := RdK.one (enc := tbE) (w1.alloc (.cells #[.slice sA sn sc, .slice rA rn rc] 27)) 27 (⟨sA, sn, sc⟩, ⟨rA, rn, rc⟩) #[.slice sA sn sc, .slice rA rn rc] rfl
    rw [World.size_alloc] at hrd1
    refine wpList_appK (enc := tbE) rfl (.tmp 37) (.tmp 39) 115 rfl 27 _ 2 48 info_t5 Tryz.underlying115 rfl (by omega) tbE_length tbE_one L j lc tl htlj.out rfl (HO.out.touch0 (HT1.out.trans0 tc))
     (some ⟨w1.heap.size + 1, 0, none⟩) 1 1 [(⟨sA, sn, sc⟩, ⟨rA, rn, rc⟩)] rfl rfl hrd1 (by omega) (by omega) ?_
    intro L' lc' w' hown ht hf
    have HN2 := Lib.hid (And.intro hown (And.intro ht (And.intro hf tc)))
    clear hown ht hf tc hrd1
    go_wp2_with fail
    go_roundw
    case rel =>
     obtain ⟨hown, ht, hf, tc⟩ := HN2.out
     obtain ⟨hU, hs1⟩ := HY.out
     have hLlt := HO.out.lt
     have hsz := HT.out.size
     have hs2 := HT1.out.size
     rw [World.size_alloc] at hs1
     have hU2 : TabsU W.heap.size L w1 (tl ++ [(⟨sA, sn, sc⟩, ⟨rA, rn, rc⟩)]) ((vs.map (·.2)).take (j + 1)) := by
      rw [Hmv.out]
      exact (HS.out.touch0 HT1.out).snoc _ _ _ _ _ _ hU (by omega) (Nat.le_refl _) (fun b hb => by have := hLlt b hb; omega)
     refine ⟨j + 1, L', lc', _, by omega, by go_num, rfl, Lib.hid (fun i hi h2 => ?_), Lib.hid ((hU2.touch0 tc).grow ht (fun b hb => ?_)), Lib.hid hown, Lib.hid (fun b hb => ?_), Lib.hid (((HT.out.trans0 HT1.out).trans0 tc).trans ht (fun b hb => .inr (HF.out b hb)))⟩
     ·by_cases hij : i = j
      ·subst hij; rw [← Hu.out]
      ·exact HE.out i (by omega) h2
     ·rcases hf b hb with q | q
      ·exact .inl q
      ·exact .inr (by rw [q]; exact Nat.le_refl _)
     ·rcases hf b hb with q | q
      ·exact HF.out b q
      ·rw [World.size_alloc, World.size_alloc] at q; omega
    case measure => simp [intOf]; omega
   ·as_aux_lemma =>
    have HVe := Lib.hid (show nodeE vs cs rv = (uer, [], []) by
     unfold nodeE; rw [her hz, if_neg hz])
    have hq : (uer == 0) = false := by rw [beq_eq_false_iff_ne]; exact hz
    have hq' : (uer != 0) = true := by rw [bne, hq]; rfl
    clear her
    go_wp2_with fail
    refine Hty.out.mono ?_
    rintro e w1 ⟨⟨sA, sn, sc⟩, ⟨rA, rn, rc⟩, rfl, hnt, t1⟩
    have ta2 := (Touch.refl [] w1).alloc (.cells #[.slice sA sn sc, .slice rA rn rc] 27)
    have hr2 := ta2.blk (t1.blk (HTa.out.blk (HT.out.blk HT0.out.2.2.1 (by simp)) (by simp)) (by simp)) (by simp)
    obtain ⟨z0, z1, y0, y1⟩ := blk2 hr2
    have HT1 := Lib.hid (And.intro ((((HT0.out.1.trans0 HT.out).trans0 HTa.out).trans0 t1).trans0 ta2) hr2)
    clear hnt t1 hr2 ta2
    go_wp2_with fail
    refine bodyPost_ret (results_cell_two rfl _ _ (w.heap.size + 1) _ _ _ _ rfl (set2 HT1.out.2 rfl _ _) Tryz.underlying27 rfl rfl) rfl ?_
    rw [HPO.out, HVe.out]
    exact EvPost.err uer (HT1.out.1.trans (touch2 _ _ _ _) (fun b hb => .inr (by simp at hb; omega)))
  ·obtain rfl : j = n2 := by omega
   have hz : errL (vs.map fun v => (v.1, v.2.1)) = 0 := errL_zero fun u hu => by
    obtain ⟨v, hv, rfl⟩ := List.mem_map.1 hu
    obtain ⟨i, hi, rfl⟩ := List.mem_iff_getElem.1 hv
    exact HE.out i (by rw [← Hvs.out]; exact hi) hi
   have HVe := Lib.hid (show nodeE vs cs rv = if rv.1 = 0 then (if fitV cs rv.2 = 0 then (0, cs, sortR rv.2) else (fitV cs rv.2, [], [])) else (rv.1, [], []) by unfold nodeE; rw [if_pos hz])
   have hlen : (vs.map (·.2)).length = j := by rw [List.length_map]; exact Hvs.out
   have hlen2 : (vs.map (·.2.1)).length = j := by rw [List.length_map]; exact Hvs.out
   have HS2 : Hid (TabsU W.heap.size L wr tl (vs.map (·.2))) := Lib.hid (by
    have := HS.out
    rwa [← hlen, List.take_length] at this)
   obtain ⟨W2, hW2⟩ : ∃ W2, W2 = wr := ⟨_, rfl⟩
   subst hW2
   have q0 := HT.out.cell (blk16 HT0.out.2.1).1 (by simp)
   have HLN := Lib.hid (And.intro hz (And.intro hlen hlen2))
   have hlw := Lib.hid (HO.out.lt)
   clear HE HS HF hlt hz hlen hlen2
   go_wp2_with fail
   clear q0
   go_loopw [13, 56] (fun o i w4 => ∃ (k : Nat) (Ls : Option Addr) (lcs : Nat) (sl : List SL), k ≤ j ∧ i = .int .i64 k ∧ o = .slice Ls k lcs ∧ Hid (SlcsAt w.heap.size w4 sl ((vs.map (·.2.1)).take k)) ∧ Hid (OwnK 24 1 slE w4 Ls lcs sl) ∧ Hid (∀ b ∈ fpo Ls, W2.heap.size ≤ b) ∧ Hid (∀ s ∈ sl, ∀ b ∈ fpo s.A, b < W2.heap.size) ∧ Hid (Touch [] W2 w4)) (fun _ i _ => j - (intOf i).toNat)
   case atStart => exact ⟨0, none, 0, [], by omega, rfl, rfl, Lib.hid (SlcsAt.nil _ _), Lib.hid (OwnK.nil _ _ _ _), Lib.hid (by simp [fpo]), Lib.hid (by simp), Lib.hid (Touch.refl _ _)⟩
   case round =>
    obtain ⟨k, Ls, lcs, sl, hk, rfl, rfl, HSl, HOs, HFs, HBs, HTs⟩ := hrel
    have hslk : Hid (sl.length = k) := Lib.hid (by rw [HSl.out.1, List.length_take, HLN.out.2.2]; omega)
    by_cases hlt : k < j
    ·as_aux_lemma =>
     have hkt : k < tl.length := by rw [htlj.out]; exact hlt
     have hkv : k < (vs.map (·.2)).length := by rw [HLN.out.2.1]; exact hlt
     have hkv1 : k < vs.length := by rw [Hvs.out]; exact hlt
     obtain ⟨ad, b1, o1, rfl, hadd, hc⟩ := RdK.cells (RdK.touch0 HO.out.rd HTs.out) 2 tbE_length (by omega) k hkt
     obtain ⟨lo, hi, hU, hlo, hhi, _⟩ := HS2.out.2 k hkt hkv
     rw [List.getElem_map] at hU
     have hmv : (vs.map (·.2.1)).take (k + 1) = (vs.map (·.2.1)).take k ++ [vs[k].2.1] := by
      rw [List.take_succ_eq_append_getElem (by rw [List.length_map]; exact hkv1), List.getElem_map]
     obtain ⟨t, ht⟩ : ∃ t, t = tl[k] := ⟨_, rfl⟩
     obtain ⟨u, hu⟩ : ∃ u, u = vs[k] := ⟨_, rfl⟩
     rw [← ht] at hc hU
     rw [← hu] at hU hmv
     obtain ⟨⟨sA, sn, sc⟩, ⟨rA, rn, rc⟩⟩ := t
     obtain ⟨uer, ucs, urows⟩ := u
     have e0 := hc 0 _ rfl
     have e1 := hc 1 _ rfl
     rw [Nat.add_zero] at e0
     dsimp only at e0 e1 hmv hU
     have HU := Lib.hid (And.intro hU (And.intro hlo hhi))
     have Hmv := Lib.hid hmv
     have hkn : (k : Int) < (j : Int) := by omega
     clear hc hU hlo hhi hmv ht hu
     go_wp2_with (at_builtin; refine stop ?_)
     refine go ?_
     have tc := ((Touch.refl [] wr).alloc (.cells #[.slice sA sn sc, .slice rA rn rc] 27)).alloc (.cells #[.slice sA sn sc] 24)
     have hrd1 := RdK.one (enc := slE) (wr.alloc (.cells #[.slice sA sn sc, .slice rA rn rc] 27)) 24 ⟨sA, sn, sc⟩ #[.slice sA sn sc] rfl
     rw [World.size_alloc] at hrd1
     refine wpList_appK (enc := slE) rfl (.tmp 60) (.tmp 63) 119 rfl 24 _ 1 24 info_s5 Tryz.underlying119 rfl (by omega) slE_length slE_one Ls k lcs sl hslk.out rfl (HOs.out.touch0 tc)
      (some ⟨wr.heap.size + 1, 0, none⟩) 1 1 [⟨sA, sn, sc⟩] rfl rfl hrd1 (by omega) (by omega) ?_
     intro L' lc' w' hown ht hf
     have HN2 := Lib.hid (And.intro hown (And.intro ht (And.intro hf tc)))
     clear hown ht hf tc hrd1
     go_wp2_with fail
     go_roundw
     case rel =>
      obtain ⟨hown, ht, hf, tc⟩ := HN2.out
      obtain ⟨hU, hlo, hhi⟩ := HU.out
      have hs0 := HT0.out.1.size
      have hsn := ((HSl.out.touch0 tc).snoc ⟨sA, sn, sc⟩ ucs hU.n hU.le (hU.cols.touch0 (HTs.out.trans0 tc)) (fun b hb => ⟨by have := hU.cf b hb; omega, by have := (hU.cf b hb).2; have := (HTs.out.trans0 tc).size; omega⟩))
      have hall : ∀ s ∈ sl ++ [(⟨sA, sn, sc⟩ : SL)], ∀ b ∈ fpo s.A, b < W2.heap.size := fun s hs b hb => by
       rcases List.mem_append.1 hs with q | q
       ·exact HBs.out s q b hb
       ·simp only [List.mem_singleton] at q; subst q; have := (hU.cf b hb).2; omega
      refine ⟨k + 1, L', lc', _, by omega, by go_num, rfl, Lib.hid (by rw [Hmv.out]; exact hsn.touch ht (fun s hs b hb hm => by have := hall s hs b hb; have := HFs.out b hm; omega)), Lib.hid hown, Lib.hid (fun b hb => ?_), Lib.hid hall, Lib.hid ((HTs.out.trans0 tc).trans ht (fun b hb => .inr (HFs.out b hb)))⟩
      rcases hf b hb with q | q
      ·exact HFs.out b q
      ·rw [World.size_alloc, World.size_alloc] at q; have := HTs.out.size; omega
     case measure => simp [intOf]; omega
    ·as_aux_lemma =>
     obtain rfl : k = j := by omega
     have hsl : SlcsAt w.heap.size wr sl (vs.map (·.2.1)) := by
      have := HSl.out
      rwa [← HLN.out.2.2, List.take_length] at this
     have hTw := (HT0.out.1.trans0 HT.out).trans0 HTs.out
     have hsc := HSC.out HLN.out.1 wr w.heap.size Ls lcs sl hTw hTw.size hsl HOs.out.rd
     rw [HLN.out.2.2] at hsc
     simp only [PC.val] at hsc
     have Hsc := Lib.hid hsc
     have HB := Lib.hid ((HT.out.trans0 HTs.out).blk HT0.out.2.1 (by simp))
     have HBr := Lib.hid ((HT.out.trans0 HTs.out).blk HT0.out.2.2.1 (by simp))
     have HTw := Lib.hid hTw
     have HRW := Lib.hid fun w' (t : Touch [] wr w') => HRC.out HLN.out.1 w' L lc tl (hTw.trans0 t) ⟨HS2.out.1, fun i a b => by
      obtain ⟨lo, hi, hU, _⟩ := HS2.out.2 i a b
      exact hU.tab.touch0 (HTs.out.trans0 t)⟩ (RdK.touch0 HO.out.rd (HTs.out.trans0 t))
     rw [HLN.out.2.1] at HRW
     simp only [PC.val] at HRW
     obtain ⟨p0, p1, p2, p3, p4, p5, p6, p7, p8, p9, p10, p11, p12, p13, p14, p15⟩ := blk16 HB.out
     clear hsc hTw hsl hlt hslk HSl HOs HFs HBs htlj HS2 HO
     go_wp2_with fail
     refine Hsc.out.mono ?_
     rintro e w5 ⟨⟨sA, sn, sc⟩, rfl, s1, s2, s3, s4, t5⟩
     have HY := Lib.hid (And.intro s1 (And.intro s2 (And.intro s3 t5)))
     have hrw := HRW.out w5 t5
     have Hrw := Lib.hid hrw
     have HB5 := Lib.hid (t5.blk HB.out (by simp))
     have HBr5 := Lib.hid (t5.blk HBr.out (by simp))
     clear s1 s2 s3 s4 t5 hrw p0 p1 p2 p3 p4 p5 p6 p7 p8 p9 p10 p11 p12 p13 p14 p15 Hsc
     obtain ⟨p0, p1, p2, p3, p4, p5, p6, p7, p8, p9, p10, p11, p12, p13, p14, p15⟩ := blk16 HB5.out
     go_wp2_with fail
     refine Hrw.out.mono ?_
     rintro e w6 ⟨⟨rA, rn, rc⟩, rfl, r1, r2, t6⟩
     have HZ := Lib.hid (And.intro r1 (And.intro r2 t6))
     have HBr6 := Lib.hid (t6.blk HBr5.out (by simp))
     obtain ⟨rer, rrows⟩ := rv
     dsimp only at hrn HVe HZ
     clear r1 r2 t6 Hrw p0 p1 p2 p3 p4 p5 p6 p7 p8 p9 p10 p11 p12 p13 p14 p15
     obtain ⟨z0, z1, y0, y1⟩ := blk2 HBr6.out
     by_cases hr0 : rer = 0
     ·as_aux_lemma =>
      have HVf := Lib.hid (show nodeE vs cs (rer, rrows) = if fitV cs rrows = 0 then (0, cs, sortR rrows) else (fitV cs rrows, [], []) by rw [HVe.out, if_pos hr0])
      subst hr0
      clear HVe
      by_cases hf0 : fitV cs rrows = 0
      ·as_aux_lemma =>
       have HVg := Lib.hid (show nodeE vs cs (0, rrows) = (0, cs, sortR rrows) by rw [HVf.out, if_pos hf0])
       have Hmk := Lib.hid (make_yes sA sc sn cs HY.out.1.symm HY.out.2.1 Hok.out.1 rA rc rn rrows HZ.out.1.symm Hok.out.2.1 Hok.out.2.2 w6 (HY.out.2.2.1.touch0 HZ.out.2.2) HZ.out.2.1 (by have := HY.out.1; omega) (by have := HZ.out.1; omega) hf0)
       clear HVf hf0
       go_wp2_with fail
       refine Hmk.out.mono ?_
       rintro e w7 ⟨⟨mA, mn, mc⟩, ⟨gA, gn', gc'⟩, out, rfl, hnt, hso, t7⟩
       have HM := Lib.hid (And.intro hnt (And.intro hso (And.intro t7 (t7.blk HBr6.out (by simp)))))
       clear hnt hso t7 Hmk z0 z1 y0 y1
       obtain ⟨z0, z1, y0, y1⟩ := blk2 HM.out.2.2.2
       go_wp2_with fail
       obtain ⟨hnt, hso, t7, hr7⟩ := HM.out
       have tq := touch2 w7 (w.heap.size + 1) (.slice mA mn mc) (.slice gA gn' gc')
       have hT6 := (HTw.out.trans0 HY.out.2.2.2).trans0 HZ.out.2.2
       have hs6 := hT6.size
       have hWs := HT0.out.2.2.2
       have hs7 : w.heap.size + 2 ≤ w6.heap.size := by
        have h1 := (((HT.out.trans0 HTs.out).trans0 HY.out.2.2.2).trans0 HZ.out.2.2).size
        omega
       refine bodyPost_ret (results_cell_two rfl _ _ (w.heap.size + 1) _ _ _ _ rfl (set2 hr7 rfl _ _) Tryz.underlying27 rfl rfl) rfl ?_
       rw [HPO.out, HVg.out, ← sortR_of hso]
       refine ⟨⟨mA, mn, mc⟩, ⟨gA, gn', gc'⟩, rfl, ?_, (hT6.trans0 t7).trans tq (fun b hb => .inr (by simp at hb; omega))⟩
       refine ⟨hnt.n, hnt.le, RdK.touch hnt.cols tq (fun b hb hm => ?_), fun b hb => ⟨?_, ?_⟩, hnt.m, ?_, fun b hb => ?_, hnt.apart⟩
       ·have := (hnt.cf b hb).1; simp at hm; omega
       ·have := (hnt.cf b hb).1; omega
       ·have := (hnt.cf b hb).2; have := tq.size; omega
       ·exact (hnt.rws.touch tq (fun b hb => by simp at hb; omega) (fun b hb => hnt.rf b hb)).base (by omega)
       ·have := hnt.rf b hb; omega
      ·as_aux_lemma =>
       have HVg := Lib.hid (show nodeE vs cs (0, rrows) = (fitV cs rrows, [], []) by rw [HVf.out, if_neg hf0])
       have hmk := make_no sA sc sn cs HY.out.1.symm Hok.out.1 rA rc rn rrows HZ.out.1.symm Hok.out.2.1 w6 (HY.out.2.2.1.touch0 HZ.out.2.2) HZ.out.2.1 (by have := HY.out.1; omega) (by have := HZ.out.1; omega) hf0
       obtain ⟨K, hK⟩ : ∃ K, K = fitV cs rrows := ⟨_, rfl⟩
       rw [← hK] at hmk HVg
       have Hmk := Lib.hid hmk
       clear HVf hf0 hK hmk
       go_wp2_with fail
       refine Hmk.out.mono ?_
       rintro e w7 ⟨rfl, t7⟩
       have HM := Lib.hid (And.intro t7 (t7.blk HBr6.out (by simp)))
       clear t7 Hmk z0 z1 y0 y1
       obtain ⟨z0, z1, y0, y1⟩ := blk2 HM.out.2
       go_wp2_with fail
       have hT6 := (HTw.out.trans0 HY.out.2.2.2).trans0 HZ.out.2.2
       refine bodyPost_ret (results_cell_two rfl _ _ (w.heap.size + 1) _ _ _ _ rfl (set2 HM.out.2 rfl _ _) Tryz.underlying27 rfl rfl) rfl ?_
       rw [HPO.out, HVg.out]
       exact EvPost.err K ((hT6.trans0 HM.out.1).trans (touch2 _ _ _ _) (fun b hb => .inr (by simp at hb; omega)))
     ·as_aux_lemma =>
      have HVf := Lib.hid (show nodeE vs cs (rer, rrows) = (rer, [], []) by rw [HVe.out, if_neg hr0])
      have hq : (rer == 0) = false := by rw [beq_eq_false_iff_ne]; exact hr0
      have hq' : (rer != 0) = true := by rw [bne, hq]; rfl
      clear HVe
      go_wp2_with fail
      have hT6 := (HTw.out.trans0 HY.out.2.2.2).trans0 HZ.out.2.2
      refine bodyPost_ret (results_cell_two rfl _ _ (w.heap.size + 1) _ _ _ _ rfl (set2 HBr6.out rfl _ _) Tryz.underlying27 rfl rfl) rfl ?_
      rw [HPO.out, HVf.out]
      exact EvPost.err rer (hT6.trans (touch2 _ _ _ _) (fun b hb => .inr (by simp at hb; omega)))
end Go.Proofs.YtafoklilkdnepaaGreatDoor

/- relop.Plan.Size, Type: for every plan whose Args are known. -/
namespace Go.Proofs.YtafoklilkdnepaaGreatDoor
open Go.RowKit

/-- how many plans one is, wherever it is asked for -/
def SizeC (w : World) (x : PC) (k : Nat) : Prop := ∀ w', Touch [] w w' → Calls Tryz.prog 19 #[x.val] w' fun e w'' => e = .returned (.int .i64 k) ∧ Touch [] w' w''
theorem sum_take_succ (l : List Nat) (j : Nat) (h : j < l.length) : (l.take (j + 1)).sum = (l.take j).sum + l[j] := by
 rw [List.take_succ_eq_append_getElem h, List.sum_append]; simp
theorem sum_take_le' (l : List Nat) (j : Nat) : (l.take j).sum ≤ l.sum := by
 induction l generalizing j with
 | nil => simp
 | cons a l ih => cases j with
  | zero => simp
  | succ j => have := ih j; rw [List.take_succ_cons, List.sum_cons, List.sum_cons]; omega

set_option maxRecDepth 40000 in
set_option maxHeartbeats 6400000 in
theorem size_node (x : PC) (xs : List PC) (ks : List Nat) (w : World) (hxs : xs.length = x.args.n) (hks : ks.length = x.args.n) (hX : RdK pcE w x.args.A xs) (hT : ∀ i (h1 : i < xs.length) (h2 : i < ks.length), SizeC w xs[i] ks[i]) (hsum : ks.sum ≤ 1000000) (hnn : x.args.n ≤ 1000000) :
  Calls Tryz.prog 19 #[x.val] w fun e w'' => e = .returned (.int .i64 (1 + ks.sum : Nat)) ∧ Touch [] w w'' := by
 obtain ⟨k0, k1, ⟨A2, n2, c2'⟩, ⟨⟨ck, cn, ⟨cvk, cvn, cvt⟩, cop⟩, CA, cnn, cc⟩, ⟨NA, nn, nc⟩, ⟨EA, en, ec⟩, ⟨OA, ol, oc⟩, ⟨GA, gn, gc⟩, ⟨BA, bn, bc⟩, count⟩ := x
 dsimp only at hxs hks hX hnn ⊢
 simp only [PC.val]
 obtain ⟨W, hW⟩ : ∃ W, W = w.alloc (.cells #[.int .i64 k0, .string k1, .slice A2 n2 c2', .int .i64 ck, .string cn, .int .i64 cvk, .int .i64 cvn, .string cvt, .string cop, .slice CA cnn cc, .slice NA nn nc, .slice EA en ec, .slice OA ol oc, .slice GA gn gc, .slice BA bn bc, .int .i64 count] 49) := ⟨_, rfl⟩
 have t0 : Touch [] w W := hW ▸ (Touch.refl [] w).alloc _
 have HW := Lib.hid hW
 have HT0 := Lib.hid t0
 have HX := Lib.hid (RdK.touch0 hX t0)
 have HTy := Lib.hid hT
 have Hxs := Lib.hid hxs
 have Hks := Lib.hid hks
 have Hsum := Lib.hid hsum
 clear hW t0 hX hT hxs hks hsum
 go_enter Tryz.func19, Tryz.ntmps19
 go_wp2_with fail
 rw [← HW.out]
 go_loopw [3, 9] (fun o i wr => ∃ (j q : Nat), j ≤ n2 ∧ q ≤ 1000001 ∧ i = .int .i64 j ∧ o = .int .i64 q ∧ Hid (q = 1 + (ks.take j).sum) ∧ Hid (Touch [] W wr)) (fun _ i _ => n2 - (intOf i).toNat)
 case atStart => exact ⟨0, 1, by omega, by omega, rfl, rfl, Lib.hid (by simp), Lib.hid (Touch.refl _ _)⟩
 case round =>
  obtain ⟨j, q, hj, hq, rfl, rfl, HQ, HT⟩ := hrel
  by_cases hlt : j < n2
  ·have hjx : j < xs.length := by rw [Hxs.out]; exact hlt
   have hjv : j < ks.length := by rw [Hks.out]; exact hlt
   obtain ⟨ad, b1, o1, rfl, hadd, hc⟩ := RdK.cells (HX.out.touch0 HT.out) 16 pcE_length (by omega) j hjx
   have hty := HTy.out j hjx hjv
   have hst := sum_take_succ ks j hjv
   have hsl := sum_take_le' ks (j + 1)
   obtain ⟨y, hy⟩ : ∃ y, y = xs[j] := ⟨_, rfl⟩
   obtain ⟨u, hu⟩ : ∃ u, u = ks[j] := ⟨_, rfl⟩
   rw [← hy] at hc hty
   rw [← hu] at hty hst
   obtain ⟨y0, y1, ⟨yA2, yn2, yc2⟩, ⟨⟨yck, ycn, ⟨ycvk, ycvn, ycvt⟩, ycop⟩, yCA, ycnn, ycc⟩, ⟨yNA, ynn, ync⟩, ⟨yEA, yen, yec⟩, ⟨yOA, yol, yoc⟩, ⟨yGA, ygn, ygc⟩, ⟨yBA, ybn, ybc⟩, ycount⟩ := y
   have e0 := hc 0 _ rfl; have e1 := hc 1 _ rfl; have e2 := hc 2 _ rfl; have e3 := hc 3 _ rfl; have e4 := hc 4 _ rfl; have e5 := hc 5 _ rfl; have e6 := hc 6 _ rfl; have e7 := hc 7 _ rfl
   have e8 := hc 8 _ rfl; have e9 := hc 9 _ rfl; have e10 := hc 10 _ rfl; have e11 := hc 11 _ rfl; have e12 := hc 12 _ rfl; have e13 := hc 13 _ rfl; have e14 := hc 14 _ rfl; have e15 := hc 15 _ rfl
   rw [Nat.add_zero] at e0
   dsimp only at e0 e1 e2 e3 e4 e5 e6 e7 e8 e9 e10 e11 e12 e13 e14 e15
   have ta := (Touch.refl [] wr).alloc (.cells #[.int .i64 y0, .string y1, .slice yA2 yn2 yc2, .int .i64 yck, .string ycn, .int .i64 ycvk, .int .i64 ycvn, .string ycvt, .string ycop, .slice yCA ycnn ycc, .slice yNA ynn ync, .slice yEA yen yec, .slice yOA yol yoc, .slice yGA ygn ygc, .slice yBA ybn ybc, .int .i64 ycount] 49)
   have hty2 := hty _ ((HT0.out.trans0 HT.out).trans0 ta)
   simp only [PC.val] at hty2
   have Hty := Lib.hid hty2
   have Hst := Lib.hid hst
   have Hsl := Lib.hid hsl
   have HTa := Lib.hid ta
   have hjn : (j : Int) < (n2 : Int) := by omega
   have hub : q + u ≤ 1000001 := by have := HQ.out; have := Hsum.out; omega
   clear hc hty hty2 hy hu ta hst hsl
   go_wp2_with fail
   refine Hty.out.mono ?_
   rintro e w1 ⟨rfl, t1⟩
   have HT1 := Lib.hid ((HT.out.trans0 HTa.out).trans0 t1)
   clear t1
   go_wp2_with fail
   go_roundw
   case rel => exact ⟨j + 1, q + u, by omega, hub, by go_num, by go_num, Lib.hid (by rw [Hst.out, HQ.out]; omega), HT1⟩
   case measure => simp [intOf]; omega
  ·obtain rfl : j = n2 := by omega
   have Hq := Lib.hid (show q = 1 + ks.sum by rw [HQ.out, ← Hks.out, List.take_length])
   clear HQ
   go_wp2_with fail
   go_ret
   exact ⟨by rw [← Hq.out]; rfl, HT0.out.trans0 HT.out⟩

set_option maxRecDepth 40000 in
set_option maxHeartbeats 6400000 in
theorem type_any (x : PC) (k : Nat) (hk : k ≤ 64) (I : Option Addr) (ic n : Nat) (v : Int × List CD) (w : World) (hs : SizeC w x k) (ht : TypedC w I ic n x 1 v) :
  Calls Tryz.prog 16 #[x.val, .slice I n ic] w (TyPost w.heap.size v w) := by
 obtain ⟨k0, k1, ⟨A2, n2, c2'⟩, ⟨⟨ck, cn, ⟨cvk, cvn, cvt⟩, cop⟩, CA, cnn, cc⟩, ⟨NA, nn, nc⟩, ⟨EA, en, ec⟩, ⟨OA, ol, oc⟩, ⟨GA, gn, gc⟩, ⟨BA, bn, bc⟩, count⟩ := x
 simp only [PC.val]
 have ta := (Touch.refl [] w).alloc (.cells #[.int .i64 k0, .string k1, .slice A2 n2 c2', .int .i64 ck, .string cn, .int .i64 cvk, .int .i64 cvn, .string cvt, .string cop, .slice CA cnn cc, .slice NA nn nc, .slice EA en ec, .slice OA ol oc, .slice GA gn gc, .slice BA bn bc, .int .i64 count] 49)
 have hb := heap_alloc_new w (.cells #[.int .i64 k0, .string k1, .slice A2 n2 c2', .int .i64 ck, .string cn, .int .i64 cvk, .int .i64 cvn, .string cvt, .string cop, .slice CA cnn cc, .slice NA nn nc, .slice EA en ec, .slice OA ol oc, .slice GA gn gc, .slice BA bn bc, .int .i64 count] 49)
 have hs1 := hs _ ta
 simp only [PC.val] at hs1
 have Hs := Lib.hid hs1
 have Ht := Lib.hid ht
 have HA := Lib.hid (And.intro ta hb)
 clear ta hb hs hs1 ht
 have hk6 : (64 < (k : Int)) = False := by simp; omega
 go_enter Tryz.func16, Tryz.ntmps16
 go_wp2_with fail
 refine Hs.out.mono ?_
 rintro e w1 ⟨rfl, t1⟩
 obtain ⟨p0, p1, p2, p3, p4, p5, p6, p7, p8, p9, p10, p11, p12, p13, p14, p15⟩ := blk16 (t1.blk HA.out.2 (by simp))
 have ht1 := Ht.out w1 (HA.out.1.trans0 t1)
 simp only [PC.val] at ht1
 have Ht1 := Lib.hid ht1
 have HT1 := Lib.hid (HA.out.1.trans0 t1)
 clear t1 ht1 Ht
 go_wp2_with fail
 refine Ht1.out.mono ?_
 rintro e w2 ⟨⟨sA, sn, sc⟩, rfl, s1, s2, s3, s4, t2⟩
 have HY := Lib.hid (And.intro s1 (And.intro s2 (And.intro s3 (And.intro s4 t2))))
 clear s1 s2 s3 s4 t2
 go_wp2_with fail
 go_ret2
 obtain ⟨s1, s2, s3, s4, t2⟩ := HY.out
 exact ⟨⟨sA, sn, sc⟩, rfl, s1, s2, s3, fun b hb => ⟨Nat.le_trans HT1.out.size (s4 b hb).1, (s4 b hb).2⟩, HT1.out.trans0 t2⟩
end Go.Proofs.YtafoklilkdnepaaGreatDoor

/- relop.Plan.Eval: for every plan whose type and evaluation are known. -/
namespace Go.Proofs.YtafoklilkdnepaaGreatDoor
open Go.RowKit

def topV (v : Int × List CD) (ev : Int × List CD × List (List VD)) : Int × List CD × List (List VD) := if v.1 = 0 then ev else (v.1, [], [])

set_option maxRecDepth 40000 in
set_option maxHeartbeats 6400000 in
theorem evalTop (x : PC) (k : Nat) (hk : k ≤ 64) (I : Option Addr) (ic n : Nat) (v : Int × List CD) (ev : Int × List CD × List (List VD)) (w : World) (hs : SizeC w x k) (ht : TypedC w I ic n x 1 v) (he : v.1 = 0 → EvalC w I ic n x ev) :
  Calls Tryz.prog 12 #[x.val, .slice I n ic] w (EvPost (topV v ev) w) := by
 obtain ⟨PO, hPO⟩ : ∃ PO, PO = EvPost (topV v ev) w := ⟨_, rfl⟩
 rw [← hPO]
 have HPO := Lib.hid hPO
 obtain ⟨k0, k1, ⟨A2, n2, c2'⟩, ⟨⟨ck, cn, ⟨cvk, cvn, cvt⟩, cop⟩, CA, cnn, cc⟩, ⟨NA, nn, nc⟩, ⟨EA, en, ec⟩, ⟨OA, ol, oc⟩, ⟨GA, gn, gc⟩, ⟨BA, bn, bc⟩, count⟩ := x
 have Hty := Lib.hid fun w' (t : Touch [] w w') => type_any _ k hk I ic n v w' (fun w'' t2 => hs w'' (t.trans0 t2)) (fun w'' t2 => ht w'' (t.trans0 t2))
 have Hev := Lib.hid fun (h0 : v.1 = 0) w' (t : Touch [] w w') => he h0 w' t
 simp only [PC.val] at *
 obtain ⟨W, hW⟩ : ∃ W, W = (w.alloc (.cells #[.int .i64 k0, .string k1, .slice A2 n2 c2', .int .i64 ck, .string cn, .int .i64 cvk, .int .i64 cvn, .string cvt, .string cop, .slice CA cnn cc, .slice NA nn nc, .slice EA en ec, .slice OA ol oc, .slice GA gn gc, .slice BA bn bc, .int .i64 count] 49)).alloc (.cells #[.slice none 0 0, .slice none 0 0] 27) := ⟨_, rfl⟩
 have t0 : Touch [] w W := hW ▸ ((Touch.refl [] w).alloc _).alloc _
 have hb0 := hW ▸ ((Touch.refl [] (w.alloc (.cells #[.int .i64 k0, .string k1, .slice A2 n2 c2', .int .i64 ck, .string cn, .int .i64 cvk, .int .i64 cvn, .string cvt, .string cop, .slice CA cnn cc, .slice NA nn nc, .slice EA en ec, .slice OA ol oc, .slice GA gn gc, .slice BA bn bc, .int .i64 count] 49))).alloc (.cells #[.slice none 0 0, .slice none 0 0] 27)).blk (heap_alloc_new w _) (by simp)
 have hbt : W.heap[w.heap.size + 1]? = some (.cells #[.slice none 0 0, .slice none 0 0] 27 (0, 0)) := by
  have := heap_alloc_new (w.alloc (.cells #[.int .i64 k0, .string k1, .slice A2 n2 c2', .int .i64 ck, .string cn, .int .i64 cvk, .int .i64 cvn, .string cvt, .string cop, .slice CA cnn cc, .slice NA nn nc, .slice EA en ec, .slice OA ol oc, .slice GA gn gc, .slice BA bn bc, .int .i64 count] 49)) (.cells #[.slice none 0 0, .slice none 0 0] 27)
  rw [World.size_alloc] at this
  exact hW ▸ this
 have hWs : W.heap.size = w.heap.size + 2 := by rw [hW]; simp
 have HW := Lib.hid hW
 have HT0 := Lib.hid (And.intro t0 (And.intro hb0 (And.intro hbt hWs)))
 clear hW t0 hb0 hbt hWs hPO hs ht he
 go_enter Tryz.func12, Tryz.ntmps12
 go_wp2_with fail
 rw [← HW.out]
 refine (Hty.out _ HT0.out.1).mono ?_
 rintro e w1 ⟨⟨sA, sn, sc⟩, rfl, _, _, _, _, t1⟩
 have HT1 := Lib.hid (And.intro t1 (And.intro (t1.blk HT0.out.2.1 (by simp)) (t1.blk HT0.out.2.2.1 (by simp))))
 clear t1
 obtain ⟨ver, vcs⟩ := v
 by_cases hz : ver = 0
 ·have HV := Lib.hid (show topV (ver, vcs) ev = ev by unfold topV; rw [if_pos hz])
  have Hev1 := Lib.hid (Hev.out hz w1 (HT0.out.1.trans0 HT1.out.1))
  subst hz
  obtain ⟨p0, p1, p2, p3, p4, p5, p6, p7, p8, p9, p10, p11, p12, p13, p14, p15⟩ := blk16 HT1.out.2.1
  go_wp2_with fail
  refine Hev1.out.mono ?_
  rintro e w2 ⟨⟨mA, mn, mc⟩, ⟨gA, gn', gc'⟩, rfl, hnt, t2⟩
  have HM := Lib.hid (And.intro hnt (And.intro t2 (t2.blk HT1.out.2.2 (by simp))))
  clear hnt t2 p0 p1 p2 p3 p4 p5 p6 p7 p8 p9 p10 p11 p12 p13 p14 p15
  obtain ⟨z0, z1, y0, y1⟩ := blk2 HM.out.2.2
  go_wp2_with fail
  obtain ⟨hnt, t2, hr2⟩ := HM.out
  have tq := touch2 w2 (w.heap.size + 1) (.slice mA mn mc) (.slice gA gn' gc')
  have hs7 := HT1.out.1.size
  have hWs := HT0.out.2.2.2
  refine bodyPost_ret (results_cell_two rfl _ _ (w.heap.size + 1) _ _ _ _ rfl (set2 hr2 rfl _ _) Tryz.underlying27 rfl rfl) rfl ?_
  rw [HPO.out, HV.out]
  refine ⟨⟨mA, mn, mc⟩, ⟨gA, gn', gc'⟩, rfl, ?_, ((HT0.out.1.trans0 HT1.out.1).trans0 t2).trans tq (fun b hb => .inr (by simp at hb; omega))⟩
  refine ⟨hnt.n, hnt.le, RdK.touch hnt.cols tq (fun b hb hm => ?_), fun b hb => ⟨?_, ?_⟩, hnt.m, ?_, fun b hb => ?_, hnt.apart⟩
  ·have := (hnt.cf b hb).1; simp at hm; omega
  ·have := (hnt.cf b hb).1; omega
  ·have := (hnt.cf b hb).2; have := tq.size; omega
  ·exact (hnt.rws.touch tq (fun b hb => by simp at hb; omega) (fun b hb => hnt.rf b hb)).base (by omega)
  ·have := hnt.rf b hb; omega
 ·have HV := Lib.hid (show topV (ver, vcs) ev = (ver, [], []) by unfold topV; rw [if_neg hz])
  have hq : (ver == 0) = false := by rw [beq_eq_false_iff_ne]; exact hz
  have hq' : (ver != 0) = true := by rw [bne, hq]; rfl
  obtain ⟨z0, z1, y0, y1⟩ := blk2 HT1.out.2.2
  go_wp2_with fail
  refine bodyPost_ret (results_cell_two rfl _ _ (w.heap.size + 1) _ _ _ _ rfl (set2 HT1.out.2.2 rfl _ _) Tryz.underlying27 rfl rfl) rfl ?_
  rw [HPO.out, HV.out]
  exact EvPost.err ver ((HT0.out.1.trans0 HT1.out.1).trans (touch2 _ _ _ _) (fun b hb => .inr (by simp at hb; omega)))
end Go.Proofs.YtafoklilkdnepaaGreatDoor
