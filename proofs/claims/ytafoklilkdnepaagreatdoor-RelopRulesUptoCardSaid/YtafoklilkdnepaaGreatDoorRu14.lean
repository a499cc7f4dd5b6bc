/- Part 14 of the texts of this proof, one behind the other; each begins with its own sentence. No condition beyond those that its theorems state. -/
import Derived.Test.YtafoklilkdnepaaGreatDoorRu13
/- relop.Plan.typed at scans. For every sources. -/
namespace Go.Proofs.YtafoklilkdnepaaGreatDoor
open Go.RowKit

/-- how many Args a kind needs -/
def needV : Nat → Nat
 | 2 => 1 | 3 => 1 | 4 => 2 | 5 => 2 | 6 => 1 | 7 => 2 | 8 => 1 | 9 => 1 | _ => 0
/-- the package's table lies there -/
def NeedsAt (w : World) : Prop := ∀ k, k < 10 → w.cell? ⟨0, k, none⟩ = some (.int .i64 (needV k))
theorem NeedsAt.touch0 {w w' : World} (h : NeedsAt w) (ht : Touch [] w w') : NeedsAt w' := fun k hk => ht.cell (h k hk) (by simp)
/-- a schema that lies in memory made since base, and an error -/
def TyPost (base : Nat) (v : Int × List CD) (w : World) (e : Ending) (w' : World) : Prop := ∃ s : SL, e = .returned (.tuple #[.slice s.A s.n s.c, .int .i64 v.1]) ∧ s.n = v.2.length ∧ s.n ≤ s.c ∧ ColsAt w' s.A v.2 ∧ (∀ b ∈ fpo s.A, base ≤ b ∧ b < w'.heap.size) ∧ Touch [] w w'
theorem TyPost.err {w w' : World} (base : Nat) (k : Int) (ht : Touch [] w w') : TyPost base (k, []) w (.returned (.tuple #[.slice none 0 0, .int .i64 k])) w' :=
 ⟨⟨none, 0, 0⟩, rfl, rfl, Nat.le_refl _, RdK.nil _ _ _, by simp [fpo], ht⟩
theorem TyPost.made {w w' : World} {k : Int} {l : List CD} {A : Option Addr} {c : Nat} (h : Made 29 2 cdE l A c w w') : TyPost w.heap.size (k, l) w (.returned (.tuple #[.slice A l.length c, .int .i64 k])) w' :=
 ⟨⟨A, l.length, c⟩, rfl, rfl, h.own.le, h.own.rd, fun b hb => ⟨h.f b hb, h.own.lt b hb⟩, h.t⟩
theorem TyPost.of {v : Int × List CD} {w : World} {e : Ending} {w' : World} (h : SchPost v w e w') : TyPost w.heap.size v w e w' := by
 obtain ⟨A, c, rfl, hm⟩ := h
 exact TyPost.made hm
/-- what the schema of a plan is, wherever it is asked for -/
def TypedC (w : World) (I : Option Addr) (ic n : Nat) (x : PC) (d : Int) (v : Int × List CD) : Prop := ∀ w', Touch [] w w' → Calls Tryz.prog 31 #[x.val, .slice I n ic, .int .i64 d] w' (TyPost w'.heap.size v w')
/-- a scan's -/
def scanV (l : List SrcD) (s : ByteArray) : Int × List CD := match srcI l s with
 | none => (13, [])
 | some k => match l[k]? with
  | none => (13, [])
  | some d => if checkT d.cs d.rows = 0 then (0, d.cs) else (12, [])

set_option maxRecDepth 40000 in
set_option maxHeartbeats 6400000 in
theorem typed_scan (x : PC) (hk0 : x.kind = 1) (ha0 : x.args.n = 0) (d : Int) (hd : d ≤ 16) (I : Option Addr) (ic n : Nat) (l : List SrcD) (hn : l.length = n) (hl : n ≤ 1000000) (hok : ∀ d ∈ l, d.Ok) (w : World) (hG : NeedsAt w) (h : SrcsAt w I l) :
  Calls Tryz.prog 31 #[x.val, .slice I n ic, .int .i64 d] w (TyPost w.heap.size (scanV l x.name) w) := by
 obtain ⟨k0, k1, ⟨A2, n2, c2'⟩, ⟨⟨ck, cn, ⟨cvk, cvn, cvt⟩, cop⟩, CA, cnn, cc⟩, ⟨NA, nn, nc⟩, ⟨EA, en, ec⟩, ⟨OA, ol, oc⟩, ⟨GA, gn, gc⟩, ⟨BA, bn, bc⟩, count⟩ := x
 dsimp only at hk0 ha0 ⊢
 subst hk0 ha0
 simp only [PC.val]
 obtain ⟨W, hW⟩ : ∃ W, W = w.alloc (.cells #[.int .i64 1, .string k1, .slice A2 0 c2', .int .i64 ck, .string cn, .int .i64 cvk, .int .i64 cvn, .string cvt, .string cop, .slice CA cnn cc, .slice NA nn nc, .slice EA en ec, .slice OA ol oc, .slice GA gn gc, .slice BA bn bc, .int .i64 count] 49) := ⟨_, rfl⟩
 have t0 : Touch [] w W := hW ▸ (Touch.refl [] w).alloc _
 have hb0 := hW ▸ heap_alloc_new w (.cells #[.int .i64 1, .string k1, .slice A2 0 c2', .int .i64 ck, .string cn, .int .i64 cvk, .int .i64 cvn, .string cvt, .string cop, .slice CA cnn cc, .slice NA nn nc, .slice EA en ec, .slice OA ol oc, .slice GA gn gc, .slice BA bn bc, .int .i64 count] 49)
 have g1 := t0.cell (hG 1 (by omega)) (by simp)
 have q0 : W.cell? ⟨w.heap.size, 0, none⟩ = some (.int .i64 1) := cell_blk hb0 rfl
 have q1 : W.cell? ⟨w.heap.size, 1, none⟩ = some (.string k1) := cell_blk hb0 rfl
 have q2 : W.cell? ⟨w.heap.size, 2, none⟩ = some (.slice A2 0 c2') := cell_blk hb0 rfl
 have hd2 : (16 < d) = False := by simp; omega
 have HW := Lib.hid hW
 have HT0 := Lib.hid t0
 simp only [needV] at g1
 rcases hs : srcI l k1 with _ | k
 ·have Hs := Lib.hid fun w' (t : Touch [] W w') => source_no I ic n l hn k1 w' (h.touch0 (t0.trans0 t)) (by omega) hs
  have Hv := Lib.hid (show scanV l k1 = (13, []) by unfold scanV; rw [hs])
  clear hs h hb0 hW t0
  go_enter Tryz.func31, Tryz.ntmps31
  go_wp2_with fail
  rw [← HW.out]
  go_quiet (fail)
  go_wp2_with fail
  refine (Hs.out _ ((Touch.refl _ _).drewN _)).mono ?_
  rintro e w1 ⟨rfl, t1⟩
  have HT1 := Lib.hid ((HT0.out.drewN _).trans0 t1)
  clear t1
  go_wp2_with fail
  go_ret2
  rw [Hv.out]
  exact TyPost.err _ 13 (HT1.out.alloc _)
 ·have hkl := srcI_lt hs
  have Hs := Lib.hid fun w' (t : Touch [] W w') => source_yes I ic n l hn k1 w' (h.touch0 (t0.trans0 t)) (by omega) k hkl hs
  have hdk := hok _ (List.getElem_mem hkl)
  have hlk : l[k]? = some l[k] := List.getElem?_eq_getElem hkl
  obtain ⟨sd, hsd⟩ : ∃ sd, sd = l[k] := ⟨_, rfl⟩
  rw [← hsd] at Hs hdk hlk
  obtain ⟨snm, cs, rows⟩ := sd
  dsimp only at Hs
  have Hv := Lib.hid (show scanV l k1 = if checkT cs rows = 0 then (0, cs) else (12, []) by unfold scanV; rw [hs]; dsimp only; rw [hlk])
  have Hok := Lib.hid hdk
  clear hs h hb0 hW t0 hsd hlk hdk
  go_enter Tryz.func31, Tryz.ntmps31
  go_wp2_with fail
  rw [← HW.out]
  go_quiet (fail)
  go_wp2_with fail
  refine (Hs.out _ ((Touch.refl _ _).drewN _)).mono ?_
  rintro e w1 ⟨s1, r1, rfl, htab, t1⟩
  obtain ⟨SA, sn, sc⟩ := s1
  obtain ⟨RA, rn, rc⟩ := r1
  have HT1 := Lib.hid ((HT0.out.drewN _).trans0 t1)
  have ta := (Touch.refl [] w1).alloc (.cells #[.slice SA sn sc, .slice RA rn rc] 27)
  have hbt := heap_alloc_new w1 (.cells #[.slice SA sn sc, .slice RA rn rc] 27)
  obtain ⟨h1, h2, h3, h4, h5⟩ := htab
  dsimp only at h1 h2 h3 h4 h5
  have hck := checkT_any SA sc sn cs h1.symm Hok.out.cols RA rc rn rows h4.symm Hok.out.rows _ (h3.touch0 ta) (h5.touch0 ta) (by have := Hok.out.n; dsimp only at this; omega) (by have := Hok.out.m; dsimp only at this; omega)
  obtain ⟨K, hK⟩ : ∃ K, K = checkT cs rows := ⟨_, rfl⟩
  rw [← hK] at hck Hv
  have Hck := Lib.hid hck
  have HX := Lib.hid (And.intro ta (And.intro hbt (And.intro h1 (And.intro h2 h3))))
  clear t1 ta hbt h1 h2 h3 h4 h5 hck hK
  by_cases hz : K = 0
  ·have Hv0 := Lib.hid (show scanV l k1 = (0, cs) by rw [Hv.out, if_pos hz])
   subst hz
   clear Hv
   go_wp2_with fail
   refine Hck.out.mono ?_
   rintro e w2 ⟨rfl, t2⟩
   obtain ⟨ta, hbt, h1, h2, h3⟩ := HX.out
   obtain ⟨f0, f1, _, _⟩ := blk2 (t2.blk hbt (by simp))
   have Hcl := Lib.hid (cloneC_any SA sc sn cs h1.symm (by have := Hok.out.n; dsimp only at this; omega) w2 (h3.touch0 (ta.trans0 t2)))
   have HT2 := Lib.hid ((HT1.out.trans0 ta).trans0 t2)
   clear ta hbt h1 h2 h3 t2
   go_wp2_with fail
   refine Hcl.out.mono ?_
   rintro e w3 ⟨A3, c3, rfl, hm⟩
   have HM := Lib.hid hm
   clear hm
   go_wp2_with fail
   go_ret2
   rw [Hv0.out]
   exact ⟨⟨A3, sn, c3⟩, rfl, HX.out.2.2.1, by have := HM.out.own.le; have := HX.out.2.2.1; dsimp only; omega, HM.out.own.rd, fun b hb => ⟨Nat.le_trans HT2.out.size (HM.out.f b hb), HM.out.own.lt b hb⟩, HT2.out.trans0 HM.out.t⟩
  ·have Hv0 := Lib.hid (show scanV l k1 = (12, []) by rw [Hv.out, if_neg hz])
   have hq : (K == 0) = false := by rw [beq_eq_false_iff_ne]; exact hz
   have hq' : (K != 0) = true := by rw [bne, hq]; rfl
   go_wp2_with fail
   refine Hck.out.mono ?_
   rintro e w2 ⟨rfl, t2⟩
   have HT2 := Lib.hid ((HT1.out.trans0 HX.out.1).trans0 t2)
   clear t2
   go_wp2_with fail
   go_ret2
   rw [Hv0.out]
   exact TyPost.err _ 12 HT2.out
end Go.Proofs.YtafoklilkdnepaaGreatDoor

/- relop.Plan.typed at plans with Args. For every such plan, by what its Args and its own schema tell. -/
namespace Go.Proofs.YtafoklilkdnepaaGreatDoor
open Go.RowKit

/-- the first error -/
def errL : List (Int × List CD) → Int
 | [] => 0
 | v :: r => if v.1 = 0 then errL r else v.1
theorem errL_zero : ∀ {l : List (Int × List CD)}, (∀ v ∈ l, v.1 = 0) → errL l = 0
 | [], _ => rfl
 | v :: l, h => by rw [errL, if_pos (h v List.mem_cons_self)]; exact errL_zero fun x hx => h x (List.mem_cons_of_mem _ hx)
theorem errL_at : ∀ {l : List (Int × List CD)} {j : Nat} (hj : j < l.length), (∀ i (hi : i < j), l[i].1 = 0) → l[j].1 ≠ 0 → errL l = l[j].1
 | v :: l, 0, _, _, h => by
  have h : v.1 ≠ 0 := h
  rw [errL, if_neg h]; rfl
 | v :: l, j + 1, hj, h0, h => by
  have hz : v.1 = 0 := h0 0 (by omega)
  rw [errL, if_pos hz]
  exact errL_at (by simpa using hj) (fun i hi => by have := h0 (i + 1) (by omega); simpa using this) (by simpa using h)
/-- a plan's schema, by those of its Args and its own -/
def nodeV (vs : List (Int × List CD)) (v : Int × List CD) : Int × List CD :=
 if errL vs = 0 then (if v.1 = 0 then (if checkV v.2 = 0 then (0, v.2) else (checkV v.2, [])) else (v.1, [])) else (errL vs, [])
/-- slices that lead to these schemas, made since base -/
def SlcsAt (base : Nat) (w : World) (sl : List SL) (css : List (List CD)) : Prop := sl.length = css.length ∧ ∀ i (h1 : i < sl.length) (h2 : i < css.length), sl[i].n = css[i].length ∧ sl[i].n ≤ sl[i].c ∧ ColsAt w sl[i].A css[i] ∧ ∀ b ∈ fpo sl[i].A, base ≤ b ∧ b < w.heap.size
theorem SlcsAt.nil (base : Nat) (w : World) : SlcsAt base w [] [] := ⟨rfl, fun i h => absurd h (by simp)⟩
theorem SlcsAt.touch {base : Nat} {w w' : World} {sl : List SL} {css : List (List CD)} {fp : List Nat} (h : SlcsAt base w sl css) (ht : Touch fp w w') (hn : ∀ s ∈ sl, ∀ b ∈ fpo s.A, b ∉ fp) : SlcsAt base w' sl css :=
 ⟨h.1, fun i a b => ⟨(h.2 i a b).1, (h.2 i a b).2.1, RdK.touch (h.2 i a b).2.2.1 ht (hn _ (List.getElem_mem a)), fun x hx => ⟨((h.2 i a b).2.2.2 x hx).1, Nat.lt_of_lt_of_le ((h.2 i a b).2.2.2 x hx).2 ht.size⟩⟩⟩
theorem SlcsAt.touch0 {base : Nat} {w w' : World} {sl : List SL} {css : List (List CD)} (h : SlcsAt base w sl css) (ht : Touch [] w w') : SlcsAt base w' sl css := h.touch ht (by simp)
theorem SlcsAt.snoc {base : Nat} {w : World} {sl : List SL} {css : List (List CD)} (h : SlcsAt base w sl css) (s : SL) (cs : List CD) (h1 : s.n = cs.length) (h2 : s.n ≤ s.c) (h3 : ColsAt w s.A cs) (h4 : ∀ b ∈ fpo s.A, base ≤ b ∧ b < w.heap.size) : SlcsAt base w (sl ++ [s]) (css ++ [cs]) := by
 refine ⟨by rw [List.length_append, List.length_append, h.1]; rfl, fun i a b => ?_⟩
 by_cases hi : i < sl.length
 ·have hi2 : i < css.length := by rw [← h.1]; exact hi
  rw [List.getElem_append_left hi, List.getElem_append_left hi2]
  exact h.2 i hi hi2
 ·have hi' : i = sl.length := by rw [List.length_append] at a; simp at a; omega
  subst hi'
  have e1 : (sl ++ [s])[sl.length] = s := by simp
  have e2 : (css ++ [cs])[sl.length] = cs := by rw [List.getElem_append_right (by rw [h.1]; exact Nat.le_refl _)]; simp [h.1]
  rw [e1, e2]
  exact ⟨h1, h2, h3, h4⟩
/-- what a plan's own schema is, wherever it is asked for with schemas made since -/
def SchemaC (w : World) (x : PC) (css : List (List CD)) (v : Int × List CD) : Prop := ∀ w' (base : Nat) (L : Option Addr) (lc : Nat) (sl : List SL), Touch [] w w' → base ≤ w'.heap.size → SlcsAt base w' sl css → RdK slE w' L sl →
 Calls Tryz.prog 64 #[x.val, .slice L css.length lc] w' (TyPost base v w')
theorem info_s5 : (Tryz.prog.info? 24).map (fun i => (i.zero, i.size, i.bytes)) = some (some (.slice none 0 0), 1, 24) := by kernel_rfl

set_option maxRecDepth 40000 in
set_option maxHeartbeats 12800000 in
theorem typed_node (x : PC) (kk m : Nat) (hk0 : x.kind = kk) (hk2 : 2 ≤ kk) (hk9 : kk ≤ 9) (hm : x.args.n = m) (hnd : needV kk = m) (d : Int) (hd0 : 0 ≤ d) (hd : d ≤ 16) (I : Option Addr) (ic n : Nat) (w : World) (hG : NeedsAt w)
  (xs : List PC) (vs : List (Int × List CD)) (hxs : xs.length = m) (hvs : vs.length = m) (hX : RdK pcE w x.args.A xs) (hT : ∀ i (h1 : i < xs.length) (h2 : i < vs.length), TypedC w I ic n xs[i] (d + 1) vs[i])
  (v : Int × List CD) (hv : errL vs = 0 → SchemaC w x (vs.map (·.2)) v) (hok : ∀ c ∈ v.2, c.Ok) (hvl : v.2.length ≤ 1000000) :
  Calls Tryz.prog 31 #[x.val, .slice I n ic, .int .i64 d] w (TyPost w.heap.size (nodeV vs v) w) := by
 obtain ⟨V, hV⟩ : ∃ V, V = nodeV vs v := ⟨_, rfl⟩
 rw [← hV]
 have HV := Lib.hid hV
 have Hv := Lib.hid hv
 obtain ⟨k0, k1, ⟨A2, n2, c2'⟩, ⟨⟨ck, cn, ⟨cvk, cvn, cvt⟩, cop⟩, CA, cnn, cc⟩, ⟨NA, nn, nc⟩, ⟨EA, en, ec⟩, ⟨OA, ol, oc⟩, ⟨GA, gn, gc⟩, ⟨BA, bn, bc⟩, count⟩ := x
 dsimp only at hk0 hm hX ⊢
 subst hk0 hm
 simp only [PC.val]
 have hneed : n2 ≤ 2 := by
  rw [← hnd]
  have : kk = 2 ∨ kk = 3 ∨ kk = 4 ∨ kk = 5 ∨ kk = 6 ∨ kk = 7 ∨ kk = 8 ∨ kk = 9 := by omega
  rcases this with rfl | rfl | rfl | rfl | rfl | rfl | rfl | rfl <;> simp [needV]
 obtain ⟨W, hW⟩ : ∃ W, W = w.alloc (.cells #[.int .i64 (kk : Nat), .string k1, .slice A2 n2 c2', .int .i64 ck, .string cn, .int .i64 cvk, .int .i64 cvn, .string cvt, .string cop, .slice CA cnn cc, .slice NA nn nc, .slice EA en ec, .slice OA ol oc, .slice GA gn gc, .slice BA bn bc, .int .i64 count] 49) := ⟨_, rfl⟩
 have t0 : Touch [] w W := hW ▸ (Touch.refl [] w).alloc _
 have hb0 := hW ▸ heap_alloc_new w (.cells #[.int .i64 (kk : Nat), .string k1, .slice A2 n2 c2', .int .i64 ck, .string cn, .int .i64 cvk, .int .i64 cvn, .string cvt, .string cop, .slice CA cnn cc, .slice NA nn nc, .slice EA en ec, .slice OA ol oc, .slice GA gn gc, .slice BA bn bc, .int .i64 count] 49)
 have g1 := t0.cell (hG kk (by omega)) (by simp)
 rw [hnd] at g1
 have q0 : W.cell? ⟨w.heap.size, 0, none⟩ = some (.int .i64 kk) := cell_blk hb0 rfl
 have q2 : W.cell? ⟨w.heap.size, 2, none⟩ = some (.slice A2 n2 c2') := cell_blk hb0 rfl
 have hd2 : (16 < d) = False := by simp; omega
 have hka : ((kk : Int) < 1) = False := by simp; omega
 have hkb : (9 < (kk : Int)) = False := by simp; omega
 have hkc : ((kk : Int) == 1) = false := by rw [beq_eq_false_iff_ne]; omega
 have hkd : (0 : Int) ≤ (kk : Int) := by omega
 have hke : (kk : Int) < 10 := by omega
 have hadd0 : (⟨0, 0, none⟩ : Addr).add kk = ⟨0, kk, none⟩ := add_blk _ _
 have HW := Lib.hid hW
 have HT0 := Lib.hid t0
 have HB0 := Lib.hid hb0
 have HX := Lib.hid (RdK.touch0 hX t0)
 have HTy := Lib.hid hT
 have Hok := Lib.hid hok
 have Hxs := Lib.hid hxs
 have Hvs := Lib.hid hvs
 clear hV hv hb0 hW t0 hX hT hok hxs hvs hnd
 go_enter Tryz.func31, Tryz.ntmps31
 go_wp2_with fail
 rw [← HW.out]
 go_quiet (fail)
 go_wp2_with fail
 go_loopw [10, 61] (fun o i wr => ∃ (j : Nat) (L : Option Addr) (lc : Nat) (sl : List SL), j ≤ n2 ∧ i = .int .i64 j ∧ o = .slice L j lc ∧ Hid (∀ i (hi : i < j) (h2 : i < vs.length), vs[i].1 = 0) ∧ Hid (SlcsAt w.heap.size wr sl ((vs.map (·.2)).take j)) ∧ Hid (OwnK 24 1 slE wr L lc sl) ∧ Hid (∀ b ∈ fpo L, W.heap.size ≤ b) ∧ Hid (∀ s ∈ sl, ∀ b ∈ fpo s.A, b ∉ fpo L) ∧ Hid (Touch [] W wr)) (fun _ i _ => n2 - (intOf i).toNat)
 case atStart => exact ⟨0, none, 0, [], by omega, rfl, rfl, Lib.hid (fun i h => absurd h (by omega)), Lib.hid (SlcsAt.nil _ _), Lib.hid (OwnK.nil _ _ _ _), Lib.hid (by simp [fpo]), Lib.hid (by simp), Lib.hid ((Touch.refl _ _).drewN _)⟩
 case round =>
  obtain ⟨j, L, lc, sl, hj, rfl, rfl, HE, HS, HO, HF, HN, HT⟩ := hrel
  have hslj : Hid (sl.length = j) := Lib.hid (by rw [HS.out.1, List.length_take, List.length_map, Hvs.out]; omega)
  by_cases hlt : j < n2
  ·have hjx : j < xs.length := by rw [Hxs.out]; exact hlt
   have hjv : j < vs.length := by rw [Hvs.out]; exact hlt
   obtain ⟨ad, b1, o1, rfl, hadd, hc⟩ := RdK.cells (HX.out.touch0 HT.out) 16 pcE_length (by omega) j hjx
   have hty := HTy.out j hjx hjv
   have hmv : (vs.map (·.2)).take (j + 1) = (vs.map (·.2)).take j ++ [vs[j].2] := by
    rw [List.take_succ_eq_append_getElem (by rw [List.length_map]; exact hjv), List.getElem_map]
   have her := fun h0 => errL_at (l := vs) hjv (fun i hi => HE.out i hi (by omega)) h0
   obtain ⟨y, hy⟩ : ∃ y, y = xs[j] := ⟨_, rfl⟩
   obtain ⟨u, hu⟩ : ∃ u, u = vs[j] := ⟨_, rfl⟩
   rw [← hy] at hc hty
   rw [← hu] at hty hmv her
   obtain ⟨y0, y1, ⟨yA2, yn2, yc2⟩, ⟨⟨yck, ycn, ⟨ycvk, ycvn, ycvt⟩, ycop⟩, yCA, ycnn, ycc⟩, ⟨yNA, ynn, ync⟩, ⟨yEA, yen, yec⟩, ⟨yOA, yol, yoc⟩, ⟨yGA, ygn, ygc⟩, ⟨yBA, ybn, ybc⟩, ycount⟩ := y
   have e0 := hc 0 _ rfl; have e1 := hc 1 _ rfl; have e2 := hc 2 _ rfl; have e3 := hc 3 _ rfl; have e4 := hc 4 _ rfl; have e5 := hc 5 _ rfl; have e6 := hc 6 _ rfl; have e7 := hc 7 _ rfl
   have e8 := hc 8 _ rfl; have e9 := hc 9 _ rfl; have e10 := hc 10 _ rfl; have e11 := hc 11 _ rfl; have e12 := hc 12 _ rfl; have e13 := hc 13 _ rfl; have e14 := hc 14 _ rfl; have e15 := hc 15 _ rfl
   rw [Nat.add_zero] at e0
   dsimp only at e0 e1 e2 e3 e4 e5 e6 e7 e8 e9 e10 e11 e12 e13 e14 e15
   have ta := (Touch.refl [] wr).alloc (.cells #[.int .i64 y0, .string y1, .slice yA2 yn2 yc2, .int .i64 yck, .string ycn, .int .i64 ycvk, .int .i64 ycvn, .string ycvt, .string ycop, .slice yCA ycnn ycc, .slice yNA ynn ync, .slice yEA yen yec, .slice yOA yol yoc, .slice yGA ygn ygc, .slice yBA ybn ybc, .int .i64 ycount] 49)
   have hty2 := hty _ ((HT0.out.trans0 HT.out).trans0 ta)
   simp only [PC.val] at hty2
   have Hty := Lib.hid hty2
   have Hmv := Lib.hid hmv
   have HTa := Lib.hid ta
   have hjn : (j : Int) < (n2 : Int) := by omega
   obtain ⟨uer, ucs⟩ := u
   dsimp only at her hmv Hmv Hty
   have Hu := Lib.hid hu
   clear hc hty hty2 hy hu hmv ta
   by_cases hz : uer = 0
   ·subst hz
    clear her
    go_wp2_with fail
    refine Hty.out.mono ?_
    rintro e w1 ⟨s, rfl, s1, s2, s3, s4, t1⟩
    obtain ⟨sA, sn, sc⟩ := s
    have T1 := HTa.out.trans0 t1
    have HY := Lib.hid (And.intro s1 (And.intro s2 (And.intro s3 s4)))
    have HT1 := Lib.hid T1
    clear s1 s2 s3 s4 t1 T1
    go_wp2_with (at_builtin; refine stop ?_)
    refine go ?_
    have tb := (Touch.refl [] w1).alloc (.cells #[.slice sA sn sc] 24)
    refine wpList_appK (enc := slE) rfl (.tmp 76) (.tmp 78) 119 rfl 24 _ 1 24 info_s5 Tryz.underlying119 rfl (by omega) slE_length slE_one L j lc sl hslj.out rfl (HO.out.touch0 (HT1.out.trans0 tb))
     (some ⟨w1.heap.size, 0, none⟩) 1 1 [⟨sA, sn, sc⟩] rfl rfl (RdK.one (enc := slE) w1 24 ⟨sA, sn, sc⟩ _ rfl) (by omega) (by omega) ?_
    intro L' lc' w' hown ht hf
    have HN2 := Lib.hid (And.intro hown (And.intro ht hf))
    clear hown ht hf tb
    go_wp2_with fail
    go_roundw
    case rel =>
     obtain ⟨hown, ht, hf⟩ := HN2.out
     obtain ⟨s1, s2, s3, s4⟩ := HY.out
     have tb := (Touch.refl [] w1).alloc (.cells #[.slice sA sn sc] 24)
     have hLlt := HO.out.lt
     have hsz := HT1.out.size
     rw [World.size_alloc] at hf s4
     have hbase : w.heap.size ≤ wr.heap.size := (HT0.out.trans0 HT.out).size
     have hbase2 : W.heap.size ≤ wr.heap.size := HT.out.size
     have hs4 : ∀ b ∈ fpo sA, w.heap.size ≤ b ∧ b < w1.heap.size := fun b hb => ⟨by have := (s4 b hb).1; omega, (s4 b hb).2⟩
     have hnew : ∀ b ∈ fpo sA, b ∉ fpo L := fun b hb hm => by have := hLlt b hm; have := (s4 b hb).1; omega
     have hsn := ((HS.out.touch0 HT1.out).snoc ⟨sA, sn, sc⟩ ucs s1 s2 s3 hs4).touch0 tb
     have hall : ∀ s ∈ sl ++ [(⟨sA, sn, sc⟩ : SL)], ∀ b ∈ fpo s.A, b ∉ fpo L := fun s hs b hb => by
      rcases List.mem_append.1 hs with q | q
      ·exact HN.out s q b hb
      ·simp only [List.mem_singleton] at q; subst q; exact hnew b hb
     have hlt2 : ∀ s ∈ sl ++ [(⟨sA, sn, sc⟩ : SL)], ∀ b ∈ fpo s.A, b < w1.heap.size := fun s hs b hb => by
      obtain ⟨i, hi, rfl⟩ := List.mem_iff_getElem.1 hs
      have h0 := ((HS.out.touch0 HT1.out).snoc ⟨sA, sn, sc⟩ ucs s1 s2 s3 hs4)
      exact (((h0.2 i hi (by rw [← h0.1]; exact hi)).2.2.2) b hb).2
     refine ⟨j + 1, L', lc', sl ++ [⟨sA, sn, sc⟩], by omega, by go_num, rfl, Lib.hid (fun i hi h2 => ?_), Lib.hid (by rw [Hmv.out]; exact hsn.touch ht hall), Lib.hid hown, Lib.hid (fun b hb => ?_), Lib.hid (fun s hs b hb hm => ?_), Lib.hid (((HT.out.trans0 HT1.out).trans0 tb).trans ht (fun b hb => .inr ?_))⟩
     ·by_cases hij : i = j
      ·subst hij; rw [← Hu.out]
      ·exact HE.out i (by omega) h2
     ·rcases hf b hb with q | q
      ·exact HF.out b q
      ·omega
     ·rcases hf b hm with q | q
      ·exact hall s hs b hb q
      ·have := hlt2 s hs b hb; omega
     ·exact HF.out b hb
    case measure => simp [intOf]; omega
   ·have HVe := Lib.hid (show V = (uer, []) by
     rw [HV.out]; unfold nodeV; rw [her hz, if_neg hz])
    have hq : (uer == 0) = false := by rw [beq_eq_false_iff_ne]; exact hz
    have hq' : (uer != 0) = true := by rw [bne, hq]; rfl
    clear her
    go_wp2_with fail
    refine Hty.out.mono ?_
    rintro e w1 ⟨s, rfl, s1, s2, s3, s4, t1⟩
    have HT1 := Lib.hid (((HT0.out.trans0 HT.out).trans0 HTa.out).trans0 t1)
    clear s1 s2 s3 s4 t1
    go_wp2_with fail
    go_ret2
    rw [HVe.out]
    exact TyPost.err _ uer HT1.out
  ·obtain rfl : j = n2 := by omega
   have hz : errL vs = 0 := errL_zero fun u hu => by
    obtain ⟨i, hi, rfl⟩ := List.mem_iff_getElem.1 hu
    exact HE.out i (by rw [← Hvs.out]; exact hi) hi
   have HVe := Lib.hid (show V = if v.1 = 0 then (if checkV v.2 = 0 then (0, v.2) else (checkV v.2, [])) else (v.1, []) by rw [HV.out]; unfold nodeV; rw [if_pos hz])
   have hlen : (vs.map (·.2)).length = j := by rw [List.length_map]; exact Hvs.out
   have hsl : SlcsAt w.heap.size wr sl (vs.map (·.2)) := by
    have := HS.out
    rwa [← hlen, List.take_length] at this
   have hsc := Hv.out hz wr w.heap.size L lc sl (HT0.out.trans0 HT.out) (HT0.out.trans0 HT.out).size hsl HO.out.rd
   rw [hlen] at hsc
   simp only [PC.val] at hsc
   have Hsc := Lib.hid hsc
   obtain ⟨p0, p1, p2, p3, p4, p5, p6, p7, p8, p9, p10, p11, p12, p13, p14, p15⟩ := blk16 (HT.out.blk HB0.out (by simp))
   have HT1 := Lib.hid (HT0.out.trans0 HT.out)
   obtain ⟨ver, vcs⟩ := v
   dsimp only at hvl HVe
   have hck : Hid (∀ (A : Option Addr) (c : Nat) (w' : World), ColsAt w' A vcs → Calls Tryz.prog 33 #[.slice A vcs.length c] w' fun e w'' => e = .returned (.int .i64 (checkV vcs)) ∧ Touch [] w' w'') := Lib.hid fun A c w' hcs => check_any A c vcs.length vcs rfl Hok.out w' hcs (by omega)
   obtain ⟨K, hK⟩ : ∃ K, K = checkV vcs := ⟨_, rfl⟩
   rw [← hK] at hck HVe
   clear hsc hz hlen hsl hK HE HS HO HF HN HT hslj hlt q0 q2 g1 hadd0
   by_cases hv0 : ver = 0
   ·have HVf := Lib.hid (show V = if K = 0 then (0, vcs) else (K, []) by rw [HVe.out, if_pos hv0])
    subst hv0
    clear HVe
    by_cases hK0 : K = 0
    ·have HVg := Lib.hid (show V = (0, vcs) by rw [HVf.out, if_pos hK0])
     subst hK0
     clear HVf
     go_wp2_with fail
     refine Hsc.out.mono ?_
     rintro e w1 ⟨⟨sA, sn, sc⟩, rfl, s1, s2, s3, s4, t1⟩
     have HY := Lib.hid (And.intro s1 (And.intro s2 (And.intro s3 s4)))
     have hcc := hck.out sA sc w1 s3
     rw [← show sn = vcs.length from s1] at hcc
     have Hcc := Lib.hid hcc
     have HT2 := Lib.hid (HT1.out.trans0 t1)
     clear s1 s2 s3 s4 t1 hcc
     go_wp2_with fail
     refine Hcc.out.mono ?_
     rintro e w2 ⟨rfl, t2⟩
     have HT3 := Lib.hid t2
     clear t2
     go_wp2_with fail
     go_ret2
     rw [HVg.out]
     obtain ⟨s1, s2, s3, s4⟩ := HY.out
     exact ⟨⟨sA, sn, sc⟩, rfl, s1, s2, s3.touch0 HT3.out, fun b hb => ⟨(s4 b hb).1, Nat.lt_of_lt_of_le (s4 b hb).2 HT3.out.size⟩, HT2.out.trans0 HT3.out⟩
    ·have HVg := Lib.hid (show V = (K, []) by rw [HVf.out, if_neg hK0])
     have hq : (K == 0) = false := by rw [beq_eq_false_iff_ne]; exact hK0
     have hq' : (K != 0) = true := by rw [bne, hq]; rfl
     clear HVf
     go_wp2_with fail
     refine Hsc.out.mono ?_
     rintro e w1 ⟨⟨sA, sn, sc⟩, rfl, s1, s2, s3, s4, t1⟩
     have hcc := hck.out sA sc w1 s3
     rw [← show sn = vcs.length from s1] at hcc
     have Hcc := Lib.hid hcc
     have HT2 := Lib.hid (HT1.out.trans0 t1)
     clear s1 s2 s3 s4 t1 hcc
     go_wp2_with fail
     refine Hcc.out.mono ?_
     rintro e w2 ⟨rfl, t2⟩
     have HT3 := Lib.hid (HT2.out.trans0 t2)
     clear t2
     go_wp2_with fail
     go_ret2
     rw [HVg.out]
     exact TyPost.err _ K HT3.out
   ·have HVf := Lib.hid (show V = (ver, []) by rw [HVe.out, if_neg hv0])
    have hq : (ver == 0) = false := by rw [beq_eq_false_iff_ne]; exact hv0
    have hq' : (ver != 0) = true := by rw [bne, hq]; rfl
    clear HVe
    go_wp2_with fail
    refine Hsc.out.mono ?_
    rintro e w1 ⟨⟨sA, sn, sc⟩, rfl, s1, s2, s3, s4, t1⟩
    have HT2 := Lib.hid (HT1.out.trans0 t1)
    clear s1 s2 s3 s4 t1
    go_wp2_with fail
    go_ret2
    rw [HVf.out]
    exact TyPost.err _ ver HT2.out
end Go.Proofs.YtafoklilkdnepaaGreatDoor

/- What evaluating a plan leaves in memory; relop.Plan.eval at scans. For every sources. -/
namespace Go.Proofs.YtafoklilkdnepaaGreatDoor
open Go.RowKit

theorem cmpI_zero (a b : Int) (h : Lib.compareInt a b = 0) : a = b := by
 unfold Lib.compareInt at h
 by_cases h1 : a < b
 ·rw [if_pos h1] at h; cases h
 ·rw [if_neg h1] at h
  by_cases h2 : a = b
  ·exact h2
  ·exfalso
   split at h <;> first | omega | cases h
theorem cmpB_zero : ∀ a b : List UInt8, Lib.compareBytes a b = 0 → a = b
 | [], [] => fun _ => rfl
 | [], _ :: _ => fun h => by simp [Lib.compareBytes] at h
 | _ :: _, [] => fun h => by simp [Lib.compareBytes] at h
 | x :: a, y :: b => fun h => by
  rw [Lib.compareBytes] at h
  by_cases h1 : x < y
  ·rw [if_pos h1] at h; cases h
  ·rw [if_neg h1] at h
   by_cases h2 : y < x
   ·rw [if_pos h2] at h; cases h
   ·rw [if_neg h2] at h
    have h3 := mt UInt8.lt_iff_toNat_lt.2 h1
    have h4 := mt UInt8.lt_iff_toNat_lt.2 h2
    have e : x = y := UInt8.toNat_inj.1 (by omega)
    rw [e, cmpB_zero a b h]
theorem cmpVV_if (a b : VD) : cmpVV a b = if Lib.compareInt a.kind b.kind = 0 then (if Lib.compareInt a.num b.num = 0 then Lib.compareBytes a.text.data.toList b.text.data.toList else Lib.compareInt a.num b.num) else Lib.compareInt a.kind b.kind := by
 unfold cmpVV
 simp only [orV]
 split
 ·split
  ·by_cases h : Lib.compareBytes a.text.data.toList b.text.data.toList = 0
   ·rw [if_pos h, h]
   ·rw [if_neg h]
  ·rfl
 ·rfl
theorem cmpVV_zero (a b : VD) (h : cmpVV a b = 0) : a = b := by
 rw [cmpVV_if] at h
 by_cases h1 : Lib.compareInt a.kind b.kind = 0
 ·rw [if_pos h1] at h
  by_cases h2 : Lib.compareInt a.num b.num = 0
  ·rw [if_pos h2] at h
   obtain ⟨ak, an, at_⟩ := a
   obtain ⟨bk, bn, bt⟩ := b
   dsimp only at h1 h2 h
   rw [cmpI_zero _ _ h1, cmpI_zero _ _ h2, bs_eq (cmpB_zero _ _ h)]
  ·rw [if_neg h2] at h; exact absurd h h2
 ·rw [if_neg h1] at h; exact absurd h h1
theorem cmpRV_zero : ∀ (a b : List VD), cmpRV a b = 0 → a = b := by
 intro a
 induction a with
 | nil => intro b h; cases b with
  | nil => rfl
  | cons y b => simp [cmpRV] at h
 | cons x a ih =>
  intro b h
  cases b with
  | nil => simp [cmpRV] at h
  | cons y b =>
   rw [cmpRV] at h
   by_cases hv : cmpVV x y = 0
   ·rw [if_pos hv] at h
    rw [ih b h, cmpVV_zero x y hv]
   ·rw [if_neg hv] at h; exact absurd h hv
theorem sorted_unique : ∀ {l1 l2 : List (List VD)}, l1.Perm l2 → l1.Pairwise (fun a b => cmpRV a b ≤ 0) → l2.Pairwise (fun a b => cmpRV a b ≤ 0) → l1 = l2
 | [], l2, h, _, _ => (List.nil_perm.1 h).symm
 | a :: l1, [], h, _, _ => absurd h.length_eq (by simp)
 | a :: l1, b :: l2, h, h1, h2 => by
  have hab : a = b := by
   rw [List.pairwise_cons] at h1 h2
   have ha : a ∈ b :: l2 := h.mem_iff.1 List.mem_cons_self
   have hb : b ∈ a :: l1 := h.mem_iff.2 List.mem_cons_self
   rcases List.mem_cons.1 ha with q | q
   ·exact q
   ·rcases List.mem_cons.1 hb with q2 | q2
    ·exact q2.symm
    ·have e1 := h2.1 a q
     have e2 := h1.1 b q2
     have e3 := cmpRV_neg a b
     exact cmpRV_zero a b (by omega)
  subst hab
  rw [sorted_unique (List.Perm.cons_inv h) (List.pairwise_cons.1 h1).2 (List.pairwise_cons.1 h2).2]
/-- rows in their order -/
def sortR (rows : List (List VD)) : List (List VD) := rows.mergeSort fun a b => decide (cmpRV a b ≤ 0)
theorem sortR_of {rows out : List (List VD)} (h : SortedOf rows out) : out = sortR rows := by
 have hp : (sortR rows).Perm rows := List.mergeSort_perm _ _
 have hs : (sortR rows).Pairwise fun a b => cmpRV a b ≤ 0 := by
  have := List.pairwise_mergeSort (le := fun a b : List VD => decide (cmpRV a b ≤ 0))
   (fun a b c h1 h2 => by
    have := tr_row a b c (of_decide_eq_true h1) (of_decide_eq_true h2)
    exact decide_eq_true this.1)
   (fun a b => by
    have := cmpRV_neg a b
    by_cases q : cmpRV a b ≤ 0
    ·simp [q]
    ·simp; right; omega) rows
  exact this.imp fun h => of_decide_eq_true h
 exact sorted_unique (h.1.trans hp.symm) h.2 hs
/-- a table of the calls' own, all of whose blocks lie between two bounds -/
structure TabU (lo hi : Nat) (w : World) (s r : SL) (cs : List CD) (rows : List (List VD)) : Prop where
 n : s.n = cs.length
 le : s.n ≤ s.c
 cols : ColsAt w s.A cs
 cf : ∀ b ∈ fpo s.A, lo ≤ b ∧ b < hi
 m : r.n = rows.length
 rws : ∃ sl, SlsAt w sl rows ∧ OwnK 33 1 slE w r.A r.c sl ∧ ∀ s ∈ sl, ∀ b ∈ fpo s.A, b ∉ fpo r.A ∧ lo ≤ b ∧ b < hi
 rf : ∀ b ∈ fpo r.A, lo ≤ b ∧ b < hi
 apart : ∀ b ∈ fpo s.A, b ∉ fpo r.A
theorem TabU.of {base : Nat} {w : World} {s r : SL} {cs : List CD} {rows : List (List VD)} (h : NewTab base w s r cs rows) : TabU base w.heap.size w s r cs rows := by
 obtain ⟨sl, h1, h2, h3⟩ := h.rws
 exact ⟨h.n, h.le, h.cols, h.cf, h.m, ⟨sl, h1, h2, fun s hs b hb => ⟨(h3 s hs b hb).1, (h3 s hs b hb).2.2, (h3 s hs b hb).2.1⟩⟩, fun b hb => ⟨h.rf b hb, h2.lt b hb⟩, h.apart⟩
theorem TabU.touch {lo hi : Nat} {w w' : World} {s r : SL} {cs : List CD} {rows : List (List VD)} {fp : List Nat} (h : TabU lo hi w s r cs rows) (ht : Touch fp w w') (hf : ∀ b ∈ fp, b < lo ∨ hi ≤ b) : TabU lo hi w' s r cs rows := by
 obtain ⟨sl, h1, h2, h3⟩ := h.rws
 refine ⟨h.n, h.le, RdK.touch h.cols ht (fun b hb hm => ?_), h.cf, h.m, ⟨sl, h1.touch ht (fun s hs b hb hm => ?_), h2.touch ht (fun b hb hm => ?_), h3⟩, h.rf, h.apart⟩
 ·have := h.cf b hb; have := hf b hm; omega
 ·have := (h3 s hs b hb).2; have := hf b hm; omega
 ·have := h.rf b hb; have := hf b hm; omega
theorem TabU.tab {lo hi : Nat} {w : World} {s r : SL} {cs : List CD} {rows : List (List VD)} (h : TabU lo hi w s r cs rows) : TabAt w s r cs rows := by
 obtain ⟨sl, h1, h2, _⟩ := h.rws
 exact ⟨h.n, h.le, h.cols, h.m, sl, h1, h2.rd⟩
/-- what an evaluation tells: an error, or a table in new memory -/
def EvPost (v : Int × List CD × List (List VD)) (w : World) (e : Ending) (w' : World) : Prop := ∃ s r : SL, e = .returned (.tuple #[.agg #[.slice s.A s.n s.c, .slice r.A r.n r.c], .int .i64 v.1]) ∧ NewTab w.heap.size w' s r v.2.1 v.2.2 ∧ Touch [] w w'
theorem NewTab.nil (base : Nat) (w : World) : NewTab base w ⟨none, 0, 0⟩ ⟨none, 0, 0⟩ [] [] := ⟨rfl, Nat.le_refl _, RdK.nil _ _ _, by simp [fpo], rfl, OwnR.nil _ _ _, by simp [fpo], by simp [fpo]⟩
theorem EvPost.err {w w' : World} (k : Int) (ht : Touch [] w w') : EvPost (k, [], []) w (.returned (.tuple #[.agg #[.slice none 0 0, .slice none 0 0], .int .i64 k])) w' :=
 ⟨⟨none, 0, 0⟩, ⟨none, 0, 0⟩, rfl, NewTab.nil _ _, ht⟩
/-- what a plan's evaluation tells, wherever it is asked for -/
def EvalC (w : World) (I : Option Addr) (ic n : Nat) (x : PC) (v : Int × List CD × List (List VD)) : Prop := ∀ w', Touch [] w w' → Calls Tryz.prog 30 #[x.val, .slice I n ic] w' (EvPost v w')

set_option maxRecDepth 40000 in
set_option maxHeartbeats 6400000 in
theorem eval_scan (x : PC) (hk0 : x.kind = 1) (ha0 : x.args.n = 0) (I : Option Addr) (ic n : Nat) (l : List SrcD) (hn : l.length = n) (hl : n ≤ 1000000) (k : Nat) (hkl : k < l.length) (hs : srcI l x.name = some k) (hcl : l[k].cs.length ≤ 1000000) (hrl : l[k].rows.length ≤ 1000000) (hrr : RowsLe l[k].rows) (w : World) (h : SrcsAt w I l) :
  Calls Tryz.prog 30 #[x.val, .slice I n ic] w (EvPost (0, l[k].cs, l[k].rows) w) := by
 obtain ⟨k0, k1, ⟨A2, n2, c2'⟩, ⟨⟨ck, cn, ⟨cvk, cvn, cvt⟩, cop⟩, CA, cnn, cc⟩, ⟨NA, nn, nc⟩, ⟨EA, en, ec⟩, ⟨OA, ol, oc⟩, ⟨GA, gn, gc⟩, ⟨BA, bn, bc⟩, count⟩ := x
 dsimp only at hk0 ha0 hs ⊢
 subst hk0 ha0
 simp only [PC.val]
 obtain ⟨PO, hPO⟩ : ∃ PO, PO = EvPost (0, l[k].cs, l[k].rows) w := ⟨_, rfl⟩
 rw [← hPO]
 have HPO := Lib.hid hPO
 obtain ⟨W, hW⟩ : ∃ W, W = (w.alloc (.cells #[.int .i64 1, .string k1, .slice A2 0 c2', .int .i64 ck, .string cn, .int .i64 cvk, .int .i64 cvn, .string cvt, .string cop, .slice CA cnn cc, .slice NA nn nc, .slice EA en ec, .slice OA ol oc, .slice GA gn gc, .slice BA bn bc, .int .i64 count] 49)).alloc (.cells #[.slice none 0 0, .slice none 0 0] 27) := ⟨_, rfl⟩
 have t0 : Touch [] w W := hW ▸ ((Touch.refl [] w).alloc _).alloc _
 have hb0 := hW ▸ ((Touch.refl [] (w.alloc (.cells #[.int .i64 1, .string k1, .slice A2 0 c2', .int .i64 ck, .string cn, .int .i64 cvk, .int .i64 cvn, .string cvt, .string cop, .slice CA cnn cc, .slice NA nn nc, .slice EA en ec, .slice OA ol oc, .slice GA gn gc, .slice BA bn bc, .int .i64 count] 49))).alloc (.cells #[.slice none 0 0, .slice none 0 0] 27)).blk (heap_alloc_new w _) (by simp)
 have hbt : W.heap[w.heap.size + 1]? = some (.cells #[.slice none 0 0, .slice none 0 0] 27 (0, 0)) := by
  have := heap_alloc_new (w.alloc (.cells #[.int .i64 1, .string k1, .slice A2 0 c2', .int .i64 ck, .string cn, .int .i64 cvk, .int .i64 cvn, .string cvt, .string cop, .slice CA cnn cc, .slice NA nn nc, .slice EA en ec, .slice OA ol oc, .slice GA gn gc, .slice BA bn bc, .int .i64 count] 49)) (.cells #[.slice none 0 0, .slice none 0 0] 27)
  rw [World.size_alloc] at this
  exact hW ▸ this
 have hWs : W.heap.size = w.heap.size + 2 := by rw [hW]; simp
 have q0 : W.cell? ⟨w.heap.size, 0, none⟩ = some (.int .i64 1) := cell_blk hb0 rfl
 have q1 : W.cell? ⟨w.heap.size, 1, none⟩ = some (.string k1) := cell_blk hb0 rfl
 have q2 : W.cell? ⟨w.heap.size, 2, none⟩ = some (.slice A2 0 c2') := cell_blk hb0 rfl
 have HW := Lib.hid hW
 have HT0 := Lib.hid (And.intro t0 (And.intro hbt hWs))
 have Hs := Lib.hid (source_yes I ic n l hn k1 W (h.touch0 t0) (by omega) k hkl hs)
 have Hcp := Lib.hid fun (s1 r1 : SL) w' (t : TabAt w' s1 r1 l[k].cs l[k].rows) => copy_any s1 r1 _ _ hcl hrl hrr w' t
 clear hs h hb0 hbt hW t0 hPO hcl hrl hrr hWs
 go_enter Tryz.func30, Tryz.ntmps30
 go_wp2_with fail
 rw [← HW.out]
 refine wp_loop_rounds 1 ?_
 rw [rounds_succ]
 go_wp2_with fail
 refine Hs.out.mono ?_
 rintro e w1 ⟨s1, r1, rfl, htab, t1⟩
 obtain ⟨SA, sn, sc⟩ := s1
 obtain ⟨RA, rn, rc⟩ := r1
 have ta := (Touch.refl [] w1).alloc (.cells #[.slice SA sn sc, .slice RA rn rc] 27)
 have hcp := Hcp.out _ _ _ (htab.touch0 ta)
 have HX := Lib.hid (And.intro (t1.trans0 ta) (ta.blk (t1.blk HT0.out.2.1 (by simp)) (by simp)))
 have Hc2 := Lib.hid hcp
 clear t1 ta hcp htab Hs
 go_wp2_with fail
 refine Hc2.out.mono ?_
 rintro e w2 ⟨⟨sA, sn', sc'⟩, ⟨rA, rn', rc'⟩, rfl, hnt, t2⟩
 obtain ⟨z0, z1, y0, y1⟩ := blk2 (t2.blk HX.out.2 (by simp))
 have HY := Lib.hid (And.intro hnt (And.intro t2 (t2.blk HX.out.2 (by simp))))
 clear hnt t2
 go_wp2_with fail
 obtain ⟨hnt, t2, hr2⟩ := HY.out
 have hs1 := HX.out.1.size
 have hs0 := HT0.out.2.2
 have tq := touch2 w2 (w.heap.size + 1) (.slice sA sn' sc') (.slice rA rn' rc')
 refine bodyPost_ret (results_cell_two rfl _ _ (w.heap.size + 1) _ _ _ _ rfl (set2 hr2 rfl _ _) Tryz.underlying27 rfl rfl) rfl ?_
 rw [HPO.out]
 refine ⟨⟨sA, sn', sc'⟩, ⟨rA, rn', rc'⟩, rfl, ?_, ((HT0.out.1.trans0 HX.out.1).trans0 t2).trans tq (fun b hb => .inr (by simp at hb; omega))⟩
 have hn3 : NewTab W.heap.size w2 _ _ _ _ := hnt.base hs1
 refine ⟨hn3.n, hn3.le, RdK.touch hn3.cols tq (fun b hb hm => ?_), fun b hb => ⟨?_, ?_⟩, hn3.m, ?_, fun b hb => ?_, hn3.apart⟩
 ·have := (hn3.cf b hb).1; simp at hm; omega
 ·have := (hn3.cf b hb).1; omega
 ·have := (hn3.cf b hb).2; have := tq.size; omega
 ·exact (hn3.rws.touch tq (fun b hb => by simp at hb; omega) (fun b hb => hn3.rf b hb)).base (by omega)
 ·have := hn3.rf b hb; omega
end Go.Proofs.YtafoklilkdnepaaGreatDoor

/- relop.Plan.rows: what it tells; at groups of an empty table. (gen_rlrows.py) -/
namespace Go.Proofs.YtafoklilkdnepaaGreatDoor
open Go.RowKit

/-- tables in a row -/
def tbE (t : SL × SL) : List Value := [.slice t.1.A t.1.n t.1.c, .slice t.2.A t.2.n t.2.c]
theorem tbE_length (t : SL × SL) : (tbE t).length = 2 := rfl
theorem tbE_one (t : SL × SL) : ∀ u ∈ tbE t, u.oneCell' = true := by
 intro u hu
 simp only [tbE, List.mem_cons, List.not_mem_nil, or_false] at hu
 rcases hu with rfl | rfl <;> rfl
/-- rows, or an error -/
def RowsPost (rv : Int × List (List VD)) (w : World) (e : Ending) (w' : World) : Prop := ∃ r : SL, e = .returned (.tuple #[.slice r.A r.n r.c, .int .i64 rv.1]) ∧ r.n = rv.2.length ∧ RowsAt w' r.A rv.2 ∧ Touch [] w w'
set_option maxRecDepth 40000 in
set_option maxHeartbeats 6400000 in
theorem rows_group0 (x : PC) (hk0 : x.kind = 6) (h1 : x.names.n = 0) (h2 : x.aggs.n = 1) (op nm : ByteArray) (L : Option Addr) (lc : Nat) (ta : SL × SL) (cs : List CD) (hl : cs.length ≤ 1000000) (w : World)
  (hL : RdK tbE w L [ta]) (hTA : TabAt w ta.1 ta.2 cs []) (hg : RdK agE w x.aggs.A [⟨op, ⟨#[]⟩, nm⟩]) :
  Calls Tryz.prog 65 #[x.val, .slice L 1 lc] w (RowsPost (0, [[⟨1, 0, ⟨#[]⟩⟩]]) w) := by
 obtain ⟨⟨SA, sn, sc⟩, ⟨RA, rn, rc⟩⟩ := ta
 obtain ⟨k0, k1, ⟨A2, n2, c2'⟩, ⟨⟨ck, cn, ⟨cvk, cvn, cvt⟩, cop⟩, CA, cnn, cc⟩, ⟨NA, nn, nc⟩, ⟨EA, en, ec⟩, ⟨OA, ol, oc⟩, ⟨GA, gn, gc⟩, ⟨BA, bn, bc⟩, count⟩ := x
 dsimp only at hk0 h1 h2 hg hTA
 subst hk0
 obtain ⟨ad, bl, bo, rfl, hadd0, hc0⟩ := RdK.cells hL 2 tbE_length (by omega) 0 (by simp)
 have l0 := hc0 0 _ rfl
 have l1 := hc0 1 _ rfl
 simp only [Nat.zero_mul, Nat.add_zero] at hadd0 l0 l1
 simp only [List.getElem_cons_zero] at l0 l1
 have Hj := Lib.hid fun w' (t : Touch [] w w') => group_zero ⟨6, k1, ⟨A2, n2, c2'⟩, ⟨⟨ck, cn, ⟨cvk, cvn, cvt⟩, cop⟩, CA, cnn, cc⟩, ⟨NA, nn, nc⟩, ⟨EA, en, ec⟩, ⟨OA, ol, oc⟩, ⟨GA, gn, gc⟩, ⟨BA, bn, bc⟩, count⟩ h1 h2 op nm ⟨SA, sn, sc⟩ ⟨RA, rn, rc⟩ cs hTA.n hl hTA.m w' (RdK.touch0 hg t) (hTA.cols.touch0 t)
 simp only [PC.val] at *
 obtain ⟨W, hW⟩ : ∃ W, W = w.alloc (.cells #[.int .i64 6, .string k1, .slice A2 n2 c2', .int .i64 ck, .string cn, .int .i64 cvk, .int .i64 cvn, .string cvt, .string cop, .slice CA cnn cc, .slice NA nn nc, .slice EA en ec, .slice OA ol oc, .slice GA gn gc, .slice BA bn bc, .int .i64 count] 49) := ⟨_, rfl⟩
 have t0 : Touch [] w W := hW ▸ (Touch.refl [] w).alloc _
 have hb0 := hW ▸ heap_alloc_new w (.cells #[.int .i64 6, .string k1, .slice A2 n2 c2', .int .i64 ck, .string cn, .int .i64 cvk, .int .i64 cvn, .string cvt, .string cop, .slice CA cnn cc, .slice NA nn nc, .slice EA en ec, .slice OA ol oc, .slice GA gn gc, .slice BA bn bc, .int .i64 count] 49)
 have l0d := t0.drew.cell l0 (by simp)
 have l1d := t0.drew.cell l1 (by simp)
 obtain ⟨p0, p1, p2, p3, p4, p5, p6, p7, p8, p9, p10, p11, p12, p13, p14, p15⟩ := blk16 ((Touch.refl [] W).drew.blk hb0 (by simp))
 have HP : Hid (W.drew.cell? ⟨w.heap.size, 0, none⟩ = some (.int .i64 6) ∧ W.drew.cell? ⟨w.heap.size, 1, none⟩ = some (.string k1) ∧ W.drew.cell? ⟨w.heap.size, 2, none⟩ = some (.slice A2 n2 c2') ∧ W.drew.cell? ⟨w.heap.size, 3, none⟩ = some (.int .i64 ck) ∧ W.drew.cell? ⟨w.heap.size, 4, none⟩ = some (.string cn) ∧ W.drew.cell? ⟨w.heap.size, 5, none⟩ = some (.int .i64 cvk) ∧ W.drew.cell? ⟨w.heap.size, 6, none⟩ = some (.int .i64 cvn) ∧ W.drew.cell? ⟨w.heap.size, 7, none⟩ = some (.string cvt) ∧ W.drew.cell? ⟨w.heap.size, 8, none⟩ = some (.string cop) ∧ W.drew.cell? ⟨w.heap.size, 9, none⟩ = some (.slice CA cnn cc) ∧ W.drew.cell? ⟨w.heap.size, 10, none⟩ = some (.slice NA nn nc) ∧ W.drew.cell? ⟨w.heap.size, 11, none⟩ = some (.slice EA en ec) ∧ W.drew.cell? ⟨w.heap.size, 12, none⟩ = some (.slice OA ol oc) ∧ W.drew.cell? ⟨w.heap.size, 13, none⟩ = some (.slice GA gn gc) ∧ W.drew.cell? ⟨w.heap.size, 14, none⟩ = some (.slice BA bn bc) ∧ W.drew.cell? ⟨w.heap.size, 15, none⟩ = some (.int .i64 count) ∧ W.drew.cell? ⟨bl, bo, none⟩ = some (.slice SA sn sc) ∧ W.drew.cell? ⟨bl, bo + 1, none⟩ = some (.slice RA rn rc)) := Lib.hid ⟨p0, p1, p2, p3, p4, p5, p6, p7, p8, p9, p10, p11, p12, p13, p14, p15, l0d, l1d⟩
 have HW := Lib.hid hW
 have HT0 := Lib.hid t0.drew
 clear h1 h2 hg hTA hL hc0 hW t0 l0 l1 hb0 l0d l1d p0 p1 p2 p3 p4 p5 p6 p7 p8 p9 p10 p11 p12 p13 p14 p15
 go_enter Tryz.func65, Tryz.ntmps65
 go_wp2_with fail
 rw [← HW.out]
 go_region_held3 (fun w' => w'.cell? ⟨w.heap.size, 0, none⟩ = some (.int .i64 6) ∧ w'.cell? ⟨w.heap.size, 1, none⟩ = some (.string k1) ∧ w'.cell? ⟨w.heap.size, 2, none⟩ = some (.slice A2 n2 c2') ∧ w'.cell? ⟨w.heap.size, 3, none⟩ = some (.int .i64 ck) ∧ w'.cell? ⟨w.heap.size, 4, none⟩ = some (.string cn) ∧ w'.cell? ⟨w.heap.size, 5, none⟩ = some (.int .i64 cvk) ∧ w'.cell? ⟨w.heap.size, 6, none⟩ = some (.int .i64 cvn) ∧ w'.cell? ⟨w.heap.size, 7, none⟩ = some (.string cvt) ∧ w'.cell? ⟨w.heap.size, 8, none⟩ = some (.string cop) ∧ w'.cell? ⟨w.heap.size, 9, none⟩ = some (.slice CA cnn cc) ∧ w'.cell? ⟨w.heap.size, 10, none⟩ = some (.slice NA nn nc) ∧ w'.cell? ⟨w.heap.size, 11, none⟩ = some (.slice EA en ec) ∧ w'.cell? ⟨w.heap.size, 12, none⟩ = some (.slice OA ol oc) ∧ w'.cell? ⟨w.heap.size, 13, none⟩ = some (.slice GA gn gc) ∧ w'.cell? ⟨w.heap.size, 14, none⟩ = some (.slice BA bn bc) ∧ w'.cell? ⟨w.heap.size, 15, none⟩ = some (.int .i64 count) ∧ w'.cell? ⟨bl, bo, none⟩ = some (.slice SA sn sc) ∧ w'.cell? ⟨bl, bo + 1, none⟩ = some (.slice RA rn rc)) (first | exact HP.out | exact keep18 M1.out.2 HP.out) (first
  | (go_at_call 97; refine (Hj.out _ HT0.out).mono ?_; rintro e w1 ⟨A1, c1, rfl, m1⟩; have M1 := Lib.hid m1; clear m1))
 go_wp2_with fail
 go_ret2
 exact ⟨⟨A1, 1, c1⟩, rfl, rfl, M1.out.1, HT0.out.trans0 M1.out.2⟩
end Go.Proofs.YtafoklilkdnepaaGreatDoor
