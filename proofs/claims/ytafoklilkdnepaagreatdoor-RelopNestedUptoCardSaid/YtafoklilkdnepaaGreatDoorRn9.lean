/- Part 9 of the texts of this proof, one behind the other. No condition beyond those that its theorems state. -/
import Derived.Test.YtafoklilkdnepaaGreatDoorRn8
import Derived.Deep.RegionHeld3
set_option maxRecDepth 40000
set_option maxHeartbeats 25600000
namespace Go.Proofs.YtafoklilkdnepaaGreatDoor
section
open Go.RowKit Go.Maps Go.ChangeMaps
theorem wpList_here {P : Program} {ops : Array Oper} {Q : Exit -> Act -> World -> Prop} {rest : List Oper} {a : Act} {w : World} (h : ∀ W, W = w -> wpList P ops Q rest a W) : wpList P ops Q rest a w := h w rfl
theorem of_rows (op col nm : ByteArray) (h5 : col.toList.isEmpty = true) (SA : Option Addr) (n c : Nat) (RA : Option Addr) (m rc : Nat) (_hm : m <= 1000000) (w : World) :
  Calls Tryz.prog 139 #[.agg #[.string op, .string col, .string nm], .slice SA n c, .slice RA m rc] w fun e w' => e = .returned (.tuple #[.agg #[.int .i64 1, .int .i64 m, .string ⟨#[]⟩], .int .i64 0]) /\ Touch [] w w' := by
 have t0 := ((Touch.refl [] w).alloc (.cells #[.string op, .string col, .string nm] 79)).alloc (.cells #[.int .i64 0, .int .i64 0, .string ⟨#[]⟩] 31)
 have hr := heap_alloc_new (w.alloc (.cells #[.string op, .string col, .string nm] 79)) (.cells #[.int .i64 0, .int .i64 0, .string ⟨#[]⟩] 31)
 rw [World.size_alloc] at hr
 have HR := lh (And.intro t0 hr)
 have Hof := lh fun w' => of_num m w'
 clear t0 hr
 go_enter Tryz.func139, Tryz.ntmps139
 go_wp2_with fail
 refine (Hof.out _).mono ?_
 rintro e w1 ⟨rfl, t1⟩
 have hr1 := t1.blk HR.out.2 (by simp)
 obtain ⟨z0, z1, z2, y0, y1, y2⟩ := blk3 hr1
 have HT := lh (And.intro (HR.out.1.trans0 t1) hr1)
 clear hr1 t1
 go_wp2_with fail
 refine bodyPost_ret (results_cell_two rfl _ _ (w.heap.size + 1) _ _ _ _ rfl (set3 HT.out.2 rfl _ _ _) Tryz.underlying31 rfl rfl) rfl ⟨rfl, HT.out.1.trans (touch3 _ _ _ _ _) (fun b hb => .inr (by simp at hb; omega))⟩
theorem inR_one (A : Option Addr) (c : Nat) (fv : Value) (w : World) : Calls Tryz.prog 177 #[.slice A 1 c, .int .i64 0, .int .i64 1, fv] w fun e w' => e = .returned (.tuple #[]) /\ w' = w := by
 go_enter Tryz.func177, Tryz.ntmps177
 go_wp2_with fail
 go_loop [8] (fun y => y = .int .i64 1) (fun _ => 0)
 case atStart => rfl
 case round =>
  obtain rfl := hrel
  go_wp2
  go_end0
  exact ⟨rfl, rfl⟩
theorem pdqR_one (A : Option Addr) (c : Nat) (lim : Int) (fv : Value) (w : World) : Calls Tryz.prog 172 #[.slice A 1 c, .int .i64 0, .int .i64 1, .int .i64 lim, fv] w fun e w' => e = .returned (.tuple #[]) /\ w' = w := by
 have Hi := lh (inR_one A c fv)
 go_enter Tryz.func172, Tryz.ntmps172
 go_wp2_with fail
 refine wp_loop_rounds 1 ?_
 rw [rounds_succ]
 go_wp2_with fail
 refine (Hi.out _).mono ?_
 rintro e w1 ⟨rfl, hw⟩
 have HW := lh hw
 clear hw
 go_wp2_with fail
 refine bodyPost_ret (results_none rfl _ _ _) rfl ?_
 exact ⟨rfl, HW.out⟩
theorem sortFR_one (A : Option Addr) (c : Nat) (fv : Value) (w : World) : Calls Tryz.prog 138 #[.slice A 1 c, fv] w fun e w' => e = .returned (.tuple #[]) /\ w' = w := by
 have Hi := lh fun lim w' => pdqR_one A c lim fv w'
 have Hb := lh fun w' => Tryz.bits_Len 1 w' (by omega) (by omega)
 go_enter Tryz.func138, Tryz.ntmps138
 go_wp2_with fail
 refine (Hb.out _).mono ?_
 rintro e w1 ⟨rfl, hw⟩
 have HW := lh hw
 clear hw
 go_wp2_with fail
 refine (Hi.out _ _).mono ?_
 rintro e w2 ⟨rfl, hw⟩
 have HW2 := lh hw
 clear hw
 go_wp2_with fail
 go_end0
 exact ⟨rfl, by rw [HW2.out, HW.out]⟩
theorem group_zero (x : PC) (h1 : x.names.n = 0) (h2 : x.aggs.n = 1) (op nm : ByteArray) (sa ra : SL) (cs : List CD) (hsn : sa.n = cs.length) (hl : cs.length <= 1000000) (hrn : ra.n = 0) (w : World) (hg : RdK agE w x.aggs.A [⟨op, ⟨#[]⟩, nm⟩]) (hcs : ColsAt w sa.A cs) :
  Calls Tryz.prog 97 #[x.val, .agg #[.slice sa.A sa.n sa.c, .slice ra.A ra.n ra.c]] w fun e w' => ∃ B c, e = .returned (.tuple #[.slice B 1 c, .int .i64 0]) /\ RowsAt w' B [[⟨1, 0, ⟨#[]⟩⟩]] /\ Touch [] w w' := by
 obtain ⟨SA, sn, sc⟩ := sa
 obtain ⟨RA, rn, rc⟩ := ra
 obtain ⟨k0, k1, ⟨A2, n2, c2'⟩, ⟨⟨ck, cn, ⟨cvk, cvn, cvt⟩, cop⟩, CA, cnn, cc⟩, ⟨NA, nn, nc⟩, ⟨EA, en, ec⟩, ⟨OA, ol, oc⟩, ⟨GA, gn, gc⟩, ⟨BA, bn, bc⟩, count⟩ := x
 dsimp only at h1 h2 hsn hrn hg hcs ⊢
 simp only [PC.val]
 subst h1 h2 hrn
 obtain ⟨ad, gb, go_, rfl, hadd, hc⟩ := RdK.cells hg 3 agE_length (by omega) 0 (by simp)
 rw [Nat.zero_mul] at hadd
 have e0 := hc 0 _ rfl
 have e1 := hc 1 _ rfl
 have e2 := hc 2 _ rfl
 simp only [List.getElem_cons_zero, Nat.add_zero] at e0 e1 e2
 obtain ⟨W, hW⟩ : ∃ W, W = (w.alloc (.cells #[.int .i64 k0, .string k1, .slice A2 n2 c2', .int .i64 ck, .string cn, .int .i64 cvk, .int .i64 cvn, .string cvt, .string cop, .slice CA cnn cc, .slice NA 0 nc, .slice EA en ec, .slice OA ol oc, .slice (some ad) 1 gc, .slice BA bn bc, .int .i64 count] 49)).alloc (.cells #[.slice SA sn sc, .slice RA 0 rc] 27) := ⟨_, rfl⟩
 have t0 : Touch [] w W := hW ▸ ((Touch.refl [] w).alloc _).alloc _
 have hbp := hW ▸ ((Touch.refl [] (w.alloc (.cells #[.int .i64 k0, .string k1, .slice A2 n2 c2', .int .i64 ck, .string cn, .int .i64 cvk, .int .i64 cvn, .string cvt, .string cop, .slice CA cnn cc, .slice NA 0 nc, .slice EA en ec, .slice OA ol oc, .slice (some ad) 1 gc, .slice BA bn bc, .int .i64 count] 49))).alloc (.cells #[.slice SA sn sc, .slice RA 0 rc] 27)).blk (heap_alloc_new w _) (by simp)
 have hbt : W.heap[w.heap.size + 1]? = some (.cells #[.slice SA sn sc, .slice RA 0 rc] 27 (0, 0)) := by
  have := heap_alloc_new (w.alloc (.cells #[.int .i64 k0, .string k1, .slice A2 n2 c2', .int .i64 ck, .string cn, .int .i64 cvk, .int .i64 cvn, .string cvt, .string cop, .slice CA cnn cc, .slice NA 0 nc, .slice EA en ec, .slice OA ol oc, .slice (some ad) 1 gc, .slice BA bn bc, .int .i64 count] 49)) (.cells #[.slice SA sn sc, .slice RA 0 rc] 27)
  rw [World.size_alloc] at this
  exact hW ▸ this
 have q10 : W.cell? ⟨w.heap.size, 10, none⟩ = some (.slice NA 0 nc) := cell_blk hbp rfl
 have q13 : W.cell? ⟨w.heap.size, 13, none⟩ = some (.slice (some ad) 1 gc) := cell_blk hbp rfl
 have HW := lh hW
 have HT0 := lh t0
 have HB := lh (And.intro hbt (And.intro q10 q13))
 have HE := lh (And.intro (t0.cell e0 (by simp)) (And.intro (t0.cell e1 (by simp)) (t0.cell e2 (by simp))))
 have Hpl := lh (places_any SA sc sn cs hsn.symm (by omega) NA nc 0 [] rfl (by omega) W (hcs.touch0 t0) (RdK.nil _ _ _))
 have hmm := @run_makeMap Tryz.prog
 clear hW t0 hbp hbt e0 e1 e2 hc hg hcs hsn
 go_enter Tryz.func97, Tryz.ntmps97
 go_wp2_with fail
 rw [<- HW.out]
 refine Hpl.out.mono ?_
 rintro e w1 ⟨A1, m1, rfl, M1'⟩
 have HT1 := lh M1'.t
 have tm := (HT1.out.alloc (.map #[] 0))
 obtain ⟨b0, b1, _, _⟩ := blk2 (tm.blk HB.out.1 (by simp))
 have p10 := tm.cell HB.out.2.1 (by simp)
 have HMP := lh (IdxAt.made [] w1)
 clear M1' Hpl tm q10 q13
 go_wp2_with fail
 clear hmm
 refine wp_loop_rounds 1 ?_
 rw [rounds_succ]
 go_wp2_with (at_builtin; refine stop ?_)
 refine go ?_
 refine wpList_appK (enc := slE) rfl (.tmp 71) (.tmp 72) 25 rfl 33 _ 1 24 info_r5 Tryz.underlying25 rfl (by omega) slE_length slE_one none 0 0 [] rfl rfl (OwnK.nil _ _ _ _)
  (some ⟨w1.heap.size + 1, 0, none⟩) 1 1 [⟨none, 0, 0⟩] rfl rfl (by
   have := RdK.one (enc := slE) (w1.alloc (.map #[] 0)) 33 ⟨none, 0, 0⟩ #[.slice none 0 0] rfl
   rwa [World.size_alloc] at this) (by omega) (by omega) ?_
 intro Bo co w2 hown ht hf
 obtain ⟨ad2, ob, oo, rfl, hadd2, hc2⟩ := RdK.cells hown.rd 1 slE_length (by omega) 0 (by simp)
 rw [Nat.zero_mul] at hadd2
 have o0 := hc2 0 _ rfl
 simp only [Nat.add_zero] at o0
 have o0 : w2.cell? ⟨ob, oo, none⟩ = some (.slice none 0 0) := o0
 have tb := ((Touch.refl [] (w1.alloc (.map #[] 0))).alloc (.cells #[.slice none 0 0] 33)).trans0 ht
 have HT2 := lh ((HT1.out.alloc (.map #[] 0)).trans0 tb)
 have HM2 := lh (HMP.out.touch0 tb)
 have HBL := lh (HT2.out.blk HB.out.1 (by simp))
 have p13 := HT2.out.cell HB.out.2.2 (by simp)
 have Hsr := lh (sortFR_one (some ad2) co (.func (.func 81) #[] #[]) w2)
 clear hown ht hf hc2 tb HMP
 go_wp2_with fail
 refine Hsr.out.mono ?_
 rintro e w3 ⟨rfl, rfl⟩
 go_wp2_with fail
 refine wp_loop_rounds 2 ?_
 rw [rounds_succ]
 go_wp2_with fail
 refine (cloneV_any none 0 0 [] rfl (by omega) w3 (RdK.nil _ _ _)).mono ?_
 rintro e w4 ⟨A4, c4, rfl, m4⟩
 have M4 := lh m4
 have HT4 := lh (HT2.out.trans0 m4.t)
 have HM4 := lh (HM2.out.touch0 m4.t)
 have HBL4 := lh (m4.t.blk HBL.out (by simp))
 have p13' := m4.t.cell p13 (by simp)
 have e0 := HT4.out.cell HE.out.1 (by simp)
 have e1 := HT4.out.cell HE.out.2.1 (by simp)
 have e2 := HT4.out.cell HE.out.2.2 (by simp)
 clear m4 p13 HM2
 go_wp2_with fail
 refine wp_loop_rounds 2 ?_
 rw [rounds_succ]
 go_wp2_with fail
 have ta := (Touch.refl [] w4).alloc (.cells #[.string op, .string ⟨#[]⟩, .string nm] 79)
 have hba := heap_alloc_new w4 (.cells #[.string op, .string ⟨#[]⟩, .string nm] 79)
 obtain ⟨W5, hW5⟩ : ∃ W5, W5 = w4.alloc (.cells #[.string op, .string ⟨#[]⟩, .string nm] 79) := ⟨_, rfl⟩
 rw [<- hW5] at ta hba ⊢
 have HT5 := lh (And.intro ta (And.intro hba (show W5.heap.size = w4.heap.size + 1 by rw [hW5, World.size_alloc])))
 obtain ⟨K, hK⟩ : ∃ K, K = S (keyL []) := ⟨_, rfl⟩
 have Hky := lh fun w' => keyOf_any none 0 0 [] rfl w' (RdK.nil _ _ _) (by omega) (by simp) (by simp)
 rw [<- hK] at Hky
 have Hof := lh fun w' => (of_rows op ⟨#[]⟩ nm (by rw [toList_B]; rfl) SA sn sc none 0 0 (by omega) w' : Calls _ _ _ _ fun e w'' => e = .returned (.tuple #[.agg #[.int .i64 1, .int .i64 0, .string ⟨#[]⟩], .int .i64 0]) /\ _)
 have Hlk := lh fun w' (t : Touch [] W5 w') => hK ▸ (((HM4.out.touch0 ta).touch0 t).miss (keyL []) (by simp [keyL]) (by simp) false)
 have td := (Touch.refl [] W5).drew
 obtain ⟨a0, a1, a2, _, _, _⟩ := blk3 hba
 obtain ⟨s0, _, _, _⟩ := blk2 (ta.blk HBL4.out (by simp))
 have HK : Hid (∀ w', Touch [] W5 w' -> w'.cell? ⟨w4.heap.size, 0, none⟩ = some (.string op) /\ w'.cell? ⟨w4.heap.size, 1, none⟩ = some (.string ⟨#[]⟩) /\ w'.cell? ⟨w4.heap.size, 2, none⟩ = some (.string nm) /\ w'.cell? ⟨w.heap.size + 1, 0, none⟩ = some (.slice SA sn sc) /\ (Instr.lookup 191 (.map (some w1.heap.size)) (.string K) false).run Tryz.prog w' = .ok (.slice none 0 0) w') := lh fun w' t => ⟨t.cell a0 (by simp), t.cell a1 (by simp), t.cell a2 (by simp), t.cell s0 (by simp), Hlk.out _ t⟩
 have HTd := lh td
 have HTe : Hid (Touch [] W5 (W5.alloc (.cells #[.int .i64 0, .int .i64 0, .string ⟨#[]⟩] 31)).drew) := lh ((Touch.refl [] W5).alloc _).drew
 have HBe := lh ((Touch.refl [] (W5.alloc (.cells #[.int .i64 0, .int .i64 0, .string ⟨#[]⟩] 31))).drew.blk (heap_alloc_new W5 (.cells #[.int .i64 0, .int .i64 0, .string ⟨#[]⟩] 31)) (by simp))
 clear hW5 ta hba hK td a0 a1 a2 s0 e0 e1 e2
 go_region_held3 (fun w' => w'.cell? ⟨w4.heap.size, 0, none⟩ = some (.string op) /\ w'.cell? ⟨w4.heap.size, 1, none⟩ = some (.string ⟨#[]⟩) /\ w'.cell? ⟨w4.heap.size, 2, none⟩ = some (.string nm) /\ w'.cell? ⟨w.heap.size + 1, 0, none⟩ = some (.slice SA sn sc) /\ (Instr.lookup 191 (.map (some w1.heap.size)) (.string K) false).run Tryz.prog w' = .ok (.slice none 0 0) w')
  (first
   | with_reducible exact HK.out _ HTd.out
   | with_reducible exact HK.out _ HTe.out
   | with_reducible exact HK.out _ T6
   | with_reducible exact HK.out _ (T6.alloc _)
   | with_reducible exact HK.out _ T7
   | with_reducible exact HK.out _ (T7.alloc _)
   | exact HK.out _ (T7.trans (touch3 _ _ _ _ _) (fun b hb => .inr (by simp at hb; omega))))
  (first
   | (go_at_call 136; refine (Hky.out _).mono ?_; rintro e w6 ⟨rfl, t6⟩; have h6 : Touch [] (W5.alloc (.cells #[.int .i64 0, .int .i64 0, .string ⟨#[]⟩] 31)).drew w6 := (by with_reducible exact t6); have hbv6 := h6.blk HBe.out (by simp); have T6 : Touch [] W5 w6 := HTe.out.trans0 h6; have s6 := T6.size)
   | (go_at_call 136; refine (Hky.out _).mono ?_; rintro e w6 ⟨rfl, t6⟩; have h6 : Touch [] W5.drew w6 := (by with_reducible exact t6); have T6 : Touch [] W5 w6 := HTd.out.trans0 h6; have s6 := T6.size)
   | (go_at_call 139; refine (Hof.out _).mono ?_; rintro e w7 ⟨rfl, t7⟩; have h7 : Touch [] (w6.alloc (.cells #[.int .i64 0, .int .i64 0, .string ⟨#[]⟩] 31)) w7 := (by with_reducible exact t7); have T7 : Touch [] W5 w7 := (T6.alloc _).trans0 h7; have hbv := h7.blk (heap_alloc_new w6 (.cells #[.int .i64 0, .int .i64 0, .string ⟨#[]⟩] 31)) (by simp); obtain ⟨z0, z1, z2, y0, y1, y2⟩ := blk3 hbv)
   | (go_at_call 139; refine (Hof.out _).mono ?_; rintro e w7 ⟨rfl, t7⟩; have h7 : Touch [] w6 w7 := (by with_reducible exact t7); have T7 : Touch [] W5 w7 := T6.trans0 h7; have hbv := h7.blk hbv6 (by simp); obtain ⟨z0, z1, z2, y0, y1, y2⟩ := blk3 hbv)
   | (go_at_call 139; refine (Hof.out _).mono ?_; rintro e w7 ⟨rfl, t7⟩; have h7 : Touch [] w6 w7 := (by with_reducible exact t7); have T7 : Touch [] W5 w7 := T6.trans0 h7))
 all_goals (go_wp2_with (at_builtin; refine stop ?_))
 all_goals
  refine go ?_
  refine wpList_here ?_
  intro W8 hW8
  have T8 : Touch [] W5 W8 := by
   rw [hW8]
   first
    | with_reducible exact (T7.alloc _).alloc _
    | exact (T7.trans (touch3 _ _ _ _ _) (fun b hb => .inr (by simp at hb; omega))).alloc _
  have hrd : ∀ g, g + 1 = W8.heap.size -> RdK vdE W8 (some ⟨g, 0, none⟩) [⟨1, 0, ⟨#[]⟩⟩] := by
   obtain ⟨X, hX⟩ : ∃ X : World, W8 = X.alloc (.cells #[.int .i64 1, .int .i64 0, .string ⟨#[]⟩] 31) := ⟨_, hW8⟩
   intro g hg
   rw [hX] at hg ⊢
   rw [World.size_alloc] at hg
   obtain rfl : g = X.heap.size := by omega
   exact RdK.one (enc := vdE) X 31 ⟨1, 0, ⟨#[]⟩⟩ _ rfl
  have hA : ∀ g, g = W8.heap.size -> g = W8.heap.size := fun _ h => h
  refine wpList_appK (enc := vdE) rfl (.tmp 105) (.tmp 107) 33 rfl 31 _ 3 32 info_v5 Tryz.underlying33 rfl (by omega) vdE_length vdE_one A4 0 c4 [] rfl rfl (M4.out.own.touch0 (HT5.out.1.trans0 T8))
   _ 1 _ [⟨1, 0, ⟨#[]⟩⟩] rfl rfl (hrd _ (by rw [hW8]; simp)) (by omega) (by omega) ?_
  intro A9 c9 w9 hown ht hf
  have hTT : Touch [] w w9 := (((HT0.out.trans0 HT4.out).trans0 HT5.out.1).trans0 T8).trans ht (fun b hb => .inr (by have := M4.out.f b hb; have := (HT0.out.trans0 HT2.out).size; omega))
  rw [List.nil_append] at hown
  have HX := lh (And.intro hown hTT)
  clear hown ht hf hTT hrd hA T8 hW8
  go_wp2_with fail
  rw [rounds_succ]
  go_wp2_with (at_builtin; refine stop ?_)
  refine go ?_
  refine wpList_appR rfl (.tmp 110) (.tmp 112) 25 rfl 33 info_r5 Tryz.underlying25 0 none 0 0 [] rfl rfl (OwnR.nil _ _ _) A9 c9 [⟨1, 0, ⟨#[]⟩⟩] HX.out.1.rd
   (fun b hb => ⟨by simp [fpo], HX.out.1.lt b hb, Nat.zero_le _⟩) 1 rfl (by omega) rfl ?_
  intro B' c' w' hown2 ht2 hf2
  have HY := lh (And.intro hown2 ((HX.out.2.alloc _).trans0 ht2))
  clear hown2 ht2 hf2
  go_wp2_with fail
  rw [rounds_succ]
  go_wp2_with fail
  go_ret2
  exact ⟨B', c', rfl, HY.out.1.rowsAt, HY.out.2⟩
end
section
open Go.RowKit
def typO (cs : List CD) (s : ByteArray) : Option Int := (placeV cs s).map fun k => (cs.getD k ⟨⟨#[]⟩, 0⟩).typ
def onL (a b : List CD) : List (ByteArray × ByteArray) -> Int
 | [] => 0
 | p :: r => match typO a p.1, typO b p.2 with
  | some s, some t => if s = t then onL a b r else 12
  | _, _ => 13
def onV (a b : List CD) (l : List (ByteArray × ByteArray)) : Int := if l.length = 0 then 20 else onL a b l
theorem onL_step (a b : List CD) (l : List (ByteArray × ByteArray)) (k : Nat) (h : k < l.length) : onL a b (l.drop k) = match typO a l[k].1, typO b l[k].2 with
  | some s, some t => if s = t then onL a b (l.drop (k + 1)) else 12
  | _, _ => 13 := by
 rw [List.drop_eq_getElem_cons h]; rfl
theorem checkOn_any (x : PC) (on : List (ByteArray × ByteArray)) (ho : x.on.n = on.length) (SA SB : Option Addr) (c1 c2 n1 n2 : Nat) (a b : List CD) (h1 : a.length = n1) (h2 : b.length = n2) (hl1 : n1 <= 1000000) (hl2 : n2 <= 1000000) (hlo : on.length <= 1000000) (w : World)
  (hr : RdK prE w x.on.A on) (ha : ColsAt w SA a) (hb : ColsAt w SB b) :
  Calls Tryz.prog 91 #[x.val, .slice SA n1 c1, .slice SB n2 c2] w fun e w' => e = .returned (.int .i64 (onV a b on)) /\ Touch [] w w' := by
 subst h1 h2
 have Hv := lh (show onV a b on = if on.length = 0 then 20 else onL a b on from rfl)
 have HRD := lh (And.intro hr (And.intro ha hb))
 obtain ⟨k0, k1, ⟨A2, n2, c2'⟩, ⟨⟨ck, cn, ⟨cvk, cvn, cvt⟩, cop⟩, CA, cnn, cc⟩, ⟨NA, nn, nc⟩, ⟨EA, en, ec⟩, ⟨OA, ol, oc⟩, ⟨GA, gn, gc⟩, ⟨BA, bn, bc⟩, count⟩ := x
 simp only [PC.val] at *
 subst ho
 have t0 := (Touch.refl [] w).alloc (.cells #[.int .i64 k0, .string k1, .slice A2 n2 c2', .int .i64 ck, .string cn, .int .i64 cvk, .int .i64 cvn, .string cvt, .string cop, .slice CA cnn cc, .slice NA nn nc, .slice EA en ec, .slice OA on.length oc, .slice GA gn gc, .slice BA bn bc, .int .i64 count] 49)
 have HT0 := lh t0
 clear t0 hr ha hb
 by_cases hz : on.length = 0
 ·have Hq := lh (show onV a b on = 20 by rw [Hv.out, if_pos hz])
  have hzb : ((on.length : Int) == 0) = true := by rw [hz]; rfl
  clear hz
  go_enter Tryz.func91, Tryz.ntmps91
  go_wp2
  go_ret
  exact ⟨ret_int Hq.out.symm, HT0.out⟩
 ·have Hq := lh (show onV a b on = onL a b on by rw [Hv.out, if_neg hz])
  have hzb : ((on.length : Int) == 0) = false := by rw [beq_eq_false_iff_ne]; omega
  clear hz Hv
  go_enter Tryz.func91, Tryz.ntmps91
  go_wp2_with fail
  go_loopw [20] (fun i wr => ∃ k : Nat, k <= on.length /\ i = .int .i64 k /\ Hid (onV a b on = onL a b (on.drop k)) /\ Hid (Touch [] w wr)) (fun i _ => on.length - (intOf i).toNat)
  case atStart => exact ⟨0, by omega, rfl, lh (by rw [Hq.out, List.drop_zero]), HT0⟩
  case round =>
   obtain ⟨k, hk, rfl, Hd, HT⟩ := hrel
   by_cases hlt : k < on.length
   ·obtain ⟨ad, b1, o1, rfl, hadd, hc⟩ := RdK.cells (HRD.out.1.touch0 HT.out) 2 prE_length (by omega) k hlt
    have hst := onL_step a b on k hlt
    obtain ⟨p, hp⟩ : ∃ p, p = on[k] := ⟨_, rfl⟩
    rw [<- hp] at hc hst
    obtain ⟨p1, p2⟩ := p
    have e0 := hc 0 _ rfl
    have e1 := hc 1 _ rfl
    rw [Nat.add_zero] at e0
    have ta := (Touch.refl [] wr).alloc (.cells #[.string p1, .string p2] 39)
    have hbl := heap_alloc_new wr (.cells #[.string p1, .string p2] 39)
    have hfa := fun w' (t : Touch [] wr w') => findC_any SA c1 a.length a rfl p1 w' (HRD.out.2.1.touch0 (HT.out.trans0 t)) (by omega)
    have hfb := fun w' (t : Touch [] wr w') => findC_any SB c2 b.length b rfl p2 w' (HRD.out.2.2.touch0 (HT.out.trans0 t)) (by omega)
    have hkn : (k : Int) < (on.length : Int) := by omega
    have HTa := lh (And.intro ta hbl)
    rcases hpa : placeV a p1 with _ | i
    ·rw [hpa] at hfa
     have Hq2 := lh (show onV a b on = 13 by rw [Hd.out, hst]; unfold typO; rw [hpa]; rfl)
     have Hfa := lh hfa
     have Hfb := lh hfb
     clear hfa hfb hpa hst hc hp ta hbl
     go_wp2_with fail
     refine (Hfa.out _ HTa.out.1).mono ?_
     rintro e w1 ⟨rfl, t1⟩
     have T1 := HTa.out.1.trans0 t1
     obtain ⟨g0, g1, _, _⟩ := blk2 (t1.blk HTa.out.2 (by simp))
     have HT1 := lh T1
     clear T1 t1
     go_wp2_with fail
     refine (Hfb.out _ HT1.out).mono ?_
     rintro e w2 ⟨rfl, t2⟩
     have HT2 := lh (HT1.out.trans0 t2)
     clear t2
     go_wp2
     go_ret
     exact ⟨ret_int Hq2.out.symm, HT.out.trans0 HT2.out⟩
    ·rw [hpa] at hfa
     rcases hpb : placeV b p2 with _ | j
     ·rw [hpb] at hfb
      have Hq2 := lh (show onV a b on = 13 by rw [Hd.out, hst]; unfold typO; rw [hpa, hpb]; rfl)
      have Hfa := lh hfa
      have Hfb := lh hfb
      clear hfa hfb hpa hpb hst hc hp ta hbl
      go_wp2_with fail
      refine (Hfa.out _ HTa.out.1).mono ?_
      rintro e w1 ⟨rfl, t1⟩
      have T1 := HTa.out.1.trans0 t1
      obtain ⟨g0, g1, _, _⟩ := blk2 (t1.blk HTa.out.2 (by simp))
      have HT1 := lh T1
      clear T1 t1
      go_wp2_with fail
      refine (Hfb.out _ HT1.out).mono ?_
      rintro e w2 ⟨rfl, t2⟩
      have HT2 := lh (HT1.out.trans0 t2)
      clear t2
      go_wp2
      go_ret
      exact ⟨ret_int Hq2.out.symm, HT.out.trans0 HT2.out⟩
     ·rw [hpb] at hfb
      have hil := placeV_lt hpa
      have hjl := placeV_lt hpb
      obtain ⟨ad2, b2, o2, rfl, hadd2, _, e3⟩ := (HRD.out.2.1.touch0 HT.out).at_ i hil
      obtain ⟨ad3, b3, o3, rfl, hadd3, _, e4⟩ := (HRD.out.2.2.touch0 HT.out).at_ j hjl
      have hts : onL a b (on.drop k) = if a[i].typ = b[j].typ then onL a b (on.drop (k + 1)) else 12 := by
       rw [hst]; unfold typO; rw [hpa, hpb]; simp [hil, hjl]
      obtain ⟨s, hs⟩ : ∃ s, s = a[i].typ := ⟨_, rfl⟩
      obtain ⟨t, ht⟩ : ∃ t, t = b[j].typ := ⟨_, rfl⟩
      rw [<- hs] at e3 hts
      rw [<- ht] at e4 hts
      have hi0 : (0 : Int) <= (i : Int) := by omega
      have hj0 : (0 : Int) <= (j : Int) := by omega
      have hin : (i : Int) < (a.length : Int) := by omega
      have hjn : (j : Int) < (b.length : Int) := by omega
      have HTS := lh hts
      have Hfa := lh hfa
      have Hfb := lh hfb
      clear hfa hfb hpa hpb hst hc hp ta hbl hts hs ht
      by_cases hst : s = t
      ·subst hst
       have Hn := lh (show onV a b on = onL a b (on.drop (k + 1)) by rw [Hd.out, HTS.out, if_pos rfl])
       clear HTS
       go_wp2_with fail
       refine (Hfa.out _ HTa.out.1).mono ?_
       rintro e w1 ⟨rfl, t1⟩
       have T1 := HTa.out.1.trans0 t1
       obtain ⟨g0, g1, _, _⟩ := blk2 (t1.blk HTa.out.2 (by simp))
       have HT1 := lh T1
       clear T1 t1
       go_wp2_with fail
       refine (Hfb.out _ HT1.out).mono ?_
       rintro e w2 ⟨rfl, t2⟩
       have e3' := (HT1.out.trans0 t2).cell e3 (by simp)
       have e4' := (HT1.out.trans0 t2).cell e4 (by simp)
       have HT2 := lh (HT1.out.trans0 t2)
       clear t2
       go_wp2_with fail
       go_quiet (fail)
       go_wp2_with fail
       go_roundw
       case rel => exact ⟨k + 1, by omega, by go_num, Hn, lh ((HT.out.trans0 HT2.out).drewN _)⟩
       case measure => simp [intOf]; omega
      ·have Hn := lh (show onV a b on = 12 by rw [Hd.out, HTS.out, if_neg hst])
       have hq : (s == t) = false := by rw [beq_eq_false_iff_ne]; exact hst
       have hq' : (s != t) = true := by rw [bne, hq]; rfl
       clear HTS
       go_wp2_with fail
       refine (Hfa.out _ HTa.out.1).mono ?_
       rintro e w1 ⟨rfl, t1⟩
       have T1 := HTa.out.1.trans0 t1
       obtain ⟨g0, g1, _, _⟩ := blk2 (t1.blk HTa.out.2 (by simp))
       have HT1 := lh T1
       clear T1 t1
       go_wp2_with fail
       refine (Hfb.out _ HT1.out).mono ?_
       rintro e w2 ⟨rfl, t2⟩
       have e3' := (HT1.out.trans0 t2).cell e3 (by simp)
       have e4' := (HT1.out.trans0 t2).cell e4 (by simp)
       have HT2 := lh (HT1.out.trans0 t2)
       clear t2
       go_wp2_with fail
       go_quiet (fail)
       go_wp2_with fail
       go_ret
       exact ⟨ret_int Hn.out.symm, (HT.out.trans0 HT2.out).drewN _⟩
   ·obtain rfl : k = on.length := by omega
    have Hn := lh (show onV a b on = 0 by rw [Hd.out, List.drop_length]; rfl)
    go_wp2
    go_ret
    exact ⟨ret_int Hn.out.symm, HT.out⟩
end
end Go.Proofs.YtafoklilkdnepaaGreatDoor
