/- Part 27 of the texts of this proof, one behind the other; each begins with its own sentence. No condition beyond those that its theorems state. -/
import Derived.Test.YtafoklilkdnepaaGreatDoorRt26
/- bywashlaw05.own at join and left. (gen_rllaw3.py) -/
namespace Go.Proofs.YtafoklilkdnepaaGreatDoor
open Go.RowKit

set_option maxRecDepth 40000 in
set_option maxHeartbeats 12800000 in
theorem own_join (x : PC) (hk0 : x.kind = 4) (SA SB : Option Addr) (c1 c2 n2 : Nat) (a : List CD) (hla : a.length ≤ 1000000) (w : World) (ha : ColsAt w SA a) (b : List CD) (hb2 : b.length = n2) (hlb : b.length ≤ 1000000) (hb : ColsAt w SB b) (on : List (ByteArray × ByteArray)) (ho : x.on.n = on.length) (hlo : on.length ≤ 1000000) (hr : RdK prE w x.on.A on) :
    Calls Tryz.prog 32 #[x.val, .slice SA a.length c1, .slice SB n2 c2] w (LawPost (if onV a b on = 0 then (0, a ++ b) else (onV a b on, [])) w) := by
  subst hb2
  have Hv := Lib.hid (show onV a b on = if on.length = 0 then 20 else onL a b on from rfl)
  obtain ⟨V, hV⟩ : ∃ V, V = onV a b on := ⟨_, rfl⟩
  rw [← hV] at Hv ⊢
  clear hV
  obtain ⟨G, hG⟩ : ∃ G, G = (if V = 0 then ((0 : Int), a ++ b) else (V, [])) := ⟨_, rfl⟩
  rw [← hG]
  have HG := Lib.hid hG
  clear hG
  have HRD := Lib.hid (And.intro hr (And.intro ha hb))
  obtain ⟨k0, k1, ⟨A2, n2, c2'⟩, ⟨⟨ck, cn, ⟨cvk, cvn, cvt⟩, cop⟩, CA, cnn, cc⟩, ⟨NA, nn, nc⟩, ⟨EA, en, ec⟩, ⟨OA, ol, oc⟩, ⟨GA, gn, gc⟩, ⟨BA, bn, bc⟩, count⟩ := x
  dsimp only at hk0 ho HRD
  subst hk0 ho
  simp only [PC.val] at *
  have ta := (Touch.refl [] w).alloc (.cells #[.int .i64 4, .string k1, .slice A2 n2 c2', .int .i64 ck, .string cn, .int .i64 cvk, .int .i64 cvn, .string cvt, .string cop, .slice CA cnn cc, .slice NA nn nc, .slice EA en ec, .slice OA on.length oc, .slice GA gn gc, .slice BA bn bc, .int .i64 count] 49)
  have hbx := heap_alloc_new w (.cells #[.int .i64 4, .string k1, .slice A2 n2 c2', .int .i64 ck, .string cn, .int .i64 cvk, .int .i64 cvn, .string cvt, .string cop, .slice CA cnn cc, .slice NA nn nc, .slice EA en ec, .slice OA on.length oc, .slice GA gn gc, .slice BA bn bc, .int .i64 count] 49)
  have HT0 := Lib.hid (And.intro ta hbx)
  clear ta hbx hr ha hb
  go_enter Tryz.func32, Tryz.ntmps32
  go_wp2_with fail
  go_loopw [42] (fun i wr => ∃ k : Nat, k ≤ on.length ∧ i = .int .i64 k ∧ Hid (onL a b on = onL a b (on.drop k)) ∧ Hid (Touch [] (w.alloc (.cells #[.int .i64 4, .string k1, .slice A2 n2 c2', .int .i64 ck, .string cn, .int .i64 cvk, .int .i64 cvn, .string cvt, .string cop, .slice CA cnn cc, .slice NA nn nc, .slice EA en ec, .slice OA on.length oc, .slice GA gn gc, .slice BA bn bc, .int .i64 count] 49)) wr)) (fun i _ => on.length - (intOf i).toNat)
  case atStart => exact ⟨0, by omega, rfl, Lib.hid (by rw [List.drop_zero]), Lib.hid (Touch.refl _ _)⟩
  case round =>
    obtain ⟨k, hk, rfl, Hd, HTk⟩ := hrel
    have HT := Lib.hid (HT0.out.1.trans0 HTk.out)
    by_cases hlt : k < on.length
    · have Hne := Lib.hid (show V = onL a b on by rw [Hv.out, if_neg (by omega)])
      obtain ⟨ad, b1, o1, rfl, hadd, hc⟩ := RdK.cells (HRD.out.1.touch0 HT.out) 2 prE_length (by omega) k hlt
      have hst := onL_step a b on k hlt
      obtain ⟨p, hp⟩ : ∃ p, p = on[k] := ⟨_, rfl⟩
      rw [← hp] at hc hst
      obtain ⟨p1, p2⟩ := p
      have e0 := hc 0 _ rfl
      have e1 := hc 1 _ rfl
      rw [Nat.add_zero] at e0
      have ta := (Touch.refl [] wr).alloc (.cells #[.string p1, .string p2] 39)
      have hbl := heap_alloc_new wr (.cells #[.string p1, .string p2] 39)
      have hfa := fun w' (t : Touch [] wr w') => find5_any SA c1 a.length a rfl p1 w' (HRD.out.2.1.touch0 (HT.out.trans0 t)) (by omega)
      have hfb := fun w' (t : Touch [] wr w') => find5_any SB c2 b.length b rfl p2 w' (HRD.out.2.2.touch0 (HT.out.trans0 t)) (by omega)
      have hkn : (k : Int) < (on.length : Int) := by omega
      obtain ⟨W, hW⟩ : ∃ W, W = wr.alloc (.cells #[.string p1, .string p2] 39) := ⟨_, rfl⟩
      rw [← hW] at ta hbl
      have HP : Hid (W.drew.cell? ⟨wr.heap.size, 0, none⟩ = some (.string p1) ∧ W.drew.cell? ⟨wr.heap.size, 1, none⟩ = some (.string p2)) := Lib.hid ⟨(Touch.refl [] W).drew.cell (cell_blk hbl rfl) (by simp), (Touch.refl [] W).drew.cell (cell_blk hbl rfl) (by simp)⟩
      have HW := Lib.hid hW
      have HTa := Lib.hid ta.drew
      obtain ⟨za, hza⟩ : ∃ z, z = placeI a p1 := ⟨_, rfl⟩
      obtain ⟨zb, hzb⟩ : ∃ z, z = placeI b p2 := ⟨_, rfl⟩
      rw [← hza] at hfa
      rw [← hzb] at hfb
      have Hza := Lib.hid hza
      have Hzb := Lib.hid hzb
      have Hfa := Lib.hid fun w' (t : Touch [] W.drew w') => hfa w' (HTa.out.trans0 t)
      have Hfb := Lib.hid fun w' (t : Touch [] W.drew w') => hfb w' (HTa.out.trans0 t)
      have Hst := Lib.hid hst
      clear hfa hfb hst hc hp ta hbl hW hza hzb
      go_wp2_with fail
      rw [← HW.out]
      go_region_held3 (fun w' => w'.cell? ⟨wr.heap.size, 0, none⟩ = some (.string p1) ∧ w'.cell? ⟨wr.heap.size, 1, none⟩ = some (.string p2)) (first | exact HP.out | exact ⟨HTx.out.cell HP.out.1 (by simp), HTx.out.cell HP.out.2 (by simp)⟩ | exact ⟨(HTx.out.trans0 t2).cell HP.out.1 (by simp), (HTx.out.trans0 t2).cell HP.out.2 (by simp)⟩) (first
        | (go_at_call 44; refine (Hfb.out _ HTx.out).mono ?_; rintro e w2 ⟨rfl, t2⟩)
        | (go_at_call 44; refine (Hfa.out _ (Touch.refl _ _)).mono ?_; rintro e w1 ⟨rfl, t1⟩; have HTx := Lib.hid t1; clear t1))
      have HT1 := Lib.hid (HTa.out.trans0 (HTx.out.trans0 t2))
      clear t2
      rcases hpa : placeV a p1 with _ | i
      · obtain rfl : za = -1 := by rw [Hza.out]; unfold placeI; rw [hpa]
        have Hq2 := Lib.hid (show G = (13, []) by rw [HG.out, Hne.out, Hd.out, Hst.out]; unfold typO; rw [hpa]; rfl)
        clear hpa
        go_wp2
        go_ret2
        rw [Hq2.out]
        exact LawPost.err 13 (HT.out.trans0 HT1.out)
      have hil := placeV_lt hpa
      obtain rfl : za = (i : Int) := by rw [Hza.out]; unfold placeI; rw [hpa]
      have hi1 : ((i : Int) < 0) = False := eq_false (by omega)
      rcases hpb : placeV b p2 with _ | j
      · obtain rfl : zb = -1 := by rw [Hzb.out]; unfold placeI; rw [hpb]
        have Hq2 := Lib.hid (show G = (13, []) by rw [HG.out, Hne.out, Hd.out, Hst.out]; unfold typO; rw [hpa, hpb]; rfl)
        clear hpa hpb hil
        go_wp2
        go_ret2
        rw [Hq2.out]
        exact LawPost.err 13 (HT.out.trans0 HT1.out)
      have hjl := placeV_lt hpb
      obtain rfl : zb = (j : Int) := by rw [Hzb.out]; unfold placeI; rw [hpb]
      have hj1 : ((j : Int) < 0) = False := eq_false (by omega)
      obtain ⟨ad2, b2, o2, rfl, hadd2, -, e3⟩ := (HRD.out.2.1.touch0 HT.out).at_ i hil
      obtain ⟨ad3, b3, o3, rfl, hadd3, -, e4⟩ := (HRD.out.2.2.touch0 HT.out).at_ j hjl
      have hts : onL a b (on.drop k) = if a[i].typ = b[j].typ then onL a b (on.drop (k + 1)) else 12 := by
        rw [Hst.out]; unfold typO; rw [hpa, hpb]; simp [hil, hjl]
      obtain ⟨s, hs⟩ : ∃ s, s = a[i].typ := ⟨_, rfl⟩
      obtain ⟨t, ht⟩ : ∃ t, t = b[j].typ := ⟨_, rfl⟩
      rw [← hs] at e3 hts
      rw [← ht] at e4 hts
      have e3' := HT1.out.cell e3 (by simp)
      have e4' := HT1.out.cell e4 (by simp)
      have hi0 : (0 : Int) ≤ (i : Int) := by omega
      have hj0 : (0 : Int) ≤ (j : Int) := by omega
      have hin : (i : Int) < (a.length : Int) := by omega
      have hjn : (j : Int) < (b.length : Int) := by omega
      have HTS := Lib.hid hts
      clear hpa hpb hts hs ht e3 e4 hil hjl
      by_cases hst : s = t
      · subst hst
        have Hn := Lib.hid (show onL a b on = onL a b (on.drop (k + 1)) by rw [Hd.out, HTS.out, if_pos rfl])
        clear HTS
        go_wp2_with fail
        go_quiet (fail)
        go_wp2_with fail
        go_roundw
        case rel => exact ⟨k + 1, by omega, by go_num, Hn, Lib.hid ((HTk.out.trans0 HT1.out).drewN _)⟩
        case measure => simp [intOf]; omega
      · have Hn := Lib.hid (show G = (12, []) by rw [HG.out, Hne.out, Hd.out, HTS.out, if_neg hst]; rfl)
        have hq : (s == t) = false := by rw [beq_eq_false_iff_ne]; exact hst
        have hq' : (s != t) = true := by rw [bne, hq]; rfl
        clear HTS
        go_wp2_with fail
        go_quiet (fail)
        go_wp2_with fail
        go_ret2
        rw [Hn.out]
        exact LawPost.err 12 ((HT.out.trans0 HT1.out).drewN _)
    · obtain rfl : k = on.length := by omega
      have HV := Lib.hid (show V = if on.length = 0 then 20 else 0 by rw [Hv.out, Hd.out, List.drop_length]; rfl)
      have z6 := HTk.out.cell (cell_blk HT0.out.2 (i := 12) (v := .slice OA on.length oc) rfl) (by simp)
      by_cases hz : on.length = 0
      · have Hq := Lib.hid (show G = (20, []) by rw [HG.out, HV.out, if_pos hz]; rfl)
        have hzb : ((on.length : Int) == 0) = true := by rw [hz]; rfl
        clear hz
        go_wp2
        go_ret2
        rw [Hq.out]
        exact LawPost.err 20 HT.out
      · have Hq := Lib.hid (show G = (0, a ++ b) by rw [HG.out, HV.out, if_neg hz]; rfl)
        have hzb : ((on.length : Int) == 0) = false := by rw [beq_eq_false_iff_ne]; omega
        have hA := HRD.out.2.1.touch0 HT.out
        have hB := HRD.out.2.2.touch0 HT.out
        have tb := (Touch.refl [] wr).alloc (.cells #[] 29)
        have HO := Lib.hid (And.intro (OwnK.empty_new 29 2 cdE wr) (And.intro (RdK.touch0 hA tb) tb))
        have HB := Lib.hid hB
        clear hz hA hB tb
        go_wp2_with (at_builtin; refine stop ?_)
        refine go ?_
        refine wpList_appK (enc := cdE) rfl (.tmp 76) (.tmp 77) 24 rfl 29 _ 2 24 info_c5 Tryz.underlying24 rfl (by omega) cdE_length cdE_one (some ⟨wr.heap.size, 0, none⟩) 0 0 [] rfl rfl HO.out.1 SA a.length c1 a rfl rfl HO.out.2.1 (by omega) (by omega) ?_
        intro A3 c3 w3 hown3 ht3 hf3
        have T3 : Touch [] wr w3 := HO.out.2.2.trans ht3 (fun b hb => by simp [fpo] at hb; subst hb; exact .inr (Nat.le_refl _))
        have hn3 : ∀ b ∈ fpo A3, wr.heap.size ≤ b := fun b hb => by
          rcases hf3 b hb with e | e
          · simp [fpo] at e; omega
          · rw [World.size_alloc] at e; omega
        have H3 := Lib.hid (And.intro hown3 (And.intro T3 hn3))
        clear hown3 ht3 hf3 T3 hn3
        go_wp2_with (at_builtin; refine stop ?_)
        refine go ?_
        refine wpList_appK (enc := cdE) rfl (.tmp 78) (.tmp 79) 24 rfl 29 _ 2 24 info_c5 Tryz.underlying24 rfl (by omega) cdE_length cdE_one A3 a.length c3 ([] ++ a) (by simp) rfl H3.out.1 SB b.length c2 b rfl rfl (HB.out.touch0 H3.out.2.1) (by omega) (by omega) ?_
        intro A4 c4 w4 hown4 ht4 hf4
        have H4 := Lib.hid (And.intro hown4 (H3.out.2.1.trans ht4 (fun b hb => .inr (H3.out.2.2 b hb))))
        clear hown4 ht4 hf4
        go_wp2
        go_ret2
        rw [Hq.out]
        exact ⟨⟨A4, (a ++ b).length, c4⟩, by first | rfl | simp, rfl, (by have := H4.out.1.rd; rwa [List.nil_append] at this), HT.out.trans0 H4.out.2⟩

set_option maxRecDepth 40000 in
set_option maxHeartbeats 12800000 in
theorem own_left (x : PC) (hk0 : x.kind = 5) (SA SB : Option Addr) (c1 c2 n2 : Nat) (a : List CD) (hla : a.length ≤ 1000000) (w : World) (ha : ColsAt w SA a) (b : List CD) (hb2 : b.length = n2) (hlb : b.length ≤ 1000000) (hb : ColsAt w SB b) (on : List (ByteArray × ByteArray)) (ho : x.on.n = on.length) (hlo : on.length ≤ 1000000) (hr : RdK prE w x.on.A on) :
    Calls Tryz.prog 32 #[x.val, .slice SA a.length c1, .slice SB n2 c2] w (LawPost (if onV a b on = 0 then (0, a ++ b) else (onV a b on, [])) w) := by
  subst hb2
  have Hv := Lib.hid (show onV a b on = if on.length = 0 then 20 else onL a b on from rfl)
  obtain ⟨V, hV⟩ : ∃ V, V = onV a b on := ⟨_, rfl⟩
  rw [← hV] at Hv ⊢
  clear hV
  obtain ⟨G, hG⟩ : ∃ G, G = (if V = 0 then ((0 : Int), a ++ b) else (V, [])) := ⟨_, rfl⟩
  rw [← hG]
  have HG := Lib.hid hG
  clear hG
  have HRD := Lib.hid (And.intro hr (And.intro ha hb))
  obtain ⟨k0, k1, ⟨A2, n2, c2'⟩, ⟨⟨ck, cn, ⟨cvk, cvn, cvt⟩, cop⟩, CA, cnn, cc⟩, ⟨NA, nn, nc⟩, ⟨EA, en, ec⟩, ⟨OA, ol, oc⟩, ⟨GA, gn, gc⟩, ⟨BA, bn, bc⟩, count⟩ := x
  dsimp only at hk0 ho HRD
  subst hk0 ho
  simp only [PC.val] at *
  have ta := (Touch.refl [] w).alloc (.cells #[.int .i64 5, .string k1, .slice A2 n2 c2', .int .i64 ck, .string cn, .int .i64 cvk, .int .i64 cvn, .string cvt, .string cop, .slice CA cnn cc, .slice NA nn nc, .slice EA en ec, .slice OA on.length oc, .slice GA gn gc, .slice BA bn bc, .int .i64 count] 49)
  have hbx := heap_alloc_new w (.cells #[.int .i64 5, .string k1, .slice A2 n2 c2', .int .i64 ck, .string cn, .int .i64 cvk, .int .i64 cvn, .string cvt, .string cop, .slice CA cnn cc, .slice NA nn nc, .slice EA en ec, .slice OA on.length oc, .slice GA gn gc, .slice BA bn bc, .int .i64 count] 49)
  have HT0 := Lib.hid (And.intro ta hbx)
  clear ta hbx hr ha hb
  go_enter Tryz.func32, Tryz.ntmps32
  go_wp2_with fail
  go_loopw [42] (fun i wr => ∃ k : Nat, k ≤ on.length ∧ i = .int .i64 k ∧ Hid (onL a b on = onL a b (on.drop k)) ∧ Hid (Touch [] (w.alloc (.cells #[.int .i64 5, .string k1, .slice A2 n2 c2', .int .i64 ck, .string cn, .int .i64 cvk, .int .i64 cvn, .string cvt, .string cop, .slice CA cnn cc, .slice NA nn nc, .slice EA en ec, .slice OA on.length oc, .slice GA gn gc, .slice BA bn bc, .int .i64 count] 49)) wr)) (fun i _ => on.length - (intOf i).toNat)
  case atStart => exact ⟨0, by omega, rfl, Lib.hid (by rw [List.drop_zero]), Lib.hid (Touch.refl _ _)⟩
  case round =>
    obtain ⟨k, hk, rfl, Hd, HTk⟩ := hrel
    have HT := Lib.hid (HT0.out.1.trans0 HTk.out)
    by_cases hlt : k < on.length
    · have Hne := Lib.hid (show V = onL a b on by rw [Hv.out, if_neg (by omega)])
      obtain ⟨ad, b1, o1, rfl, hadd, hc⟩ := RdK.cells (HRD.out.1.touch0 HT.out) 2 prE_length (by omega) k hlt
      have hst := onL_step a b on k hlt
      obtain ⟨p, hp⟩ : ∃ p, p = on[k] := ⟨_, rfl⟩
      rw [← hp] at hc hst
      obtain ⟨p1, p2⟩ := p
      have e0 := hc 0 _ rfl
      have e1 := hc 1 _ rfl
      rw [Nat.add_zero] at e0
      have ta := (Touch.refl [] wr).alloc (.cells #[.string p1, .string p2] 39)
      have hbl := heap_alloc_new wr (.cells #[.string p1, .string p2] 39)
      have hfa := fun w' (t : Touch [] wr w') => find5_any SA c1 a.length a rfl p1 w' (HRD.out.2.1.touch0 (HT.out.trans0 t)) (by omega)
      have hfb := fun w' (t : Touch [] wr w') => find5_any SB c2 b.length b rfl p2 w' (HRD.out.2.2.touch0 (HT.out.trans0 t)) (by omega)
      have hkn : (k : Int) < (on.length : Int) := by omega
      obtain ⟨W, hW⟩ : ∃ W, W = wr.alloc (.cells #[.string p1, .string p2] 39) := ⟨_, rfl⟩
      rw [← hW] at ta hbl
      have HP : Hid (W.drew.cell? ⟨wr.heap.size, 0, none⟩ = some (.string p1) ∧ W.drew.cell? ⟨wr.heap.size, 1, none⟩ = some (.string p2)) := Lib.hid ⟨(Touch.refl [] W).drew.cell (cell_blk hbl rfl) (by simp), (Touch.refl [] W).drew.cell (cell_blk hbl rfl) (by simp)⟩
      have HW := Lib.hid hW
      have HTa := Lib.hid ta.drew
      obtain ⟨za, hza⟩ : ∃ z, z = placeI a p1 := ⟨_, rfl⟩
      obtain ⟨zb, hzb⟩ : ∃ z, z = placeI b p2 := ⟨_, rfl⟩
      rw [← hza] at hfa
      rw [← hzb] at hfb
      have Hza := Lib.hid hza
      have Hzb := Lib.hid hzb
      have Hfa := Lib.hid fun w' (t : Touch [] W.drew w') => hfa w' (HTa.out.trans0 t)
      have Hfb := Lib.hid fun w' (t : Touch [] W.drew w') => hfb w' (HTa.out.trans0 t)
      have Hst := Lib.hid hst
      clear hfa hfb hst hc hp ta hbl hW hza hzb
      go_wp2_with fail
      rw [← HW.out]
      go_region_held3 (fun w' => w'.cell? ⟨wr.heap.size, 0, none⟩ = some (.string p1) ∧ w'.cell? ⟨wr.heap.size, 1, none⟩ = some (.string p2)) (first | exact HP.out | exact ⟨HTx.out.cell HP.out.1 (by simp), HTx.out.cell HP.out.2 (by simp)⟩ | exact ⟨(HTx.out.trans0 t2).cell HP.out.1 (by simp), (HTx.out.trans0 t2).cell HP.out.2 (by simp)⟩) (first
        | (go_at_call 44; refine (Hfb.out _ HTx.out).mono ?_; rintro e w2 ⟨rfl, t2⟩)
        | (go_at_call 44; refine (Hfa.out _ (Touch.refl _ _)).mono ?_; rintro e w1 ⟨rfl, t1⟩; have HTx := Lib.hid t1; clear t1))
      have HT1 := Lib.hid (HTa.out.trans0 (HTx.out.trans0 t2))
      clear t2
      rcases hpa : placeV a p1 with _ | i
      · obtain rfl : za = -1 := by rw [Hza.out]; unfold placeI; rw [hpa]
        have Hq2 := Lib.hid (show G = (13, []) by rw [HG.out, Hne.out, Hd.out, Hst.out]; unfold typO; rw [hpa]; rfl)
        clear hpa
        go_wp2
        go_ret2
        rw [Hq2.out]
        exact LawPost.err 13 (HT.out.trans0 HT1.out)
      have hil := placeV_lt hpa
      obtain rfl : za = (i : Int) := by rw [Hza.out]; unfold placeI; rw [hpa]
      have hi1 : ((i : Int) < 0) = False := eq_false (by omega)
      rcases hpb : placeV b p2 with _ | j
      · obtain rfl : zb = -1 := by rw [Hzb.out]; unfold placeI; rw [hpb]
        have Hq2 := Lib.hid (show G = (13, []) by rw [HG.out, Hne.out, Hd.out, Hst.out]; unfold typO; rw [hpa, hpb]; rfl)
        clear hpa hpb hil
        go_wp2
        go_ret2
        rw [Hq2.out]
        exact LawPost.err 13 (HT.out.trans0 HT1.out)
      have hjl := placeV_lt hpb
      obtain rfl : zb = (j : Int) := by rw [Hzb.out]; unfold placeI; rw [hpb]
      have hj1 : ((j : Int) < 0) = False := eq_false (by omega)
      obtain ⟨ad2, b2, o2, rfl, hadd2, -, e3⟩ := (HRD.out.2.1.touch0 HT.out).at_ i hil
      obtain ⟨ad3, b3, o3, rfl, hadd3, -, e4⟩ := (HRD.out.2.2.touch0 HT.out).at_ j hjl
      have hts : onL a b (on.drop k) = if a[i].typ = b[j].typ then onL a b (on.drop (k + 1)) else 12 := by
        rw [Hst.out]; unfold typO; rw [hpa, hpb]; simp [hil, hjl]
      obtain ⟨s, hs⟩ : ∃ s, s = a[i].typ := ⟨_, rfl⟩
      obtain ⟨t, ht⟩ : ∃ t, t = b[j].typ := ⟨_, rfl⟩
      rw [← hs] at e3 hts
      rw [← ht] at e4 hts
      have e3' := HT1.out.cell e3 (by simp)
      have e4' := HT1.out.cell e4 (by simp)
      have hi0 : (0 : Int) ≤ (i : Int) := by omega
      have hj0 : (0 : Int) ≤ (j : Int) := by omega
      have hin : (i : Int) < (a.length : Int) := by omega
      have hjn : (j : Int) < (b.length : Int) := by omega
      have HTS := Lib.hid hts
      clear hpa hpb hts hs ht e3 e4 hil hjl
      by_cases hst : s = t
      · subst hst
        have Hn := Lib.hid (show onL a b on = onL a b (on.drop (k + 1)) by rw [Hd.out, HTS.out, if_pos rfl])
        clear HTS
        go_wp2_with fail
        go_quiet (fail)
        go_wp2_with fail
        go_roundw
        case rel => exact ⟨k + 1, by omega, by go_num, Hn, Lib.hid ((HTk.out.trans0 HT1.out).drewN _)⟩
        case measure => simp [intOf]; omega
      · have Hn := Lib.hid (show G = (12, []) by rw [HG.out, Hne.out, Hd.out, HTS.out, if_neg hst]; rfl)
        have hq : (s == t) = false := by rw [beq_eq_false_iff_ne]; exact hst
        have hq' : (s != t) = true := by rw [bne, hq]; rfl
        clear HTS
        go_wp2_with fail
        go_quiet (fail)
        go_wp2_with fail
        go_ret2
        rw [Hn.out]
        exact LawPost.err 12 ((HT.out.trans0 HT1.out).drewN _)
    · obtain rfl : k = on.length := by omega
      have HV := Lib.hid (show V = if on.length = 0 then 20 else 0 by rw [Hv.out, Hd.out, List.drop_length]; rfl)
      have z6 := HTk.out.cell (cell_blk HT0.out.2 (i := 12) (v := .slice OA on.length oc) rfl) (by simp)
      by_cases hz : on.length = 0
      · have Hq := Lib.hid (show G = (20, []) by rw [HG.out, HV.out, if_pos hz]; rfl)
        have hzb : ((on.length : Int) == 0) = true := by rw [hz]; rfl
        clear hz
        go_wp2
        go_ret2
        rw [Hq.out]
        exact LawPost.err 20 HT.out
      · have Hq := Lib.hid (show G = (0, a ++ b) by rw [HG.out, HV.out, if_neg hz]; rfl)
        have hzb : ((on.length : Int) == 0) = false := by rw [beq_eq_false_iff_ne]; omega
        have hA := HRD.out.2.1.touch0 HT.out
        have hB := HRD.out.2.2.touch0 HT.out
        have tb := (Touch.refl [] wr).alloc (.cells #[] 29)
        have HO := Lib.hid (And.intro (OwnK.empty_new 29 2 cdE wr) (And.intro (RdK.touch0 hA tb) tb))
        have HB := Lib.hid hB
        clear hz hA hB tb
        go_wp2_with (at_builtin; refine stop ?_)
        refine go ?_
        refine wpList_appK (enc := cdE) rfl (.tmp 76) (.tmp 77) 24 rfl 29 _ 2 24 info_c5 Tryz.underlying24 rfl (by omega) cdE_length cdE_one (some ⟨wr.heap.size, 0, none⟩) 0 0 [] rfl rfl HO.out.1 SA a.length c1 a rfl rfl HO.out.2.1 (by omega) (by omega) ?_
        intro A3 c3 w3 hown3 ht3 hf3
        have T3 : Touch [] wr w3 := HO.out.2.2.trans ht3 (fun b hb => by simp [fpo] at hb; subst hb; exact .inr (Nat.le_refl _))
        have hn3 : ∀ b ∈ fpo A3, wr.heap.size ≤ b := fun b hb => by
          rcases hf3 b hb with e | e
          · simp [fpo] at e; omega
          · rw [World.size_alloc] at e; omega
        have H3 := Lib.hid (And.intro hown3 (And.intro T3 hn3))
        clear hown3 ht3 hf3 T3 hn3
        go_wp2_with (at_builtin; refine stop ?_)
        refine go ?_
        refine wpList_appK (enc := cdE) rfl (.tmp 78) (.tmp 79) 24 rfl 29 _ 2 24 info_c5 Tryz.underlying24 rfl (by omega) cdE_length cdE_one A3 a.length c3 ([] ++ a) (by simp) rfl H3.out.1 SB b.length c2 b rfl rfl (HB.out.touch0 H3.out.2.1) (by omega) (by omega) ?_
        intro A4 c4 w4 hown4 ht4 hf4
        have H4 := Lib.hid (And.intro hown4 (H3.out.2.1.trans ht4 (fun b hb => .inr (H3.out.2.2 b hb))))
        clear hown4 ht4 hf4
        go_wp2
        go_ret2
        rw [Hq.out]
        exact ⟨⟨A4, (a ++ b).length, c4⟩, by first | rfl | simp, rfl, (by have := H4.out.1.rd; rwa [List.nil_append] at this), HT.out.trans0 H4.out.2⟩

end Go.Proofs.YtafoklilkdnepaaGreatDoor

/- bywashlaw05.own, typed: what the law tells of a plan over two sources' tables. -/
namespace Go.Proofs.YtafoklilkdnepaaGreatDoor
open Go.RowKit

theorem law_ok {m : Nat} (d : PD m) (a b : List CD) (h : (∀ c ∈ (kindV d a b).2, c.Ok) ∧ (kindV d a b).2.length ≤ 1000) (h2 : 2 ≤ d.kind) (h9 : d.kind ≤ 9) : (∀ c ∈ (lawV d a b).2, c.Ok) ∧ (lawV d a b).2.length ≤ 1000 := by
  unfold lawV
  split
  · rename_i q
    have hk : kindV d a b = (onV a b d.on, a ++ b) := by unfold kindV; rw [if_neg (by omega), if_neg (by omega), if_pos q]
    rw [hk] at h
    split
    · exact h
    · exact ⟨by simp, by simp⟩
  · split
    · have hk : kindV d a b = (byV a d.by_ d.count, a) := by unfold kindV; rw [if_neg (by omega), if_neg (by omega), if_neg (by omega), if_neg (by omega), if_neg (by omega), if_neg (by omega)]
      rw [hk] at h
      split
      · exact h
      · exact ⟨by simp, by simp⟩
    · exact h
/-- the law's schema of each kind -/
theorem lawC {m : Nat} (d : PD m) (hd : d.Fine) (x : PC) (a b : List CD) (hao : ∀ c ∈ a, c.Ok) (hla : a.length ≤ 16) (hlb : b.length ≤ 16) (h2 : 2 ≤ d.kind) (h9 : d.kind ≤ 9) (SA SB : Option Addr) (c1 c2 : Nat) (w : World) (ha : ColsAt w SA a) (hb : ColsAt w SB b) (h : PlanAt w x d) :
    Calls Tryz.prog 32 #[x.val, .slice SA a.length c1, .slice SB b.length c2] w (LawPost (lawV d a b) w) := by
  have hk := h.kind
  have hs := hd.sm
  have : d.kind = 2 ∨ d.kind = 3 ∨ d.kind = 4 ∨ d.kind = 5 ∨ d.kind = 6 ∨ d.kind = 7 ∨ d.kind = 8 ∨ d.kind = 9 := by omega
  unfold lawV kindV
  rcases this with q | q | q | q | q | q | q | q <;> rw [q] at hk ⊢ <;> simp (config := { decide := true }) only [if_true, if_false, or_true, true_or]
  · exact own_where x hk SA SB c1 c2 _ a (by omega) w ha _ ((ets_of hd hao hla hd.c hs.c h.cond).at_ (Touch.refl _ _) ha c1)
  · obtain ⟨xs, e1, e2, e3⟩ := h.exprs
    refine own_keep x hk SA SB c1 c2 _ a (by omega) w ha d.names xs (d.exprs.map (typeX a m)) h.nn (by rw [h.en, e1]) (by rw [List.length_map, e1]) (by have := hs.n; omega) (by have := hs.e; omega) h.names e2 fun i i1 i2 => ?_
    rw [List.getElem_map]
    have i3 : i < d.exprs.length := by omega
    exact (ets_of hd hao hla (hd.x _ (List.getElem_mem i3)) (hs.x _ (List.getElem_mem i3)) (e3 i i1 i3)).at_ (Touch.refl _ _) ha c1
  · exact own_join x hk SA SB c1 c2 _ a (by omega) w ha b rfl (by omega) hb d.on h.on' (by have := hs.o; omega) h.on
  · exact own_left x hk SA SB c1 c2 _ a (by omega) w ha b rfl (by omega) hb d.on h.on' (by have := hs.o; omega) h.on
  · exact own_group x hk SA SB c1 c2 _ a (by omega) w ha d.names d.aggs h.nn h.an (by have := hs.n; omega) (by have := hs.a; omega) h.names h.aggs
  · exact own_union x hk SA SB c1 c2 _ a (by omega) w ha b rfl (by omega) hb
  · exact own_distinct x hk SA SB c1 c2 _ a (by omega) w ha
  · rw [← h.count]
    exact own_first x hk SA SB c1 c2 _ a (by omega) w ha d.by_ h.bn (by have := hs.b; omega) h.by_
/-- the law's schema of a plan over two sources: the program's -/
theorem law5C {m : Nat} (d : PD m) (hd : d.Fine) (x : PC) (a : List CD) (ra : List (List VD)) (b : List CD) (rb : List (List VD)) (ta : TbOk a ra) (tb : TbOk b rb) (w : World) (h : PlanAt w x d) (h1 : d.kind = 1 → d.name ≠ ⟨#[120]⟩ ∧ d.name ≠ ⟨#[121]⟩)
    (sx rx sy ry : SL) (hx : TabAt w sx rx a ra) (hy : TabAt w sy ry b rb) : Calls Tryz.prog 17 #[x.val, .agg #[.slice sx.A sx.n sx.c, .slice rx.A rx.n rx.c], .agg #[.slice sy.A sy.n sy.c, .slice ry.A ry.n ry.c]] w (LawPost (progT d a ra b rb) w) := by
  rw [← law_type d a ra b rb h1, ← h.kind, hx.n, hx.m, hy.n, hy.m]
  have hkk := h.kind
  by_cases hk : 2 ≤ d.kind ∧ d.kind ≤ 9
  · have hko := law_ok d a b (kind_ok d a b ta.n tb.n ta.c tb.c hd.x hd.n (fun p hp => (hd.a p hp).2.2) hd.sm.n hd.sm.a hd.sm.e) hk.1 hk.2
    exact typed5_any x sx.A sy.A sx.c sy.c a b (by have := ta.n; omega) (by have := tb.n; omega) ta.cols tb.cols rx.A ry.A rx.c ry.c ra rb (by have := ta.m; omega) (by have := tb.m; omega) ta.rok tb.rok ta.rle tb.rle w hx.cols hy.cols hx.rws hy.rws _
      (fun _ _ _ _ w' t => lawC d hd x a b ta.cols ta.n tb.n hk.1 hk.2 sx.A sy.A sx.c sy.c w' (hx.cols.touch0 t) (hy.cols.touch0 t) (h.touch0 t)) hko.1 (by have := hko.2; omega)
  · have he : typed5V x.kind (rightV a ra) (rightV b rb) (lawV d a b) = typed5V x.kind (rightV a ra) (rightV b rb) (0, []) := by
      unfold typed5V
      have hc : x.kind < 2 ∨ 9 < x.kind := by omega
      rw [if_pos hc, if_pos hc]
    rw [he]
    exact typed5_any x sx.A sy.A sx.c sy.c a b (by have := ta.n; omega) (by have := tb.n; omega) ta.cols tb.cols rx.A ry.A rx.c ry.c ra rb (by have := ta.m; omega) (by have := tb.m; omega) ta.rok tb.rok ta.rle tb.rle w hx.cols hy.cols hx.rws hy.rws _
      (fun q1 q2 _ _ w' t => (hk ⟨hkk ▸ q1, hkk ▸ q2⟩).elim) (by simp) (by simp)
end Go.Proofs.YtafoklilkdnepaaGreatDoor

/- A region that draws its order, walked by hand under a condition on the world that holds UNTIL a last operation (a store) comes up. No program's function. -/
namespace Go.Proofs.YtafoklilkdnepaaGreatDoor
open Go.RowKit

section
variable {P : Program} {ops : Array Oper} {Q : Exit → Act → World → Prop} {md : Region.Mode} {S : World → Prop} {m : Nat}
def wpAnyU (P : Program) (md : Region.Mode) (ops : Array Oper) (Q : Exit → Act → World → Prop) (S : World → Prop) (m : Nat) : Nat → Array Bool → Act → World → Prop
  | 0, listed, a, w => Region.ready md ops listed = [] ∧ Q .normal a w
  | fuel + 1, listed, a, w =>
    (Region.ready md ops listed = [] → Q .normal a w) ∧
    ∀ i ∈ Region.ready md ops listed, wpOp P ops Q i (fun a' w' => ((listed.setIfInBounds i true).getD m true = false → S w') ∧ wpAnyU P md ops Q S m fuel (listed.setIfInBounds i true) a' w') a w
theorem wpAny_of_until : ∀ (fuel : Nat) (listed : Array Bool) (a : Act) (w : World), wpAnyU P md ops Q S m fuel listed a w → wpAny P md ops Q fuel listed a w
  | 0, _, _, _, h => h
  | fuel + 1, _, _, _, h => ⟨h.1, fun i hi => wpOp_mono (fun a' w' h' => wpAny_of_until fuel _ a' w' h'.2) (h.2 i hi)⟩
theorem wpAnyU_first {i : Nat} {oi om : Oper} {v : Value} (hi : ops[i]? = some oi) (hsel : ∀ (j : Nat) (o : Oper) cs b, ops[j]? = some o → o.op ≠ .select cs b)
    (hQ : ∀ c a w, Q (.panic c) (a.put oi.dst v) w → Q (.panic c) a w) (hmi : m ≠ i) (hom : ops[m]? = some om) (hwait : ∃ e ∈ om.after, Region.binds md e = true ∧ e.on = i) :
    ∀ (fuel : Nat) (listed : Array Bool) (a : Act) (w : World), listed.getD m true = false →
      (∀ j oj, ops[j]? = some oj → j ≠ i → listed.getD j true = false → (∀ e ∈ oj.after, Region.binds md e = true → e.on ≠ i) → oi.apart ops oj = true) →
      i ∈ Region.ready md ops listed → YieldsIf P ops S oi v a → S w →
      wpAnyU P md ops Q S m fuel (listed.setIfInBounds i true) (a.put oi.dst v) w → wpAnyU P md ops Q S m (fuel + 1) listed a w := by
  intro fuel
  induction fuel with
  | zero =>
    intro listed a w _ _ hr hy hS H
    refine ⟨fun h => (by rw [h] at hr; cases hr), fun j hj => ?_⟩
    by_cases hji : j = i
    · subst hji; exact hy.wpOp hi hS ⟨fun _ => hS, H⟩
    · have := ready_mono hj hji
      rw [H.1] at this
      cases this
  | succ fuel ih =>
    intro listed a w hml hfree hr hy hS H
    refine ⟨fun h => (by rw [h] at hr; cases hr), fun j hj => ?_⟩
    by_cases hji : j = i
    · subst hji; exact hy.wpOp hi hS ⟨fun _ => hS, H⟩
    · have h1 := H.2 j (ready_mono hj hji)
      obtain ⟨hjun, oj, hoj, hall⟩ := mem_ready.1 hj
      have hnot : ∀ e ∈ oj.after, Region.binds md e = true → e.on ≠ i := fun e he hb heq => by
        have h1 := hall e he hb
        have h0 := (mem_ready.1 hr).1
        rw [heq] at h1
        rcases Nat.lt_or_ge i listed.size with h' | h'
        · simp [h'] at h0 h1; rw [h0] at h1; cases h1
        · simp [Array.getElem?_eq_none h'] at h1
      have hjm : j ≠ m := fun e => by
        subst e
        rw [hoj] at hom
        injection hom with hom
        subst hom
        obtain ⟨e, he, hb, heq⟩ := hwait
        exact hnot e he hb heq
      have hml' : (listed.setIfInBounds j true).getD m true = false := by rw [getD_set_ne true hjm]; exact hml
      have hml2 : ((listed.setIfInBounds i true).setIfInBounds j true).getD m true = false := by rw [getD_set_ne true hjm, getD_set_ne true (Ne.symm hmi)]; exact hml
      have h2 := wpOp_putIf hoj (hfree j oj hoj hji hjun hnot) (fun cs b => hsel i oi cs b hi) (fun cs b => hsel j oj cs b hoj) hQ hy h1
      have hfree' : ∀ k ok, ops[k]? = some ok → k ≠ i → (listed.setIfInBounds j true).getD k true = false →
          (∀ e ∈ ok.after, Region.binds md e = true → e.on ≠ i) → oi.apart ops ok = true := fun k ok hk hki hun hno => by
        refine hfree k ok hk hki ?_ hno
        by_cases hjk : j = k
        · subst hjk; exact hjun
        · rw [getD_set_ne true hjk] at hun; exact hun
      refine wpOp_mono (fun a' w' h3 => ⟨fun _ => h3.2.1 hml2, ih (listed.setIfInBounds j true) a' w' hml' hfree' (ready_mono hr (Ne.symm hji)) h3.1 (h3.2.1 hml2) ?_⟩) h2
      rw [Array.setIfInBounds_comm _ _ hji]
      exact h3.2.2
/-- take number i first, its temporary told by its number -/
theorem takeU {i d : Nat} {oi om : Oper} {v : Value} {fuel : Nat} {listed : Array Bool} {a : Act} {w : World} (hi : ops[i]? = some oi) (hd : oi.dst = some d)
    (hs : Region.noSelect ops = true) (hf : Region.free md ops listed i = true) (hr : (Region.ready md ops listed).contains i = true)
    (hQ : ∀ c a w, Q (.panic c) (a.put oi.dst v) w → Q (.panic c) a w) (hmi : m ≠ i) (hom : ops[m]? = some om) (hwait : (om.after.any fun e => Region.binds md e && e.on == i) = true) (hml : listed.getD m true = false) (hy : YieldsIf P ops S oi v a) (hS : S w)
    (h : wpAnyU P md ops Q S m fuel (listed.setIfInBounds i true) (a.put (some d) v) w) : wpAnyU P md ops Q S m (fuel + 1) listed a w := by
  refine wpAnyU_first hi (Region.noSelect_spec hs) hQ hmi hom ?_ fuel listed a w hml (Region.free_spec hi hf) (by simpa using hr) hy hS (by rw [hd]; exact h)
  obtain ⟨k, hk, hb⟩ := Array.any_eq_true.1 hwait
  simp only [Bool.and_eq_true, beq_iff_eq] at hb
  exact ⟨_, Array.getElem_mem _, hb.1, hb.2⟩
/-- one operation alone may come up -/
theorem oneU {i : Nat} {oi : Oper} {fuel : Nat} {listed : Array Bool} {a : Act} {w : World} (hr : Region.ready md ops listed = [i]) (hi : ops[i]? = some oi)
    (h : ∀ K : Act → World → Prop, (∀ a' w', ((listed.setIfInBounds i true).getD m true = false → S w') → wpAnyU P md ops Q S m fuel (listed.setIfInBounds i true) a' w' → K a' w') → if Region.wanted oi (yielded ops a.tmps) = true then Oper.wp P oi a w K Q else K (a.put oi.dst undef) w) : wpAnyU P md ops Q S m (fuel + 1) listed a w := by
  refine ⟨fun h0 => absurd (hr ▸ h0) (by simp), fun j hj => ?_⟩
  rw [hr] at hj
  obtain rfl : j = i := by simpa using hj
  have h1 := h (fun a' w' => ((listed.setIfInBounds j true).getD m true = false → S w') ∧ wpAnyU P md ops Q S m fuel (listed.setIfInBounds j true) a' w') (fun a' w' h1 h2 => ⟨h1, h2⟩)
  unfold wpOp
  simp only [hi]
  split
  · rename_i hw
    rw [if_pos hw] at h1
    exact .inl h1
  · rename_i hw
    rw [if_neg hw] at h1
    exact h1
theorem doneU {listed : Array Bool} {a : Act} {w : World} (hr : Region.ready md ops listed = []) (h : Q .normal a w) : ∀ fuel, wpAnyU P md ops Q S m fuel listed a w
  | 0 => ⟨hr, h⟩
  | _ + 1 => ⟨fun _ => h, by rw [hr]; simp⟩
theorem wp_region_until (m : Nat) (S : World → Prop) {id : Nat} {a : Act} {w : World} (hm : P.follows .mixedOrders = true)
    (h : wpAnyU P .any ops Q S m ops.size (Array.replicate ops.size false) a w.drew) : (Code.region id ops true).wp P Q a w :=
  wp_region_any hm (wpAny_of_until _ _ _ _ h)
end
end Go.Proofs.YtafoklilkdnepaaGreatDoor
