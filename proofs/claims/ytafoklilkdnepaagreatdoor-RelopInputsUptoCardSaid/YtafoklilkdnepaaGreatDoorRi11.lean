/- Part 11 of the texts of this proof, one behind the other. No condition beyond those that its theorems state. -/
import Derived.Test.YtafoklilkdnepaaGreatDoorRi10
import Derived.Deep.RegionHeld3
set_option maxRecDepth 40000
set_option maxHeartbeats 25600000
namespace Go.Proofs.YtafoklilkdnepaaGreatDoor
section
open Go.RowKit Go.Maps Go.ChangeMaps
theorem wpList_here {P:Program} {ops:Array Oper} {Q:Exit->Act->World->Prop} {rest:List Oper} {a:Act} {w:World} (h:∀ W,W=w->wpList P ops Q rest a W):wpList P ops Q rest a w:=h w rfl
theorem of_rows (op col nm:ByteArray) (h5:col.toList.isEmpty=true) (SA:Option Addr) (n c:Nat) (RA:Option Addr) (m rc:Nat) (_hm:m<=1000000) (w:World) :
  Calls Tryz.prog 139 #[.agg #[.string op,.string col,.string nm],.slice SA n c,.slice RA m rc] w fun e w'=>e=.returned (.tuple #[.agg #[.int .i64 1,.int .i64 m,.string ⟨#[]⟩],.int .i64 0])/\Touch [] w w':=by
 have t0:=((Touch.refl [] w).alloc (.cells #[.string op,.string col,.string nm] 79)).alloc (.cells #[.int .i64 0,.int .i64 0,.string ⟨#[]⟩] 31)
 have hr:=heap_alloc_new (w.alloc (.cells #[.string op,.string col,.string nm] 79)) (.cells #[.int .i64 0,.int .i64 0,.string ⟨#[]⟩] 31)
 rw [World.size_alloc] at hr
 have HR:=lh (And.intro t0 hr)
 have Hof:=lh fun w'=>of_num m w'
 clear t0 hr
 go_enter Tryz.func139,Tryz.ntmps139
 go_wp2_with fail
 refine (Hof.out _).mono ?_
 rintro e w1 ⟨rfl,t1⟩
 have hr1:=t1.blk HR.out.2 (by simp)
 obtain ⟨z0,z1,z2,y0,y1,y2⟩:=blk3 hr1
 have HT:=lh (And.intro (HR.out.1.trans0 t1) hr1)
 clear hr1 t1
 go_wp2_with fail
 refine bodyPost_ret (results_cell_two rfl _ _ (w.heap.size+1) _ _ _ _ rfl (set3 HT.out.2 rfl _ _ _) Tryz.underlying31 rfl rfl) rfl ⟨rfl,HT.out.1.trans (touch3 _ _ _ _ _) (fun b hb=>.inr (by simp at hb;omega))⟩
theorem inR_one (A:Option Addr) (c:Nat) (fv:Value) (w:World):Calls Tryz.prog 177 #[.slice A 1 c,.int .i64 0,.int .i64 1,fv] w fun e w'=>e=.returned (.tuple #[])/\w'=w:=by
 go_enter Tryz.func177,Tryz.ntmps177
 go_wp2_with fail
 go_loop [8] (fun y=>y=.int .i64 1) (fun _=>0)
 case atStart=>rfl
 case round =>
  obtain rfl:=hrel
  go_wp2
  go_end0
  exact ⟨rfl,rfl⟩
theorem pdqR_one (A:Option Addr) (c:Nat) (lim:Int) (fv:Value) (w:World):Calls Tryz.prog 172 #[.slice A 1 c,.int .i64 0,.int .i64 1,.int .i64 lim,fv] w fun e w'=>e=.returned (.tuple #[])/\w'=w:=by
 have Hi:=lh (inR_one A c fv)
 go_enter Tryz.func172,Tryz.ntmps172
 go_wp2_with fail
 refine wp_loop_rounds 1 ?_
 rw [rounds_succ]
 go_wp2_with fail
 refine (Hi.out _).mono ?_
 rintro e w1 ⟨rfl,hw⟩
 have HW:=lh hw
 clear hw
 go_wp2_with fail
 refine bodyPost_ret (results_none rfl _ _ _) rfl ?_
 exact ⟨rfl,HW.out⟩
theorem sortFR_one (A:Option Addr) (c:Nat) (fv:Value) (w:World):Calls Tryz.prog 138 #[.slice A 1 c,fv] w fun e w'=>e=.returned (.tuple #[])/\w'=w:=by
 have Hi:=lh fun lim w'=>pdqR_one A c lim fv w'
 have Hb:=lh fun w'=>Tryz.bits_Len 1 w' (by omega) (by omega)
 go_enter Tryz.func138,Tryz.ntmps138
 go_wp2_with fail
 refine (Hb.out _).mono ?_
 rintro e w1 ⟨rfl,hw⟩
 have HW:=lh hw
 clear hw
 go_wp2_with fail
 refine (Hi.out _ _).mono ?_
 rintro e w2 ⟨rfl,hw⟩
 have HW2:=lh hw
 clear hw
 go_wp2_with fail
 go_end0
 exact ⟨rfl,by rw [HW2.out,HW.out]⟩
theorem group_zero (x:PC) (h1:x.names.n=0) (h2:x.aggs.n=1) (op nm:ByteArray) (sa ra:SL) (cs:List CD) (hsn:sa.n=cs.length) (hl:cs.length<=1000000) (hrn:ra.n=0) (w:World) (hg:RdK agE w x.aggs.A [⟨op,⟨#[]⟩,nm⟩]) (hcs:ColsAt w sa.A cs) :
  Calls Tryz.prog 97 #[x.val,.agg #[.slice sa.A sa.n sa.c,.slice ra.A ra.n ra.c]] w fun e w'=>∃ B c,e=.returned (.tuple #[.slice B 1 c,.int .i64 0])/\RowsAt w' B [[⟨1,0,⟨#[]⟩⟩]]/\Touch [] w w':=by
 obtain ⟨SA,sn,sc⟩:=sa
 obtain ⟨RA,rn,rc⟩:=ra
 obtain ⟨k0,k1,⟨A2,n2,c2'⟩,⟨⟨ck,cn,⟨cvk,cvn,cvt⟩,cop⟩,CA,cnn,cc⟩,⟨NA,nn,nc⟩,⟨EA,en,ec⟩,⟨OA,ol,oc⟩,⟨GA,gn,gc⟩,⟨BA,bn,bc⟩,count⟩:=x
 dsimp only at h1 h2 hsn hrn hg hcs ⊢
 simp only [PC.val]
 subst h1 h2 hrn
 obtain ⟨ad,gb,go_,rfl,hadd,hc⟩:=RdK.cells hg 3 agE_length (by omega) 0 (by simp)
 rw [Nat.zero_mul] at hadd
 have e0:=hc 0 _ rfl
 have e1:=hc 1 _ rfl
 have e2:=hc 2 _ rfl
 simp only [List.getElem_cons_zero,Nat.add_zero] at e0 e1 e2
 obtain ⟨W,hW⟩:∃ W,W=(w.alloc (.cells #[.int .i64 k0,.string k1,.slice A2 n2 c2',.int .i64 ck,.string cn,.int .i64 cvk,.int .i64 cvn,.string cvt,.string cop,.slice CA cnn cc,.slice NA 0 nc,.slice EA en ec,.slice OA ol oc,.slice (some ad) 1 gc,.slice BA bn bc,.int .i64 count] 49)).alloc (.cells #[.slice SA sn sc,.slice RA 0 rc] 27):=⟨_,rfl⟩
 have t0:Touch [] w W:=hW ▸ ((Touch.refl [] w).alloc _).alloc _
 have hbp:=hW ▸ ((Touch.refl [] (w.alloc (.cells #[.int .i64 k0,.string k1,.slice A2 n2 c2',.int .i64 ck,.string cn,.int .i64 cvk,.int .i64 cvn,.string cvt,.string cop,.slice CA cnn cc,.slice NA 0 nc,.slice EA en ec,.slice OA ol oc,.slice (some ad) 1 gc,.slice BA bn bc,.int .i64 count] 49))).alloc (.cells #[.slice SA sn sc,.slice RA 0 rc] 27)).blk (heap_alloc_new w _) (by simp)
 have hbt:W.heap[w.heap.size+1]?=some (.cells #[.slice SA sn sc,.slice RA 0 rc] 27 (0,0)):=by
  have:=heap_alloc_new (w.alloc (.cells #[.int .i64 k0,.string k1,.slice A2 n2 c2',.int .i64 ck,.string cn,.int .i64 cvk,.int .i64 cvn,.string cvt,.string cop,.slice CA cnn cc,.slice NA 0 nc,.slice EA en ec,.slice OA ol oc,.slice (some ad) 1 gc,.slice BA bn bc,.int .i64 count] 49)) (.cells #[.slice SA sn sc,.slice RA 0 rc] 27)
  rw [World.size_alloc] at this
  exact hW ▸ this
 have q10:W.cell? ⟨w.heap.size,10,none⟩=some (.slice NA 0 nc):=cell_blk hbp rfl
 have q13:W.cell? ⟨w.heap.size,13,none⟩=some (.slice (some ad) 1 gc):=cell_blk hbp rfl
 have HW:=lh hW
 have HT0:=lh t0
 have HB:=lh (And.intro hbt (And.intro q10 q13))
 have HE:=lh (And.intro (t0.cell e0 (by simp)) (And.intro (t0.cell e1 (by simp)) (t0.cell e2 (by simp))))
 have Hpl:=lh (places_any SA sc sn cs hsn.symm (by omega) NA nc 0 [] rfl (by omega) W (hcs.touch0 t0) (RdK.nil _ _ _))
 have hmm:=@run_makeMap Tryz.prog
 clear hW t0 hbp hbt e0 e1 e2 hc hg hcs hsn
 go_enter Tryz.func97,Tryz.ntmps97
 go_wp2_with fail
 rw [<- HW.out]
 refine Hpl.out.mono ?_
 rintro e w1 ⟨A1,m1,rfl,M1'⟩
 have HT1:=lh M1'.t
 have tm:=(HT1.out.alloc (.map #[] 0))
 obtain ⟨b0,b1,_,_⟩:=blk2 (tm.blk HB.out.1 (by simp))
 have p10:=tm.cell HB.out.2.1 (by simp)
 have HMP:=lh (IdxAt.made [] w1)
 clear M1' Hpl tm q10 q13
 go_wp2_with fail
 clear hmm
 refine wp_loop_rounds 1 ?_
 rw [rounds_succ]
 go_wp2_with (at_builtin;refine stop ?_)
 refine go ?_
 refine wpList_appK (enc:=slE) rfl (.tmp 71) (.tmp 72) 25 rfl 33 _ 1 24 info_r5 Tryz.underlying25 rfl (by omega) slE_length slE_one none 0 0 [] rfl rfl (OwnK.nil _ _ _ _)
  (some ⟨w1.heap.size+1,0,none⟩) 1 1 [⟨none,0,0⟩] rfl rfl (by
   have:=RdK.one (enc:=slE) (w1.alloc (.map #[] 0)) 33 ⟨none,0,0⟩ #[.slice none 0 0] rfl
   rwa [World.size_alloc] at this) (by omega) (by omega) ?_
 intro Bo co w2 hown ht hf
 obtain ⟨ad2,ob,oo,rfl,hadd2,hc2⟩:=RdK.cells hown.rd 1 slE_length (by omega) 0 (by simp)
 rw [Nat.zero_mul] at hadd2
 have o0:=hc2 0 _ rfl
 simp only [Nat.add_zero] at o0
 have o0:w2.cell? ⟨ob,oo,none⟩=some (.slice none 0 0):=o0
 have tb:=((Touch.refl [] (w1.alloc (.map #[] 0))).alloc (.cells #[.slice none 0 0] 33)).trans0 ht
 have HT2:=lh ((HT1.out.alloc (.map #[] 0)).trans0 tb)
 have HM2:=lh (HMP.out.touch0 tb)
 have HBL:=lh (HT2.out.blk HB.out.1 (by simp))
 have p13:=HT2.out.cell HB.out.2.2 (by simp)
 have Hsr:=lh (sortFR_one (some ad2) co (.func (.func 81) #[] #[]) w2)
 clear hown ht hf hc2 tb HMP
 go_wp2_with fail
 refine Hsr.out.mono ?_
 rintro e w3 ⟨rfl,rfl⟩
 go_wp2_with fail
 refine wp_loop_rounds 2 ?_
 rw [rounds_succ]
 go_wp2_with fail
 refine (cloneV_any none 0 0 [] rfl (by omega) w3 (RdK.nil _ _ _)).mono ?_
 rintro e w4 ⟨A4,c4,rfl,m4⟩
 have M4:=lh m4
 have HT4:=lh (HT2.out.trans0 m4.t)
 have HM4:=lh (HM2.out.touch0 m4.t)
 have HBL4:=lh (m4.t.blk HBL.out (by simp))
 have p13':=m4.t.cell p13 (by simp)
 have e0:=HT4.out.cell HE.out.1 (by simp)
 have e1:=HT4.out.cell HE.out.2.1 (by simp)
 have e2:=HT4.out.cell HE.out.2.2 (by simp)
 clear m4 p13 HM2
 go_wp2_with fail
 refine wp_loop_rounds 2 ?_
 rw [rounds_succ]
 go_wp2_with fail
 have ta:=(Touch.refl [] w4).alloc (.cells #[.string op,.string ⟨#[]⟩,.string nm] 79)
 have hba:=heap_alloc_new w4 (.cells #[.string op,.string ⟨#[]⟩,.string nm] 79)
 obtain ⟨W5,hW5⟩:∃ W5,W5=w4.alloc (.cells #[.string op,.string ⟨#[]⟩,.string nm] 79):=⟨_,rfl⟩
 rw [<- hW5] at ta hba ⊢
 have HT5:=lh (And.intro ta (And.intro hba (show W5.heap.size=w4.heap.size+1 by rw [hW5,World.size_alloc])))
 obtain ⟨K,hK⟩:∃ K,K=S (keyL []):=⟨_,rfl⟩
 have Hky:=lh fun w'=>keyOf_any none 0 0 [] rfl w' (RdK.nil _ _ _) (by omega) (by simp) (by simp)
 rw [<- hK] at Hky
 have Hof:=lh fun w'=>(of_rows op ⟨#[]⟩ nm (by rw [toList_B];rfl) SA sn sc none 0 0 (by omega) w':Calls _ _ _ _ fun e w''=>e=.returned (.tuple #[.agg #[.int .i64 1,.int .i64 0,.string ⟨#[]⟩],.int .i64 0])/\_)
 have Hlk:=lh fun w' (t:Touch [] W5 w')=>hK ▸ (((HM4.out.touch0 ta).touch0 t).miss (keyL []) (by simp [keyL]) (by simp) false)
 have td:=(Touch.refl [] W5).drew
 obtain ⟨a0,a1,a2,_,_,_⟩:=blk3 hba
 obtain ⟨s0,_,_,_⟩:=blk2 (ta.blk HBL4.out (by simp))
 have HK:Hid (∀ w',Touch [] W5 w'->w'.cell? ⟨w4.heap.size,0,none⟩=some (.string op)/\w'.cell? ⟨w4.heap.size,1,none⟩=some (.string ⟨#[]⟩)/\w'.cell? ⟨w4.heap.size,2,none⟩=some (.string nm)/\w'.cell? ⟨w.heap.size+1,0,none⟩=some (.slice SA sn sc)/\(Instr.lookup 191 (.map (some w1.heap.size)) (.string K) false).run Tryz.prog w'=.ok (.slice none 0 0) w'):=lh fun w' t=>⟨t.cell a0 (by simp),t.cell a1 (by simp),t.cell a2 (by simp),t.cell s0 (by simp),Hlk.out _ t⟩
 have HTd:=lh td
 have HTe:Hid (Touch [] W5 (W5.alloc (.cells #[.int .i64 0,.int .i64 0,.string ⟨#[]⟩] 31)).drew):=lh ((Touch.refl [] W5).alloc _).drew
 have HBe:=lh ((Touch.refl [] (W5.alloc (.cells #[.int .i64 0,.int .i64 0,.string ⟨#[]⟩] 31))).drew.blk (heap_alloc_new W5 (.cells #[.int .i64 0,.int .i64 0,.string ⟨#[]⟩] 31)) (by simp))
 clear hW5 ta hba hK td a0 a1 a2 s0 e0 e1 e2
 go_region_held3 (fun w'=>w'.cell? ⟨w4.heap.size,0,none⟩=some (.string op)/\w'.cell? ⟨w4.heap.size,1,none⟩=some (.string ⟨#[]⟩)/\w'.cell? ⟨w4.heap.size,2,none⟩=some (.string nm)/\w'.cell? ⟨w.heap.size+1,0,none⟩=some (.slice SA sn sc)/\(Instr.lookup 191 (.map (some w1.heap.size)) (.string K) false).run Tryz.prog w'=.ok (.slice none 0 0) w')
  (first
   | with_reducible exact HK.out _ HTd.out
   | with_reducible exact HK.out _ HTe.out
   | with_reducible exact HK.out _ T6
   | with_reducible exact HK.out _ (T6.alloc _)
   | with_reducible exact HK.out _ T7
   | with_reducible exact HK.out _ (T7.alloc _)
   | exact HK.out _ (T7.trans (touch3 _ _ _ _ _) (fun b hb=>.inr (by simp at hb;omega))))
  (first
   | (go_at_call 136;refine (Hky.out _).mono ?_;rintro e w6 ⟨rfl,t6⟩;have h6:Touch [] (W5.alloc (.cells #[.int .i64 0,.int .i64 0,.string ⟨#[]⟩] 31)).drew w6:=(by with_reducible exact t6);have hbv6:=h6.blk HBe.out (by simp);have T6:Touch [] W5 w6:=HTe.out.trans0 h6;have s6:=T6.size)
   | (go_at_call 136;refine (Hky.out _).mono ?_;rintro e w6 ⟨rfl,t6⟩;have h6:Touch [] W5.drew w6:=(by with_reducible exact t6);have T6:Touch [] W5 w6:=HTd.out.trans0 h6;have s6:=T6.size)
   | (go_at_call 139;refine (Hof.out _).mono ?_;rintro e w7 ⟨rfl,t7⟩;have h7:Touch [] (w6.alloc (.cells #[.int .i64 0,.int .i64 0,.string ⟨#[]⟩] 31)) w7:=(by with_reducible exact t7);have T7:Touch [] W5 w7:=(T6.alloc _).trans0 h7;have hbv:=h7.blk (heap_alloc_new w6 (.cells #[.int .i64 0,.int .i64 0,.string ⟨#[]⟩] 31)) (by simp);obtain ⟨z0,z1,z2,y0,y1,y2⟩:=blk3 hbv)
   | (go_at_call 139;refine (Hof.out _).mono ?_;rintro e w7 ⟨rfl,t7⟩;have h7:Touch [] w6 w7:=(by with_reducible exact t7);have T7:Touch [] W5 w7:=T6.trans0 h7;have hbv:=h7.blk hbv6 (by simp);obtain ⟨z0,z1,z2,y0,y1,y2⟩:=blk3 hbv)
   | (go_at_call 139;refine (Hof.out _).mono ?_;rintro e w7 ⟨rfl,t7⟩;have h7:Touch [] w6 w7:=(by with_reducible exact t7);have T7:Touch [] W5 w7:=T6.trans0 h7))
 all_goals (go_wp2_with (at_builtin;refine stop ?_))
 all_goals
  refine go ?_
  refine wpList_here ?_
  intro W8 hW8
  have T8:Touch [] W5 W8:=by
   rw [hW8]
   first
    | with_reducible exact (T7.alloc _).alloc _
    | exact (T7.trans (touch3 _ _ _ _ _) (fun b hb=>.inr (by simp at hb;omega))).alloc _
  have hrd:∀ g,g+1=W8.heap.size->RdK vdE W8 (some ⟨g,0,none⟩) [⟨1,0,⟨#[]⟩⟩]:=by
   obtain ⟨X,hX⟩:∃ X:World,W8=X.alloc (.cells #[.int .i64 1,.int .i64 0,.string ⟨#[]⟩] 31):=⟨_,hW8⟩
   intro g hg
   rw [hX] at hg ⊢
   rw [World.size_alloc] at hg
   obtain rfl:g=X.heap.size:=by omega
   exact RdK.one (enc:=vdE) X 31 ⟨1,0,⟨#[]⟩⟩ _ rfl
  have hA:∀ g,g=W8.heap.size->g=W8.heap.size:=fun _ h=>h
  refine wpList_appK (enc:=vdE) rfl (.tmp 105) (.tmp 107) 33 rfl 31 _ 3 32 info_v5 Tryz.underlying33 rfl (by omega) vdE_length vdE_one A4 0 c4 [] rfl rfl (M4.out.own.touch0 (HT5.out.1.trans0 T8))
   _ 1 _ [⟨1,0,⟨#[]⟩⟩] rfl rfl (hrd _ (by rw [hW8];simp)) (by omega) (by omega) ?_
  intro A9 c9 w9 hown ht hf
  have hTT:Touch [] w w9:=(((HT0.out.trans0 HT4.out).trans0 HT5.out.1).trans0 T8).trans ht (fun b hb=>.inr (by have:=M4.out.f b hb;have:=(HT0.out.trans0 HT2.out).size;omega))
  rw [List.nil_append] at hown
  have HX:=lh (And.intro hown hTT)
  clear hown ht hf hTT hrd hA T8 hW8
  go_wp2_with fail
  rw [rounds_succ]
  go_wp2_with (at_builtin;refine stop ?_)
  refine go ?_
  refine wpList_appR rfl (.tmp 110) (.tmp 112) 25 rfl 33 info_r5 Tryz.underlying25 0 none 0 0 [] rfl rfl (OwnR.nil _ _ _) A9 c9 [⟨1,0,⟨#[]⟩⟩] HX.out.1.rd
   (fun b hb=>⟨by simp [fpo],HX.out.1.lt b hb,Nat.zero_le _⟩) 1 rfl (by omega) rfl ?_
  intro B' c' w' hown2 ht2 hf2
  have HY:=lh (And.intro hown2 ((HX.out.2.alloc _).trans0 ht2))
  clear hown2 ht2 hf2
  go_wp2_with fail
  rw [rounds_succ]
  go_wp2_with fail
  go_ret2
  exact ⟨B',c',rfl,HY.out.1.rowsAt,HY.out.2⟩
end
section
open Go.RowKit
theorem cmpI_zero (a b:Int) (h:Lib.compareInt a b=0):a=b:=by
 unfold Lib.compareInt at h
 by_cases h1:a < b
 ·rw [if_pos h1] at h;cases h
 ·rw [if_neg h1] at h
  by_cases h2:a=b
  ·exact h2
  ·exfalso
   split at h <;> first | omega | cases h
theorem cmpB_zero:∀ a b:List UInt8,Lib.compareBytes a b=0->a=b
 | [],[]=>fun _=>rfl
 | [],_ :: _=>fun h=>by simp [Lib.compareBytes] at h
 | _ :: _,[]=>fun h=>by simp [Lib.compareBytes] at h
 | x :: a,y :: b=>fun h=>by
  rw [Lib.compareBytes] at h
  by_cases h1:x < y
  ·rw [if_pos h1] at h;cases h
  ·rw [if_neg h1] at h
   by_cases h2:y < x
   ·rw [if_pos h2] at h;cases h
   ·rw [if_neg h2] at h
    have h3:=mt UInt8.lt_iff_toNat_lt.2 h1
    have h4:=mt UInt8.lt_iff_toNat_lt.2 h2
    have e:x=y:=UInt8.toNat_inj.1 (by omega)
    rw [e,cmpB_zero a b h]
theorem cmpVV_if (a b:VD):cmpVV a b=if Lib.compareInt a.kind b.kind=0 then (if Lib.compareInt a.num b.num=0 then Lib.compareBytes a.text.data.toList b.text.data.toList else Lib.compareInt a.num b.num) else Lib.compareInt a.kind b.kind:=by
 unfold cmpVV
 simp only [orV]
 split
 ·split
  ·by_cases h:Lib.compareBytes a.text.data.toList b.text.data.toList=0
   ·rw [if_pos h,h]
   ·rw [if_neg h]
  ·rfl
 ·rfl
theorem cmpVV_zero (a b:VD) (h:cmpVV a b=0):a=b:=by
 rw [cmpVV_if] at h
 by_cases h1:Lib.compareInt a.kind b.kind=0
 ·rw [if_pos h1] at h
  by_cases h2:Lib.compareInt a.num b.num=0
  ·rw [if_pos h2] at h
   obtain ⟨ak,an,at_⟩:=a
   obtain ⟨bk,bn,bt⟩:=b
   dsimp only at h1 h2 h
   rw [cmpI_zero _ _ h1,cmpI_zero _ _ h2,bs_eq (cmpB_zero _ _ h)]
  ·rw [if_neg h2] at h;exact absurd h h2
 ·rw [if_neg h1] at h;exact absurd h h1
theorem cmpRV_zero:∀ (a b:List VD),cmpRV a b=0->a=b:=by
 intro a
 induction a with
 | nil=>intro b h;cases b with
  | nil=>rfl
  | cons y b=>simp [cmpRV] at h
 | cons x a ih =>
  intro b h
  cases b with
  | nil=>simp [cmpRV] at h
  | cons y b =>
   rw [cmpRV] at h
   by_cases hv:cmpVV x y=0
   ·rw [if_pos hv] at h
    rw [ih b h,cmpVV_zero x y hv]
   ·rw [if_neg hv] at h;exact absurd h hv
theorem sorted_unique:∀ {l1 l2:List (List VD)},l1.Perm l2->l1.Pairwise (fun a b=>cmpRV a b<=0)->l2.Pairwise (fun a b=>cmpRV a b<=0)->l1=l2
 | [],l2,h,_,_=>(List.nil_perm.1 h).symm
 | a :: l1,[],h,_,_=>absurd h.length_eq (by simp)
 | a :: l1,b :: l2,h,h1,h2=>by
  have hab:a=b:=by
   rw [List.pairwise_cons] at h1 h2
   have ha:a∈b :: l2:=h.mem_iff.1 List.mem_cons_self
   have hb:b∈a :: l1:=h.mem_iff.2 List.mem_cons_self
   rcases List.mem_cons.1 ha with q | q
   ·exact q
   ·rcases List.mem_cons.1 hb with q2 | q2
    ·exact q2.symm
    ·have e1:=h2.1 a q
     have e2:=h1.1 b q2
     have e3:=cmpRV_neg a b
     exact cmpRV_zero a b (by omega)
  subst hab
  rw [sorted_unique (List.Perm.cons_inv h) (List.pairwise_cons.1 h1).2 (List.pairwise_cons.1 h2).2]
def sortR (rows:List (List VD)):List (List VD):=rows.mergeSort fun a b=>decide (cmpRV a b<=0)
theorem sortR_of {rows out:List (List VD)} (h:SortedOf rows out):out=sortR rows:=by
 have hp:(sortR rows).Perm rows:=List.mergeSort_perm _ _
 have hs:(sortR rows).Pairwise fun a b=>cmpRV a b<=0:=by
  have:=List.pairwise_mergeSort (le:=fun a b:List VD=>decide (cmpRV a b<=0))
   (fun a b c h1 h2=>by
    have:=tr_row a b c (of_decide_eq_true h1) (of_decide_eq_true h2)
    exact decide_eq_true this.1)
   (fun a b=>by
    have:=cmpRV_neg a b
    by_cases q:cmpRV a b<=0
    ·simp [q]
    ·simp;right;omega) rows
  exact this.imp fun h=>of_decide_eq_true h
 exact sorted_unique (h.1.trans hp.symm) h.2 hs
structure TabU (lo hi:Nat) (w:World) (s r:SL) (cs:List CD) (rows:List (List VD)):Prop where
 n:s.n=cs.length
 le:s.n<=s.c
 cols:ColsAt w s.A cs
 cf:∀ b∈fpo s.A,lo<=b/\b < hi
 m:r.n=rows.length
 rws:∃ sl,SlsAt w sl rows/\OwnK 33 1 slE w r.A r.c sl/\∀ s∈sl,∀ b∈fpo s.A,b∉fpo r.A/\lo<=b/\b < hi
 rf:∀ b∈fpo r.A,lo<=b/\b < hi
 apart:∀ b∈fpo s.A,b∉fpo r.A
theorem TabU.of {base:Nat} {w:World} {s r:SL} {cs:List CD} {rows:List (List VD)} (h:NewTab base w s r cs rows):TabU base w.heap.size w s r cs rows:=by
 obtain ⟨sl,h1,h2,h3⟩:=h.rws
 exact ⟨h.n,h.le,h.cols,h.cf,h.m,⟨sl,h1,h2,fun s hs b hb=>⟨(h3 s hs b hb).1,(h3 s hs b hb).2.2,(h3 s hs b hb).2.1⟩⟩,fun b hb=>⟨h.rf b hb,h2.lt b hb⟩,h.apart⟩
theorem TabU.touch {lo hi:Nat} {w w':World} {s r:SL} {cs:List CD} {rows:List (List VD)} {fp:List Nat} (h:TabU lo hi w s r cs rows) (ht:Touch fp w w') (hf:∀ b∈fp,b < lo\/hi<=b):TabU lo hi w' s r cs rows:=by
 obtain ⟨sl,h1,h2,h3⟩:=h.rws
 refine ⟨h.n,h.le,RdK.touch h.cols ht (fun b hb hm => ?_),h.cf,h.m,⟨sl,h1.touch ht (fun s hs b hb hm => ?_),h2.touch ht (fun b hb hm => ?_),h3⟩,h.rf,h.apart⟩
 ·have:=h.cf b hb;have:=hf b hm;omega
 ·have:=(h3 s hs b hb).2;have:=hf b hm;omega
 ·have:=h.rf b hb;have:=hf b hm;omega
theorem TabU.tab {lo hi:Nat} {w:World} {s r:SL} {cs:List CD} {rows:List (List VD)} (h:TabU lo hi w s r cs rows):TabAt w s r cs rows:=by
 obtain ⟨sl,h1,h2,_⟩:=h.rws
 exact ⟨h.n,h.le,h.cols,h.m,sl,h1,h2.rd⟩
def EvPost (v:Int × List CD × List (List VD)) (w:World) (e:Ending) (w':World):Prop:=∃ s r:SL,e=.returned (.tuple #[.agg #[.slice s.A s.n s.c,.slice r.A r.n r.c],.int .i64 v.1])/\NewTab w.heap.size w' s r v.2.1 v.2.2/\Touch [] w w'
theorem NewTab.nil (base:Nat) (w:World):NewTab base w ⟨none,0,0⟩ ⟨none,0,0⟩ [] []:=⟨rfl,Nat.le_refl _,RdK.nil _ _ _,by simp [fpo],rfl,OwnR.nil _ _ _,by simp [fpo],by simp [fpo]⟩
theorem EvPost.err {w w':World} (k:Int) (ht:Touch [] w w'):EvPost (k,[],[]) w (.returned (.tuple #[.agg #[.slice none 0 0,.slice none 0 0],.int .i64 k])) w' :=
 ⟨⟨none,0,0⟩,⟨none,0,0⟩,rfl,NewTab.nil _ _,ht⟩
def EvalC (w:World) (I:Option Addr) (ic n:Nat) (x:PC) (v:Int × List CD × List (List VD)):Prop:=∀ w',Touch [] w w'->Calls Tryz.prog 30 #[x.val,.slice I n ic] w' (EvPost v w')
theorem eval_scan (x:PC) (hk0:x.kind=1) (ha0:x.args.n=0) (I:Option Addr) (ic n:Nat) (l:List SrcD) (hn:l.length=n) (hl:n<=1000000) (k:Nat) (hkl:k < l.length) (hs:srcI l x.name=some k) (hcl:l[k].cs.length<=1000000) (hrl:l[k].rows.length<=1000000) (hrr:RowsLe l[k].rows) (w:World) (h:SrcsAt w I l) :
  Calls Tryz.prog 30 #[x.val,.slice I n ic] w (EvPost (0,l[k].cs,l[k].rows) w):=by
 obtain ⟨k0,k1,⟨A2,n2,c2'⟩,⟨⟨ck,cn,⟨cvk,cvn,cvt⟩,cop⟩,CA,cnn,cc⟩,⟨NA,nn,nc⟩,⟨EA,en,ec⟩,⟨OA,ol,oc⟩,⟨GA,gn,gc⟩,⟨BA,bn,bc⟩,count⟩:=x
 dsimp only at hk0 ha0 hs ⊢
 subst hk0 ha0
 simp only [PC.val]
 obtain ⟨PO,hPO⟩:∃ PO,PO=EvPost (0,l[k].cs,l[k].rows) w:=⟨_,rfl⟩
 rw [<- hPO]
 have HPO:=lh hPO
 obtain ⟨W,hW⟩:∃ W,W=(w.alloc (.cells #[.int .i64 1,.string k1,.slice A2 0 c2',.int .i64 ck,.string cn,.int .i64 cvk,.int .i64 cvn,.string cvt,.string cop,.slice CA cnn cc,.slice NA nn nc,.slice EA en ec,.slice OA ol oc,.slice GA gn gc,.slice BA bn bc,.int .i64 count] 49)).alloc (.cells #[.slice none 0 0,.slice none 0 0] 27):=⟨_,rfl⟩
 have t0:Touch [] w W:=hW ▸ ((Touch.refl [] w).alloc _).alloc _
 have hb0:=hW ▸ ((Touch.refl [] (w.alloc (.cells #[.int .i64 1,.string k1,.slice A2 0 c2',.int .i64 ck,.string cn,.int .i64 cvk,.int .i64 cvn,.string cvt,.string cop,.slice CA cnn cc,.slice NA nn nc,.slice EA en ec,.slice OA ol oc,.slice GA gn gc,.slice BA bn bc,.int .i64 count] 49))).alloc (.cells #[.slice none 0 0,.slice none 0 0] 27)).blk (heap_alloc_new w _) (by simp)
 have hbt:W.heap[w.heap.size+1]?=some (.cells #[.slice none 0 0,.slice none 0 0] 27 (0,0)):=by
  have:=heap_alloc_new (w.alloc (.cells #[.int .i64 1,.string k1,.slice A2 0 c2',.int .i64 ck,.string cn,.int .i64 cvk,.int .i64 cvn,.string cvt,.string cop,.slice CA cnn cc,.slice NA nn nc,.slice EA en ec,.slice OA ol oc,.slice GA gn gc,.slice BA bn bc,.int .i64 count] 49)) (.cells #[.slice none 0 0,.slice none 0 0] 27)
  rw [World.size_alloc] at this
  exact hW ▸ this
 have hWs:W.heap.size=w.heap.size+2:=by rw [hW];simp
 have q0:W.cell? ⟨w.heap.size,0,none⟩=some (.int .i64 1):=cell_blk hb0 rfl
 have q1:W.cell? ⟨w.heap.size,1,none⟩=some (.string k1):=cell_blk hb0 rfl
 have q2:W.cell? ⟨w.heap.size,2,none⟩=some (.slice A2 0 c2'):=cell_blk hb0 rfl
 have HW:=lh hW
 have HT0:=lh (And.intro t0 (And.intro hbt hWs))
 have Hs:=lh (source_yes I ic n l hn k1 W (h.touch0 t0) (by omega) k hkl hs)
 have Hcp:=lh fun (s1 r1:SL) w' (t:TabAt w' s1 r1 l[k].cs l[k].rows)=>copy_any s1 r1 _ _ hcl hrl hrr w' t
 clear hs h hb0 hbt hW t0 hPO hcl hrl hrr hWs
 go_enter Tryz.func30,Tryz.ntmps30
 go_wp2_with fail
 rw [<- HW.out]
 refine wp_loop_rounds 1 ?_
 rw [rounds_succ]
 go_wp2_with fail
 refine Hs.out.mono ?_
 rintro e w1 ⟨s1,r1,rfl,htab,t1⟩
 obtain ⟨SA,sn,sc⟩:=s1
 obtain ⟨RA,rn,rc⟩:=r1
 have ta:=(Touch.refl [] w1).alloc (.cells #[.slice SA sn sc,.slice RA rn rc] 27)
 have hcp:=Hcp.out _ _ _ (htab.touch0 ta)
 have HX:=lh (And.intro (t1.trans0 ta) (ta.blk (t1.blk HT0.out.2.1 (by simp)) (by simp)))
 have Hc2:=lh hcp
 clear t1 ta hcp htab Hs
 go_wp2_with fail
 refine Hc2.out.mono ?_
 rintro e w2 ⟨⟨sA,sn',sc'⟩,⟨rA,rn',rc'⟩,rfl,hnt,t2⟩
 obtain ⟨z0,z1,y0,y1⟩:=blk2 (t2.blk HX.out.2 (by simp))
 have HY:=lh (And.intro hnt (And.intro t2 (t2.blk HX.out.2 (by simp))))
 clear hnt t2
 go_wp2_with fail
 obtain ⟨hnt,t2,hr2⟩:=HY.out
 have hs1:=HX.out.1.size
 have hs0:=HT0.out.2.2
 have tq:=touch2 w2 (w.heap.size+1) (.slice sA sn' sc') (.slice rA rn' rc')
 refine bodyPost_ret (results_cell_two rfl _ _ (w.heap.size+1) _ _ _ _ rfl (set2 hr2 rfl _ _) Tryz.underlying27 rfl rfl) rfl ?_
 rw [HPO.out]
 refine ⟨⟨sA,sn',sc'⟩,⟨rA,rn',rc'⟩,rfl, ?_,((HT0.out.1.trans0 HX.out.1).trans0 t2).trans tq (fun b hb=>.inr (by simp at hb;omega))⟩
 have hn3:NewTab W.heap.size w2 _ _ _ _:=hnt.base hs1
 refine ⟨hn3.n,hn3.le,RdK.touch hn3.cols tq (fun b hb hm => ?_),fun b hb=>⟨?_, ?_⟩,hn3.m, ?_,fun b hb => ?_,hn3.apart⟩
 ·have:=(hn3.cf b hb).1;simp at hm;omega
 ·have:=(hn3.cf b hb).1;omega
 ·have:=(hn3.cf b hb).2;have:=tq.size;omega
 ·exact (hn3.rws.touch tq (fun b hb=>by simp at hb;omega) (fun b hb=>hn3.rf b hb)).base (by omega)
 ·have:=hn3.rf b hb;omega
end
section
open Go.RowKit
def tbE (t:SL × SL):List Value:=[.slice t.1.A t.1.n t.1.c,.slice t.2.A t.2.n t.2.c]
theorem tbE_length (t:SL × SL):(tbE t).length=2:=rfl
theorem tbE_one (t:SL × SL):∀ u∈tbE t,u.oneCell'=true:=by
 intro u hu
 simp only [tbE,List.mem_cons,List.not_mem_nil,or_false] at hu
 rcases hu with rfl | rfl <;> rfl
def RowsPost (rv:Int × List (List VD)) (w:World) (e:Ending) (w':World):Prop:=∃ r:SL,e=.returned (.tuple #[.slice r.A r.n r.c,.int .i64 rv.1])/\r.n=rv.2.length/\RowsAt w' r.A rv.2/\Touch [] w w'
theorem rows_group0 (x:PC) (hk0:x.kind=6) (h1:x.names.n=0) (h2:x.aggs.n=1) (op nm:ByteArray) (L:Option Addr) (lc:Nat) (ta:SL × SL) (cs:List CD) (hl:cs.length<=1000000) (w:World)
  (hL:RdK tbE w L [ta]) (hTA:TabAt w ta.1 ta.2 cs []) (hg:RdK agE w x.aggs.A [⟨op,⟨#[]⟩,nm⟩]) :
  Calls Tryz.prog 65 #[x.val,.slice L 1 lc] w (RowsPost (0,[[⟨1,0,⟨#[]⟩⟩]]) w):=by
 obtain ⟨⟨SA,sn,sc⟩,⟨RA,rn,rc⟩⟩:=ta
 obtain ⟨k0,k1,⟨A2,n2,c2'⟩,⟨⟨ck,cn,⟨cvk,cvn,cvt⟩,cop⟩,CA,cnn,cc⟩,⟨NA,nn,nc⟩,⟨EA,en,ec⟩,⟨OA,ol,oc⟩,⟨GA,gn,gc⟩,⟨BA,bn,bc⟩,count⟩:=x
 dsimp only at hk0 h1 h2 hg hTA
 subst hk0
 obtain ⟨ad,bl,bo,rfl,hadd0,hc0⟩:=RdK.cells hL 2 tbE_length (by omega) 0 (by simp)
 have l0:=hc0 0 _ rfl
 have l1:=hc0 1 _ rfl
 simp only [Nat.zero_mul,Nat.add_zero] at hadd0 l0 l1
 simp only [List.getElem_cons_zero] at l0 l1
 have Hj:=lh fun w' (t:Touch [] w w')=>group_zero ⟨6,k1,⟨A2,n2,c2'⟩,⟨⟨ck,cn,⟨cvk,cvn,cvt⟩,cop⟩,CA,cnn,cc⟩,⟨NA,nn,nc⟩,⟨EA,en,ec⟩,⟨OA,ol,oc⟩,⟨GA,gn,gc⟩,⟨BA,bn,bc⟩,count⟩ h1 h2 op nm ⟨SA,sn,sc⟩ ⟨RA,rn,rc⟩ cs hTA.n hl hTA.m w' (RdK.touch0 hg t) (hTA.cols.touch0 t)
 simp only [PC.val] at *
 obtain ⟨W,hW⟩:∃ W,W=w.alloc (.cells #[.int .i64 6,.string k1,.slice A2 n2 c2',.int .i64 ck,.string cn,.int .i64 cvk,.int .i64 cvn,.string cvt,.string cop,.slice CA cnn cc,.slice NA nn nc,.slice EA en ec,.slice OA ol oc,.slice GA gn gc,.slice BA bn bc,.int .i64 count] 49):=⟨_,rfl⟩
 have t0:Touch [] w W:=hW ▸ (Touch.refl [] w).alloc _
 have hb0:=hW ▸ heap_alloc_new w (.cells #[.int .i64 6,.string k1,.slice A2 n2 c2',.int .i64 ck,.string cn,.int .i64 cvk,.int .i64 cvn,.string cvt,.string cop,.slice CA cnn cc,.slice NA nn nc,.slice EA en ec,.slice OA ol oc,.slice GA gn gc,.slice BA bn bc,.int .i64 count] 49)
 have l0d:=t0.drew.cell l0 (by simp)
 have l1d:=t0.drew.cell l1 (by simp)
 obtain ⟨p0,p1,p2,p3,p4,p5,p6,p7,p8,p9,p10,p11,p12,p13,p14,p15⟩:=blk16 ((Touch.refl [] W).drew.blk hb0 (by simp))
 have HP:Hid (W.drew.cell? ⟨w.heap.size,0,none⟩=some (.int .i64 6)/\W.drew.cell? ⟨w.heap.size,1,none⟩=some (.string k1)/\W.drew.cell? ⟨w.heap.size,2,none⟩=some (.slice A2 n2 c2')/\W.drew.cell? ⟨w.heap.size,3,none⟩=some (.int .i64 ck)/\W.drew.cell? ⟨w.heap.size,4,none⟩=some (.string cn)/\W.drew.cell? ⟨w.heap.size,5,none⟩=some (.int .i64 cvk)/\W.drew.cell? ⟨w.heap.size,6,none⟩=some (.int .i64 cvn)/\W.drew.cell? ⟨w.heap.size,7,none⟩=some (.string cvt)/\W.drew.cell? ⟨w.heap.size,8,none⟩=some (.string cop)/\W.drew.cell? ⟨w.heap.size,9,none⟩=some (.slice CA cnn cc)/\W.drew.cell? ⟨w.heap.size,10,none⟩=some (.slice NA nn nc)/\W.drew.cell? ⟨w.heap.size,11,none⟩=some (.slice EA en ec)/\W.drew.cell? ⟨w.heap.size,12,none⟩=some (.slice OA ol oc)/\W.drew.cell? ⟨w.heap.size,13,none⟩=some (.slice GA gn gc)/\W.drew.cell? ⟨w.heap.size,14,none⟩=some (.slice BA bn bc)/\W.drew.cell? ⟨w.heap.size,15,none⟩=some (.int .i64 count)/\W.drew.cell? ⟨bl,bo,none⟩=some (.slice SA sn sc)/\W.drew.cell? ⟨bl,bo+1,none⟩=some (.slice RA rn rc)):=lh ⟨p0,p1,p2,p3,p4,p5,p6,p7,p8,p9,p10,p11,p12,p13,p14,p15,l0d,l1d⟩
 have HW:=lh hW
 have HT0:=lh t0.drew
 clear h1 h2 hg hTA hL hc0 hW t0 l0 l1 hb0 l0d l1d p0 p1 p2 p3 p4 p5 p6 p7 p8 p9 p10 p11 p12 p13 p14 p15
 go_enter Tryz.func65,Tryz.ntmps65
 go_wp2_with fail
 rw [<- HW.out]
 go_region_held3 (fun w'=>w'.cell? ⟨w.heap.size,0,none⟩=some (.int .i64 6)/\w'.cell? ⟨w.heap.size,1,none⟩=some (.string k1)/\w'.cell? ⟨w.heap.size,2,none⟩=some (.slice A2 n2 c2')/\w'.cell? ⟨w.heap.size,3,none⟩=some (.int .i64 ck)/\w'.cell? ⟨w.heap.size,4,none⟩=some (.string cn)/\w'.cell? ⟨w.heap.size,5,none⟩=some (.int .i64 cvk)/\w'.cell? ⟨w.heap.size,6,none⟩=some (.int .i64 cvn)/\w'.cell? ⟨w.heap.size,7,none⟩=some (.string cvt)/\w'.cell? ⟨w.heap.size,8,none⟩=some (.string cop)/\w'.cell? ⟨w.heap.size,9,none⟩=some (.slice CA cnn cc)/\w'.cell? ⟨w.heap.size,10,none⟩=some (.slice NA nn nc)/\w'.cell? ⟨w.heap.size,11,none⟩=some (.slice EA en ec)/\w'.cell? ⟨w.heap.size,12,none⟩=some (.slice OA ol oc)/\w'.cell? ⟨w.heap.size,13,none⟩=some (.slice GA gn gc)/\w'.cell? ⟨w.heap.size,14,none⟩=some (.slice BA bn bc)/\w'.cell? ⟨w.heap.size,15,none⟩=some (.int .i64 count)/\w'.cell? ⟨bl,bo,none⟩=some (.slice SA sn sc)/\w'.cell? ⟨bl,bo+1,none⟩=some (.slice RA rn rc)) (first | exact HP.out | exact keep18 M1.out.2 HP.out) (first
  | (go_at_call 97;refine (Hj.out _ HT0.out).mono ?_;rintro e w1 ⟨A1,c1,rfl,m1⟩;have M1:=lh m1;clear m1))
 go_wp2_with fail
 go_ret2
 exact ⟨⟨A1,1,c1⟩,rfl,rfl,M1.out.1,HT0.out.trans0 M1.out.2⟩
end
end Go.Proofs.YtafoklilkdnepaaGreatDoor
