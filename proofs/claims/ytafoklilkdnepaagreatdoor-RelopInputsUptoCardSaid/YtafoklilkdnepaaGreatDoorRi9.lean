/- Part 9 of the texts of this proof, one behind the other. No condition beyond those that its theorems state. -/
import Derived.Test.YtafoklilkdnepaaGreatDoorRi8
set_option maxRecDepth 40000
set_option maxHeartbeats 25600000
namespace Go.Proofs.YtafoklilkdnepaaGreatDoor
section
open Go.RowKit
def errL:List (Int × List CD)->Int
 | []=>0
 | v :: r=>if v.1=0 then errL r else v.1
theorem errL_zero:∀ {l:List (Int × List CD)},(∀ v∈l,v.1=0)->errL l=0
 | [],_=>rfl
 | v :: l,h=>by rw [errL,if_pos (h v List.mem_cons_self)];exact errL_zero fun x hx=>h x (List.mem_cons_of_mem _ hx)
theorem errL_at:∀ {l:List (Int × List CD)} {j:Nat} (hj:j < l.length),(∀ i (hi:i < j),l[i].1=0)->l[j].1≠0->errL l=l[j].1
 | v :: l,0,_,_,h=>by
  have h:v.1≠0:=h
  rw [errL,if_neg h];rfl
 | v :: l,j+1,hj,h0,h=>by
  have hz:v.1=0:=h0 0 (by omega)
  rw [errL,if_pos hz]
  exact errL_at (by simpa using hj) (fun i hi=>by have:=h0 (i+1) (by omega);simpa using this) (by simpa using h)
def nodeV (vs:List (Int × List CD)) (v:Int × List CD):Int × List CD :=
 if errL vs=0 then (if v.1=0 then (if checkV v.2=0 then (0,v.2) else (checkV v.2,[])) else (v.1,[])) else (errL vs,[])
def SlcsAt (base:Nat) (w:World) (sl:List SL) (css:List (List CD)):Prop:=sl.length=css.length/\∀ i (h1:i < sl.length) (h2:i < css.length),sl[i].n=css[i].length/\sl[i].n<=sl[i].c/\ColsAt w sl[i].A css[i]/\∀ b∈fpo sl[i].A,base<=b/\b < w.heap.size
theorem SlcsAt.nil (base:Nat) (w:World):SlcsAt base w [] []:=⟨rfl,fun i h=>absurd h (by simp)⟩
theorem SlcsAt.touch {base:Nat} {w w':World} {sl:List SL} {css:List (List CD)} {fp:List Nat} (h:SlcsAt base w sl css) (ht:Touch fp w w') (hn:∀ s∈sl,∀ b∈fpo s.A,b∉fp):SlcsAt base w' sl css :=
 ⟨h.1,fun i a b=>⟨(h.2 i a b).1,(h.2 i a b).2.1,RdK.touch (h.2 i a b).2.2.1 ht (hn _ (List.getElem_mem a)),fun x hx=>⟨((h.2 i a b).2.2.2 x hx).1,Nat.lt_of_lt_of_le ((h.2 i a b).2.2.2 x hx).2 ht.size⟩⟩⟩
theorem SlcsAt.touch0 {base:Nat} {w w':World} {sl:List SL} {css:List (List CD)} (h:SlcsAt base w sl css) (ht:Touch [] w w'):SlcsAt base w' sl css:=h.touch ht (by simp)
theorem SlcsAt.snoc {base:Nat} {w:World} {sl:List SL} {css:List (List CD)} (h:SlcsAt base w sl css) (s:SL) (cs:List CD) (h1:s.n=cs.length) (h2:s.n<=s.c) (h3:ColsAt w s.A cs) (h4:∀ b∈fpo s.A,base<=b/\b < w.heap.size):SlcsAt base w (sl++[s]) (css++[cs]):=by
 refine ⟨by rw [List.length_append,List.length_append,h.1];rfl,fun i a b => ?_⟩
 by_cases hi:i < sl.length
 ·have hi2:i < css.length:=by rw [<- h.1];exact hi
  rw [List.getElem_append_left hi,List.getElem_append_left hi2]
  exact h.2 i hi hi2
 ·have hi':i=sl.length:=by rw [List.length_append] at a;simp at a;omega
  subst hi'
  have e1:(sl++[s])[sl.length]=s:=by simp
  have e2:(css++[cs])[sl.length]=cs:=by rw [List.getElem_append_right (by rw [h.1];exact Nat.le_refl _)];simp [h.1]
  rw [e1,e2]
  exact ⟨h1,h2,h3,h4⟩
def SchemaC (w:World) (x:PC) (css:List (List CD)) (v:Int × List CD):Prop:=∀ w' (base:Nat) (L:Option Addr) (lc:Nat) (sl:List SL),Touch [] w w'->base<=w'.heap.size->SlcsAt base w' sl css->RdK slE w' L sl ->
 Calls Tryz.prog 64 #[x.val,.slice L css.length lc] w' (TyPost base v w')
theorem info_s5:(Tryz.prog.info? 24).map (fun i=>(i.zero,i.size,i.bytes))=some (some (.slice none 0 0),1,24):=by kernel_rfl
theorem typed_node (x:PC) (kk m:Nat) (hk0:x.kind=kk) (hk2:2<=kk) (hk9:kk<=9) (hm:x.args.n=m) (hnd:needV kk=m) (d:Int) (hd0:0<=d) (hd:d<=16) (I:Option Addr) (ic n:Nat) (w:World) (hG:NeedsAt w)
  (xs:List PC) (vs:List (Int × List CD)) (hxs:xs.length=m) (hvs:vs.length=m) (hX:RdK pcE w x.args.A xs) (hT:∀ i (h1:i < xs.length) (h2:i < vs.length),TypedC w I ic n xs[i] (d+1) vs[i])
  (v:Int × List CD) (hv:errL vs=0->SchemaC w x (vs.map (·.2)) v) (hok:∀ c∈v.2,c.Ok) (hvl:v.2.length<=1000000) :
  Calls Tryz.prog 31 #[x.val,.slice I n ic,.int .i64 d] w (TyPost w.heap.size (nodeV vs v) w):=by
 obtain ⟨V,hV⟩:∃ V,V=nodeV vs v:=⟨_,rfl⟩
 rw [<- hV]
 have HV:=lh hV
 have Hv:=lh hv
 obtain ⟨k0,k1,⟨A2,n2,c2'⟩,⟨⟨ck,cn,⟨cvk,cvn,cvt⟩,cop⟩,CA,cnn,cc⟩,⟨NA,nn,nc⟩,⟨EA,en,ec⟩,⟨OA,ol,oc⟩,⟨GA,gn,gc⟩,⟨BA,bn,bc⟩,count⟩:=x
 dsimp only at hk0 hm hX ⊢
 subst hk0 hm
 simp only [PC.val]
 have hneed:n2<=2:=by
  rw [<- hnd]
  have:kk=2\/kk=3\/kk=4\/kk=5\/kk=6\/kk=7\/kk=8\/kk=9:=by omega
  rcases this with rfl | rfl | rfl | rfl | rfl | rfl | rfl | rfl <;> simp [needV]
 obtain ⟨W,hW⟩:∃ W,W=w.alloc (.cells #[.int .i64 (kk:Nat),.string k1,.slice A2 n2 c2',.int .i64 ck,.string cn,.int .i64 cvk,.int .i64 cvn,.string cvt,.string cop,.slice CA cnn cc,.slice NA nn nc,.slice EA en ec,.slice OA ol oc,.slice GA gn gc,.slice BA bn bc,.int .i64 count] 49):=⟨_,rfl⟩
 have t0:Touch [] w W:=hW ▸ (Touch.refl [] w).alloc _
 have hb0:=hW ▸ heap_alloc_new w (.cells #[.int .i64 (kk:Nat),.string k1,.slice A2 n2 c2',.int .i64 ck,.string cn,.int .i64 cvk,.int .i64 cvn,.string cvt,.string cop,.slice CA cnn cc,.slice NA nn nc,.slice EA en ec,.slice OA ol oc,.slice GA gn gc,.slice BA bn bc,.int .i64 count] 49)
 have g1:=t0.cell (hG kk (by omega)) (by simp)
 rw [hnd] at g1
 have q0:W.cell? ⟨w.heap.size,0,none⟩=some (.int .i64 kk):=cell_blk hb0 rfl
 have q2:W.cell? ⟨w.heap.size,2,none⟩=some (.slice A2 n2 c2'):=cell_blk hb0 rfl
 have hd2:(16 < d)=False:=by simp;omega
 have hka:((kk:Int) < 1)=False:=by simp;omega
 have hkb:(9 < (kk:Int))=False:=by simp;omega
 have hkc:((kk:Int)==1)=false:=by rw [beq_eq_false_iff_ne];omega
 have hkd:(0:Int)<=(kk:Int):=by omega
 have hke:(kk:Int) < 10:=by omega
 have hadd0:(⟨0,0,none⟩:Addr).add kk=⟨0,kk,none⟩:=add_blk _ _
 have HW:=lh hW
 have HT0:=lh t0
 have HB0:=lh hb0
 have HX:=lh (RdK.touch0 hX t0)
 have HTy:=lh hT
 have Hok:=lh hok
 have Hxs:=lh hxs
 have Hvs:=lh hvs
 clear hV hv hb0 hW t0 hX hT hok hxs hvs hnd
 go_enter Tryz.func31,Tryz.ntmps31
 go_wp2_with fail
 rw [<- HW.out]
 go_quiet (fail)
 go_wp2_with fail
 go_loopw [10,61] (fun o i wr=>∃ (j:Nat) (L:Option Addr) (lc:Nat) (sl:List SL),j<=n2/\i=.int .i64 j/\o=.slice L j lc/\Hid (∀ i (hi:i < j) (h2:i < vs.length),vs[i].1=0)/\Hid (SlcsAt w.heap.size wr sl ((vs.map (·.2)).take j))/\Hid (OwnK 24 1 slE wr L lc sl)/\Hid (∀ b∈fpo L,W.heap.size<=b)/\Hid (∀ s∈sl,∀ b∈fpo s.A,b∉fpo L)/\Hid (Touch [] W wr)) (fun _ i _=>n2-(intOf i).toNat)
 case atStart=>exact ⟨0,none,0,[],by omega,rfl,rfl,lh (fun i h=>absurd h (by omega)),lh (SlcsAt.nil _ _),lh (OwnK.nil _ _ _ _),lh (by simp [fpo]),lh (by simp),lh ((Touch.refl _ _).drewN _)⟩
 case round =>
  obtain ⟨j,L,lc,sl,hj,rfl,rfl,HE,HS,HO,HF,HN,HT⟩:=hrel
  have hslj:Hid (sl.length=j):=lh (by rw [HS.out.1,List.length_take,List.length_map,Hvs.out];omega)
  by_cases hlt:j < n2
  ·have hjx:j < xs.length:=by rw [Hxs.out];exact hlt
   have hjv:j < vs.length:=by rw [Hvs.out];exact hlt
   obtain ⟨ad,b1,o1,rfl,hadd,hc⟩:=RdK.cells (HX.out.touch0 HT.out) 16 pcE_length (by omega) j hjx
   have hty:=HTy.out j hjx hjv
   have hmv:(vs.map (·.2)).take (j+1)=(vs.map (·.2)).take j++[vs[j].2]:=by
    rw [List.take_succ_eq_append_getElem (by rw [List.length_map];exact hjv),List.getElem_map]
   have her:=fun h0=>errL_at (l:=vs) hjv (fun i hi=>HE.out i hi (by omega)) h0
   obtain ⟨y,hy⟩:∃ y,y=xs[j]:=⟨_,rfl⟩
   obtain ⟨u,hu⟩:∃ u,u=vs[j]:=⟨_,rfl⟩
   rw [<- hy] at hc hty
   rw [<- hu] at hty hmv her
   obtain ⟨y0,y1,⟨yA2,yn2,yc2⟩,⟨⟨yck,ycn,⟨ycvk,ycvn,ycvt⟩,ycop⟩,yCA,ycnn,ycc⟩,⟨yNA,ynn,ync⟩,⟨yEA,yen,yec⟩,⟨yOA,yol,yoc⟩,⟨yGA,ygn,ygc⟩,⟨yBA,ybn,ybc⟩,ycount⟩:=y
   have e0:=hc 0 _ rfl;have e1:=hc 1 _ rfl;have e2:=hc 2 _ rfl;have e3:=hc 3 _ rfl;have e4:=hc 4 _ rfl;have e5:=hc 5 _ rfl;have e6:=hc 6 _ rfl;have e7:=hc 7 _ rfl
   have e8:=hc 8 _ rfl;have e9:=hc 9 _ rfl;have e10:=hc 10 _ rfl;have e11:=hc 11 _ rfl;have e12:=hc 12 _ rfl;have e13:=hc 13 _ rfl;have e14:=hc 14 _ rfl;have e15:=hc 15 _ rfl
   rw [Nat.add_zero] at e0
   dsimp only at e0 e1 e2 e3 e4 e5 e6 e7 e8 e9 e10 e11 e12 e13 e14 e15
   have ta:=(Touch.refl [] wr).alloc (.cells #[.int .i64 y0,.string y1,.slice yA2 yn2 yc2,.int .i64 yck,.string ycn,.int .i64 ycvk,.int .i64 ycvn,.string ycvt,.string ycop,.slice yCA ycnn ycc,.slice yNA ynn ync,.slice yEA yen yec,.slice yOA yol yoc,.slice yGA ygn ygc,.slice yBA ybn ybc,.int .i64 ycount] 49)
   have hty2:=hty _ ((HT0.out.trans0 HT.out).trans0 ta)
   simp only [PC.val] at hty2
   have Hty:=lh hty2
   have Hmv:=lh hmv
   have HTa:=lh ta
   have hjn:(j:Int) < (n2:Int):=by omega
   obtain ⟨uer,ucs⟩:=u
   dsimp only at her hmv Hmv Hty
   have Hu:=lh hu
   clear hc hty hty2 hy hu hmv ta
   by_cases hz:uer=0
   ·subst hz
    clear her
    go_wp2_with fail
    refine Hty.out.mono ?_
    rintro e w1 ⟨s,rfl,s1,s2,s3,s4,t1⟩
    obtain ⟨sA,sn,sc⟩:=s
    have T1:=HTa.out.trans0 t1
    have HY:=lh (And.intro s1 (And.intro s2 (And.intro s3 s4)))
    have HT1:=lh T1
    clear s1 s2 s3 s4 t1 T1
    go_wp2_with (at_builtin;refine stop ?_)
    refine go ?_
    have tb:=(Touch.refl [] w1).alloc (.cells #[.slice sA sn sc] 24)
    refine wpList_appK (enc:=slE) rfl (.tmp 76) (.tmp 78) 119 rfl 24 _ 1 24 info_s5 Tryz.underlying119 rfl (by omega) slE_length slE_one L j lc sl hslj.out rfl (HO.out.touch0 (HT1.out.trans0 tb))
     (some ⟨w1.heap.size,0,none⟩) 1 1 [⟨sA,sn,sc⟩] rfl rfl (RdK.one (enc:=slE) w1 24 ⟨sA,sn,sc⟩ _ rfl) (by omega) (by omega) ?_
    intro L' lc' w' hown ht hf
    have HN2:=lh (And.intro hown (And.intro ht hf))
    clear hown ht hf tb
    go_wp2_with fail
    go_roundw
    case rel =>
     obtain ⟨hown,ht,hf⟩:=HN2.out
     obtain ⟨s1,s2,s3,s4⟩:=HY.out
     have tb:=(Touch.refl [] w1).alloc (.cells #[.slice sA sn sc] 24)
     have hLlt:=HO.out.lt
     have hsz:=HT1.out.size
     rw [World.size_alloc] at hf s4
     have hbase:w.heap.size<=wr.heap.size:=(HT0.out.trans0 HT.out).size
     have hbase2:W.heap.size<=wr.heap.size:=HT.out.size
     have hs4:∀ b∈fpo sA,w.heap.size<=b/\b < w1.heap.size:=fun b hb=>⟨by have:=(s4 b hb).1;omega,(s4 b hb).2⟩
     have hnew:∀ b∈fpo sA,b∉fpo L:=fun b hb hm=>by have:=hLlt b hm;have:=(s4 b hb).1;omega
     have hsn:=((HS.out.touch0 HT1.out).snoc ⟨sA,sn,sc⟩ ucs s1 s2 s3 hs4).touch0 tb
     have hall:∀ s∈sl++[(⟨sA,sn,sc⟩:SL)],∀ b∈fpo s.A,b∉fpo L:=fun s hs b hb=>by
      rcases List.mem_append.1 hs with q | q
      ·exact HN.out s q b hb
      ·simp only [List.mem_singleton] at q;subst q;exact hnew b hb
     have hlt2:∀ s∈sl++[(⟨sA,sn,sc⟩:SL)],∀ b∈fpo s.A,b < w1.heap.size:=fun s hs b hb=>by
      obtain ⟨i,hi,rfl⟩:=List.mem_iff_getElem.1 hs
      have h0:=((HS.out.touch0 HT1.out).snoc ⟨sA,sn,sc⟩ ucs s1 s2 s3 hs4)
      exact (((h0.2 i hi (by rw [<- h0.1];exact hi)).2.2.2) b hb).2
     refine ⟨j+1,L',lc',sl++[⟨sA,sn,sc⟩],by omega,by go_num,rfl,lh (fun i hi h2 => ?_),lh (by rw [Hmv.out];exact hsn.touch ht hall),lh hown,lh (fun b hb => ?_),lh (fun s hs b hb hm => ?_),lh (((HT.out.trans0 HT1.out).trans0 tb).trans ht (fun b hb=>.inr ?_))⟩
     ·by_cases hij:i=j
      ·subst hij;rw [<- Hu.out]
      ·exact HE.out i (by omega) h2
     ·rcases hf b hb with q | q
      ·exact HF.out b q
      ·omega
     ·rcases hf b hm with q | q
      ·exact hall s hs b hb q
      ·have:=hlt2 s hs b hb;omega
     ·exact HF.out b hb
    case measure=>simp [intOf];omega
   ·have HVe:=lh (show V=(uer,[]) by
     rw [HV.out];unfold nodeV;rw [her hz,if_neg hz])
    have hq:(uer==0)=false:=by rw [beq_eq_false_iff_ne];exact hz
    have hq':(uer != 0)=true:=by rw [bne,hq];rfl
    clear her
    go_wp2_with fail
    refine Hty.out.mono ?_
    rintro e w1 ⟨s,rfl,s1,s2,s3,s4,t1⟩
    have HT1:=lh (((HT0.out.trans0 HT.out).trans0 HTa.out).trans0 t1)
    clear s1 s2 s3 s4 t1
    go_wp2_with fail
    go_ret2
    rw [HVe.out]
    exact TyPost.err _ uer HT1.out
  ·obtain rfl:j=n2:=by omega
   have hz:errL vs=0:=errL_zero fun u hu=>by
    obtain ⟨i,hi,rfl⟩:=List.mem_iff_getElem.1 hu
    exact HE.out i (by rw [<- Hvs.out];exact hi) hi
   have HVe:=lh (show V=if v.1=0 then (if checkV v.2=0 then (0,v.2) else (checkV v.2,[])) else (v.1,[]) by rw [HV.out];unfold nodeV;rw [if_pos hz])
   have hlen:(vs.map (·.2)).length=j:=by rw [List.length_map];exact Hvs.out
   have hsl:SlcsAt w.heap.size wr sl (vs.map (·.2)):=by
    have:=HS.out
    rwa [<- hlen,List.take_length] at this
   have hsc:=Hv.out hz wr w.heap.size L lc sl (HT0.out.trans0 HT.out) (HT0.out.trans0 HT.out).size hsl HO.out.rd
   rw [hlen] at hsc
   simp only [PC.val] at hsc
   have Hsc:=lh hsc
   obtain ⟨p0,p1,p2,p3,p4,p5,p6,p7,p8,p9,p10,p11,p12,p13,p14,p15⟩:=blk16 (HT.out.blk HB0.out (by simp))
   have HT1:=lh (HT0.out.trans0 HT.out)
   obtain ⟨ver,vcs⟩:=v
   dsimp only at hvl HVe
   have hck:Hid (∀ (A:Option Addr) (c:Nat) (w':World),ColsAt w' A vcs->Calls Tryz.prog 33 #[.slice A vcs.length c] w' fun e w''=>e=.returned (.int .i64 (checkV vcs))/\Touch [] w' w''):=lh fun A c w' hcs=>check_any A c vcs.length vcs rfl Hok.out w' hcs (by omega)
   obtain ⟨K,hK⟩:∃ K,K=checkV vcs:=⟨_,rfl⟩
   rw [<- hK] at hck HVe
   clear hsc hz hlen hsl hK HE HS HO HF HN HT hslj hlt q0 q2 g1 hadd0
   by_cases hv0:ver=0
   ·have HVf:=lh (show V=if K=0 then (0,vcs) else (K,[]) by rw [HVe.out,if_pos hv0])
    subst hv0
    clear HVe
    by_cases hK0:K=0
    ·have HVg:=lh (show V=(0,vcs) by rw [HVf.out,if_pos hK0])
     subst hK0
     clear HVf
     go_wp2_with fail
     refine Hsc.out.mono ?_
     rintro e w1 ⟨⟨sA,sn,sc⟩,rfl,s1,s2,s3,s4,t1⟩
     have HY:=lh (And.intro s1 (And.intro s2 (And.intro s3 s4)))
     have hcc:=hck.out sA sc w1 s3
     rw [<- show sn=vcs.length from s1] at hcc
     have Hcc:=lh hcc
     have HT2:=lh (HT1.out.trans0 t1)
     clear s1 s2 s3 s4 t1 hcc
     go_wp2_with fail
     refine Hcc.out.mono ?_
     rintro e w2 ⟨rfl,t2⟩
     have HT3:=lh t2
     clear t2
     go_wp2_with fail
     go_ret2
     rw [HVg.out]
     obtain ⟨s1,s2,s3,s4⟩:=HY.out
     exact ⟨⟨sA,sn,sc⟩,rfl,s1,s2,s3.touch0 HT3.out,fun b hb=>⟨(s4 b hb).1,Nat.lt_of_lt_of_le (s4 b hb).2 HT3.out.size⟩,HT2.out.trans0 HT3.out⟩
    ·have HVg:=lh (show V=(K,[]) by rw [HVf.out,if_neg hK0])
     have hq:(K==0)=false:=by rw [beq_eq_false_iff_ne];exact hK0
     have hq':(K != 0)=true:=by rw [bne,hq];rfl
     clear HVf
     go_wp2_with fail
     refine Hsc.out.mono ?_
     rintro e w1 ⟨⟨sA,sn,sc⟩,rfl,s1,s2,s3,s4,t1⟩
     have hcc:=hck.out sA sc w1 s3
     rw [<- show sn=vcs.length from s1] at hcc
     have Hcc:=lh hcc
     have HT2:=lh (HT1.out.trans0 t1)
     clear s1 s2 s3 s4 t1 hcc
     go_wp2_with fail
     refine Hcc.out.mono ?_
     rintro e w2 ⟨rfl,t2⟩
     have HT3:=lh (HT2.out.trans0 t2)
     clear t2
     go_wp2_with fail
     go_ret2
     rw [HVg.out]
     exact TyPost.err _ K HT3.out
   ·have HVf:=lh (show V=(ver,[]) by rw [HVe.out,if_neg hv0])
    have hq:(ver==0)=false:=by rw [beq_eq_false_iff_ne];exact hv0
    have hq':(ver != 0)=true:=by rw [bne,hq];rfl
    clear HVe
    go_wp2_with fail
    refine Hsc.out.mono ?_
    rintro e w1 ⟨⟨sA,sn,sc⟩,rfl,s1,s2,s3,s4,t1⟩
    have HT2:=lh (HT1.out.trans0 t1)
    clear s1 s2 s3 s4 t1
    go_wp2_with fail
    go_ret2
    rw [HVf.out]
    exact TyPost.err _ ver HT2.out
end
section
open Go.RowKit
def SizeC (w:World) (x:PC) (k:Nat):Prop:=∀ w',Touch [] w w'->Calls Tryz.prog 19 #[x.val] w' fun e w''=>e=.returned (.int .i64 k)/\Touch [] w' w''
theorem sum_take_succ (l:List Nat) (j:Nat) (h:j < l.length):(l.take (j+1)).sum=(l.take j).sum+l[j]:=by
 rw [List.take_succ_eq_append_getElem h,List.sum_append];simp
theorem sum_take_le' (l:List Nat) (j:Nat):(l.take j).sum<=l.sum:=by
 induction l generalizing j with
 | nil=>simp
 | cons a l ih=>cases j with
  | zero=>simp
  | succ j=>have:=ih j;rw [List.take_succ_cons,List.sum_cons,List.sum_cons];omega
theorem size_node (x:PC) (xs:List PC) (ks:List Nat) (w:World) (hxs:xs.length=x.args.n) (hks:ks.length=x.args.n) (hX:RdK pcE w x.args.A xs) (hT:∀ i (h1:i < xs.length) (h2:i < ks.length),SizeC w xs[i] ks[i]) (hsum:ks.sum<=1000000) (hnn:x.args.n<=1000000) :
  Calls Tryz.prog 19 #[x.val] w fun e w''=>e=.returned (.int .i64 (1+ks.sum:Nat))/\Touch [] w w'':=by
 obtain ⟨k0,k1,⟨A2,n2,c2'⟩,⟨⟨ck,cn,⟨cvk,cvn,cvt⟩,cop⟩,CA,cnn,cc⟩,⟨NA,nn,nc⟩,⟨EA,en,ec⟩,⟨OA,ol,oc⟩,⟨GA,gn,gc⟩,⟨BA,bn,bc⟩,count⟩:=x
 dsimp only at hxs hks hX hnn ⊢
 simp only [PC.val]
 obtain ⟨W,hW⟩:∃ W,W=w.alloc (.cells #[.int .i64 k0,.string k1,.slice A2 n2 c2',.int .i64 ck,.string cn,.int .i64 cvk,.int .i64 cvn,.string cvt,.string cop,.slice CA cnn cc,.slice NA nn nc,.slice EA en ec,.slice OA ol oc,.slice GA gn gc,.slice BA bn bc,.int .i64 count] 49):=⟨_,rfl⟩
 have t0:Touch [] w W:=hW ▸ (Touch.refl [] w).alloc _
 have HW:=lh hW
 have HT0:=lh t0
 have HX:=lh (RdK.touch0 hX t0)
 have HTy:=lh hT
 have Hxs:=lh hxs
 have Hks:=lh hks
 have Hsum:=lh hsum
 clear hW t0 hX hT hxs hks hsum
 go_enter Tryz.func19,Tryz.ntmps19
 go_wp2_with fail
 rw [<- HW.out]
 go_loopw [3,9] (fun o i wr=>∃ (j q:Nat),j<=n2/\q<=1000001/\i=.int .i64 j/\o=.int .i64 q/\Hid (q=1+(ks.take j).sum)/\Hid (Touch [] W wr)) (fun _ i _=>n2-(intOf i).toNat)
 case atStart=>exact ⟨0,1,by omega,by omega,rfl,rfl,lh (by simp),lh (Touch.refl _ _)⟩
 case round =>
  obtain ⟨j,q,hj,hq,rfl,rfl,HQ,HT⟩:=hrel
  by_cases hlt:j < n2
  ·have hjx:j < xs.length:=by rw [Hxs.out];exact hlt
   have hjv:j < ks.length:=by rw [Hks.out];exact hlt
   obtain ⟨ad,b1,o1,rfl,hadd,hc⟩:=RdK.cells (HX.out.touch0 HT.out) 16 pcE_length (by omega) j hjx
   have hty:=HTy.out j hjx hjv
   have hst:=sum_take_succ ks j hjv
   have hsl:=sum_take_le' ks (j+1)
   obtain ⟨y,hy⟩:∃ y,y=xs[j]:=⟨_,rfl⟩
   obtain ⟨u,hu⟩:∃ u,u=ks[j]:=⟨_,rfl⟩
   rw [<- hy] at hc hty
   rw [<- hu] at hty hst
   obtain ⟨y0,y1,⟨yA2,yn2,yc2⟩,⟨⟨yck,ycn,⟨ycvk,ycvn,ycvt⟩,ycop⟩,yCA,ycnn,ycc⟩,⟨yNA,ynn,ync⟩,⟨yEA,yen,yec⟩,⟨yOA,yol,yoc⟩,⟨yGA,ygn,ygc⟩,⟨yBA,ybn,ybc⟩,ycount⟩:=y
   have e0:=hc 0 _ rfl;have e1:=hc 1 _ rfl;have e2:=hc 2 _ rfl;have e3:=hc 3 _ rfl;have e4:=hc 4 _ rfl;have e5:=hc 5 _ rfl;have e6:=hc 6 _ rfl;have e7:=hc 7 _ rfl
   have e8:=hc 8 _ rfl;have e9:=hc 9 _ rfl;have e10:=hc 10 _ rfl;have e11:=hc 11 _ rfl;have e12:=hc 12 _ rfl;have e13:=hc 13 _ rfl;have e14:=hc 14 _ rfl;have e15:=hc 15 _ rfl
   rw [Nat.add_zero] at e0
   dsimp only at e0 e1 e2 e3 e4 e5 e6 e7 e8 e9 e10 e11 e12 e13 e14 e15
   have ta:=(Touch.refl [] wr).alloc (.cells #[.int .i64 y0,.string y1,.slice yA2 yn2 yc2,.int .i64 yck,.string ycn,.int .i64 ycvk,.int .i64 ycvn,.string ycvt,.string ycop,.slice yCA ycnn ycc,.slice yNA ynn ync,.slice yEA yen yec,.slice yOA yol yoc,.slice yGA ygn ygc,.slice yBA ybn ybc,.int .i64 ycount] 49)
   have hty2:=hty _ ((HT0.out.trans0 HT.out).trans0 ta)
   simp only [PC.val] at hty2
   have Hty:=lh hty2
   have Hst:=lh hst
   have Hsl:=lh hsl
   have HTa:=lh ta
   have hjn:(j:Int) < (n2:Int):=by omega
   have hub:q+u<=1000001:=by have:=HQ.out;have:=Hsum.out;omega
   clear hc hty hty2 hy hu ta hst hsl
   go_wp2_with fail
   refine Hty.out.mono ?_
   rintro e w1 ⟨rfl,t1⟩
   have HT1:=lh ((HT.out.trans0 HTa.out).trans0 t1)
   clear t1
   go_wp2_with fail
   go_roundw
   case rel=>exact ⟨j+1,q+u,by omega,hub,by go_num,by go_num,lh (by rw [Hst.out,HQ.out];omega),HT1⟩
   case measure=>simp [intOf];omega
  ·obtain rfl:j=n2:=by omega
   have Hq:=lh (show q=1+ks.sum by rw [HQ.out,<- Hks.out,List.take_length])
   clear HQ
   go_wp2_with fail
   go_ret
   exact ⟨by rw [<- Hq.out];rfl,HT0.out.trans0 HT.out⟩
theorem type_any (x:PC) (k:Nat) (hk:k<=64) (I:Option Addr) (ic n:Nat) (v:Int × List CD) (w:World) (hs:SizeC w x k) (ht:TypedC w I ic n x 1 v) :
  Calls Tryz.prog 16 #[x.val,.slice I n ic] w (TyPost w.heap.size v w):=by
 obtain ⟨k0,k1,⟨A2,n2,c2'⟩,⟨⟨ck,cn,⟨cvk,cvn,cvt⟩,cop⟩,CA,cnn,cc⟩,⟨NA,nn,nc⟩,⟨EA,en,ec⟩,⟨OA,ol,oc⟩,⟨GA,gn,gc⟩,⟨BA,bn,bc⟩,count⟩:=x
 simp only [PC.val]
 have ta:=(Touch.refl [] w).alloc (.cells #[.int .i64 k0,.string k1,.slice A2 n2 c2',.int .i64 ck,.string cn,.int .i64 cvk,.int .i64 cvn,.string cvt,.string cop,.slice CA cnn cc,.slice NA nn nc,.slice EA en ec,.slice OA ol oc,.slice GA gn gc,.slice BA bn bc,.int .i64 count] 49)
 have hb:=heap_alloc_new w (.cells #[.int .i64 k0,.string k1,.slice A2 n2 c2',.int .i64 ck,.string cn,.int .i64 cvk,.int .i64 cvn,.string cvt,.string cop,.slice CA cnn cc,.slice NA nn nc,.slice EA en ec,.slice OA ol oc,.slice GA gn gc,.slice BA bn bc,.int .i64 count] 49)
 have hs1:=hs _ ta
 simp only [PC.val] at hs1
 have Hs:=lh hs1
 have Ht:=lh ht
 have HA:=lh (And.intro ta hb)
 clear ta hb hs hs1 ht
 have hk6:(64 < (k:Int))=False:=by simp;omega
 go_enter Tryz.func16,Tryz.ntmps16
 go_wp2_with fail
 refine Hs.out.mono ?_
 rintro e w1 ⟨rfl,t1⟩
 obtain ⟨p0,p1,p2,p3,p4,p5,p6,p7,p8,p9,p10,p11,p12,p13,p14,p15⟩:=blk16 (t1.blk HA.out.2 (by simp))
 have ht1:=Ht.out w1 (HA.out.1.trans0 t1)
 simp only [PC.val] at ht1
 have Ht1:=lh ht1
 have HT1:=lh (HA.out.1.trans0 t1)
 clear t1 ht1 Ht
 go_wp2_with fail
 refine Ht1.out.mono ?_
 rintro e w2 ⟨⟨sA,sn,sc⟩,rfl,s1,s2,s3,s4,t2⟩
 have HY:=lh (And.intro s1 (And.intro s2 (And.intro s3 (And.intro s4 t2))))
 clear s1 s2 s3 s4 t2
 go_wp2_with fail
 go_ret2
 obtain ⟨s1,s2,s3,s4,t2⟩:=HY.out
 exact ⟨⟨sA,sn,sc⟩,rfl,s1,s2,s3,fun b hb=>⟨Nat.le_trans HT1.out.size (s4 b hb).1,(s4 b hb).2⟩,HT1.out.trans0 t2⟩
end
section
open Go.RowKit
def naE (n:Nat):List Value:=[.int .i64 n]
theorem naE_length (n:Nat):(naE n).length=1:=rfl
theorem naE_one (n:Nat):∀ u∈naE n,u.oneCell'=true:=by
 intro u hu
 simp only [naE,List.mem_cons,List.not_mem_nil,or_false] at hu
 subst hu;rfl
theorem info_i5:(Tryz.prog.info? 3).map (fun i=>(i.zero,i.size,i.bytes))=some (some (.int .i64 0),1,8):=by kernel_rfl
def placesV (cs:List CD) (names:List ByteArray):List Nat:=names.map fun n=>(placeV cs n).getD 0
def pickV (r:List VD) (at_:List Nat):List VD:=at_.map fun i=>r.getD i ⟨0,0,⟨#[]⟩⟩
def nullV (l:List VD):Bool:=l.any fun v=>decide (v.kind=0)
theorem places_any (SA:Option Addr) (c1 n1:Nat) (a:List CD) (h1:a.length=n1) (hl1:n1<=1000000) (NA:Option Addr) (nc n2:Nat) (names:List ByteArray) (h2:names.length=n2) (hl2:n2<=1000000) (w:World) (ha:ColsAt w SA a) (hr:RdK btE w NA names) :
  Calls Tryz.prog 133 #[.slice SA n1 c1,.slice NA n2 nc] w fun e w'=>∃ A c,e=.returned (.slice A n2 c)/\Made 3 1 naE (placesV a names) A c w w':=by
 subst h1 h2
 have HRD:=lh (And.intro ha hr)
 clear ha hr
 go_enter Tryz.func133,Tryz.ntmps133
 go_wp2_with fail
 go_loopw [5,12] (fun o i wr=>∃ (k:Nat) (A:Option Addr) (c:Nat),k<=names.length/\i=.int .i64 k/\o=.slice A k c/\Hid (Made 3 1 naE (placesV a (names.take k)) A c w wr)) (fun _ i _=>names.length-(intOf i).toNat)
 case atStart=>exact ⟨0,none,0,by omega,rfl,rfl,lh (Made.nil _ _ _ _)⟩
 case round =>
  obtain ⟨k,A,c,hk,rfl,rfl,HM⟩:=hrel
  by_cases hlt:k < names.length
  ·obtain ⟨ad,b1,o1,rfl,hadd,hc⟩:=RdK.cells (HRD.out.2.touch0 HM.out.t) 1 btE_length (by omega) k hlt
   rw [Nat.mul_one] at hadd
   have e0:=hc 0 _ rfl
   rw [Nat.add_zero] at e0
   have htk:=List.take_succ_eq_append_getElem hlt
   obtain ⟨p,hp⟩:∃ p,p=names[k]:=⟨_,rfl⟩
   rw [<- hp] at e0 htk
   have hfa:=findC_any SA c1 a.length a rfl p wr (HRD.out.1.touch0 HM.out.t) (by omega)
   have hnx:placesV a (names.take (k+1))=placesV a (names.take k)++[(placeV a p).getD 0]:=by
    rw [htk];unfold placesV;rw [List.map_append];rfl
   have hln:Hid ((placesV a (names.take k)).length=k):=lh (by unfold placesV;rw [List.length_map,List.length_take];omega)
   obtain ⟨i,hi⟩:∃ i,i=(placeV a p).getD 0:=⟨_,rfl⟩
   obtain ⟨b,hb⟩:∃ b,b=(placeV a p).isSome:=⟨_,rfl⟩
   rw [<- hi,<- hb] at hfa
   rw [<- hi] at hnx
   have Hfa:=lh hfa
   have Hnx:=lh hnx
   have hkn:(k:Int) < (names.length:Int):=by omega
   clear hfa hnx htk hc hp hi hb
   go_wp2_with fail
   refine Hfa.out.mono ?_
   rintro e w1 ⟨rfl,t1⟩
   have HM1:=lh (HM.out.touch0 t1)
   clear t1 HM
   go_wp2_with (at_builtin;refine stop ?_)
   refine go ?_
   have ta:=(Touch.refl [] w1).alloc (.cells #[.int .i64 i] 3)
   refine wpList_appK (enc:=naE) rfl (.tmp 22) (.tmp 24) 97 rfl 3 _ 1 8 info_i5 Tryz.underlying97 rfl (by omega) naE_length naE_one A k c _ hln.out rfl (HM1.out.touch0 ta).own
    (some ⟨w1.heap.size,0,none⟩) 1 1 [i] rfl rfl (RdK.one (enc:=naE) w1 3 i _ rfl) (by omega) (by omega) ?_
   intro A' c' w' hown ht hf
   have HX:=lh ((HM1.out.touch0 ta).step hown ht hf)
   clear hown ht hf ta
   go_wp2_with fail
   go_roundw
   case rel=>exact ⟨k+1,A',c',by omega,by go_num,rfl,lh (by rw [Hnx.out];exact HX.out)⟩
   case measure=>simp [intOf];omega
  ·obtain rfl:k=names.length:=by omega
   have HM2:Hid (Made 3 1 naE (placesV a names) A c w wr):=lh (by have:=HM.out;rwa [List.take_length] at this)
   clear HM
   go_wp2
   go_ret
   exact ⟨A,c,rfl,HM2.out⟩
theorem picked_any (RA:Option Addr) (rc n1:Nat) (r:List VD) (h1:r.length=n1) (hl1:n1<=1000000) (PA:Option Addr) (pc n2:Nat) (at_:List Nat) (h2:at_.length=n2) (hl2:n2<=1000000) (hat:∀ i∈at_,i < n1) (w:World) (hr:ValsAt w RA r) (hp:RdK naE w PA at_) :
  Calls Tryz.prog 134 #[.slice RA n1 rc,.slice PA n2 pc] w fun e w'=>∃ A c,e=.returned (.slice A n2 c)/\Made 31 3 vdE (pickV r at_) A c w w':=by
 subst h1 h2
 have HRD:=lh (And.intro hr hp)
 have Hat:=lh hat
 clear hr hp hat
 go_enter Tryz.func134,Tryz.ntmps134
 go_wp2_with fail
 go_loopw [5,10] (fun o i wr=>∃ (k:Nat) (A:Option Addr) (c:Nat),k<=at_.length/\i=.int .i64 k/\o=.slice A k c/\Hid (Made 31 3 vdE (pickV r (at_.take k)) A c w wr)) (fun _ i _=>at_.length-(intOf i).toNat)
 case atStart=>exact ⟨0,none,0,by omega,rfl,rfl,lh (Made.nil _ _ _ _)⟩
 case round =>
  obtain ⟨k,A,c,hk,rfl,rfl,HM⟩:=hrel
  by_cases hlt:k < at_.length
  ·obtain ⟨ad,b1,o1,rfl,hadd,hc⟩:=RdK.cells (HRD.out.2.touch0 HM.out.t) 1 naE_length (by omega) k hlt
   rw [Nat.mul_one] at hadd
   have e0:=hc 0 _ rfl
   rw [Nat.add_zero] at e0
   have htk:=List.take_succ_eq_append_getElem hlt
   have hil:=Hat.out _ (List.getElem_mem hlt)
   obtain ⟨i,hi⟩:∃ i,i=at_[k]:=⟨_,rfl⟩
   rw [<- hi] at e0 htk hil
   obtain ⟨ad2,b2,o2,rfl,hadd2,c0,c1,c2⟩:=(HRD.out.1.touch0 HM.out.t).at_ i hil
   have hnx:pickV r (at_.take (k+1))=pickV r (at_.take k)++[r[i]]:=by
    rw [htk];unfold pickV;rw [List.map_append];simp [hil]
   have hln:Hid ((pickV r (at_.take k)).length=k):=lh (by unfold pickV;rw [List.length_map,List.length_take];omega)
   obtain ⟨v,hv⟩:∃ v,v=r[i]:=⟨_,rfl⟩
   rw [<- hv] at c0 c1 c2 hnx
   obtain ⟨vk,vn,vt⟩:=v
   dsimp only at c0 c1 c2
   have Hnx:=lh hnx
   have hkn:(k:Int) < (at_.length:Int):=by omega
   have hin:(i:Int) < (r.length:Int):=by omega
   have hi0:(0:Int)<=(i:Int):=by omega
   clear hnx htk hc hi hv
   go_wp2_with (at_builtin;refine stop ?_)
   refine go ?_
   have ta:=(Touch.refl [] wr).alloc (.cells #[.int .i64 vk,.int .i64 vn,.string vt] 31)
   refine wpList_appK (enc:=vdE) rfl (.tmp 14) (.tmp 19) 33 rfl 31 _ 3 32 info_v5 Tryz.underlying33 rfl (by omega) vdE_length vdE_one A k c _ hln.out rfl (HM.out.touch0 ta).own
    (some ⟨wr.heap.size,0,none⟩) 1 1 [⟨vk,vn,vt⟩] rfl rfl (RdK.one (enc:=vdE) wr 31 ⟨vk,vn,vt⟩ _ rfl) (by omega) (by omega) ?_
   intro A' c' w' hown ht hf
   have HX:=lh ((HM.out.touch0 ta).step hown ht hf)
   clear hown ht hf ta
   go_wp2_with fail
   go_roundw
   case rel=>exact ⟨k+1,A',c',by omega,by go_num,rfl,lh (by rw [Hnx.out];exact HX.out)⟩
   case measure=>simp [intOf];omega
  ·obtain rfl:k=at_.length:=by omega
   have HM2:Hid (Made 31 3 vdE (pickV r at_) A c w wr):=lh (by have:=HM.out;rwa [List.take_length] at this)
   clear HM
   go_wp2
   go_ret
   exact ⟨A,c,rfl,HM2.out⟩
theorem null1_any (v:VD) (w:World) :
  Calls Tryz.prog 169 #[.agg #[.int .i64 v.kind,.int .i64 v.num,.string v.text]] w fun e w'=>e=.returned (.bool (decide (v.kind=0)))/\Touch [] w w':=by
 obtain ⟨vk,vn,vt⟩:=v
 dsimp only
 have t0:=(Touch.refl [] w).alloc (.cells #[.int .i64 vk,.int .i64 vn,.string vt] 31)
 by_cases h:vk=0
 ·subst h
  go_enter Tryz.func169,Tryz.ntmps169
  go_wp2
  go_ret
  exact ⟨rfl,t0⟩
 ·have hq:(vk==0)=false:=by rw [beq_eq_false_iff_ne];exact h
  have hd:=lh (decide_eq_false h)
  go_enter Tryz.func169,Tryz.ntmps169
  go_wp2
  go_ret
  exact ⟨ret_bool hd.out.symm,t0⟩
theorem indexNull_any (A:Option Addr) (c m:Nat) (l:List VD) (hm:l.length=m) (w:World) (hv:ValsAt w A l) (hl2:m<=140737000000000) :
  Calls Tryz.prog 192 #[.slice A m c,.func (.func 169) #[] #[]] w fun e w' =>
   (∃ i:Int,e=.returned (.int .i64 i) /\ -1<=i/\i<=m/\(decide (0<=i)=nullV l))/\Touch [] w w':=by
 subst hm
 go_enter Tryz.func192,Tryz.ntmps192
 go_wp2
 go_loopw [8] (fun i wr=>∃ k:Nat,k<=l.length/\i=.int .i64 k/\Hid (nullV (l.take k)=false)/\Touch [] w wr) (fun i _=>l.length-(intOf i).toNat)
 case atStart=>exact ⟨0,by omega,rfl,lh rfl,Touch.refl _ _⟩
 case round =>
  obtain ⟨k,hk,rfl,Hall,ht⟩:=hrel
  by_cases hlt:k < l.length
  ·obtain ⟨ad,b,off,rfl,hadd,c0,c1,c2⟩:=(hv.touch0 ht).at_ k hlt
   have htk:=List.take_succ_eq_append_getElem hlt
   have hmem:=List.getElem_mem hlt
   obtain ⟨v,hve⟩:∃ v,v=l[k]:=⟨_,rfl⟩
   rw [<- hve] at c0 c1 c2 htk hmem
   have hst:nullV (l.take (k+1))=decide (v.kind=0):=by
    rw [htk];unfold nullV
    rw [List.any_append]
    have:=Hall.out
    unfold nullV at this
    rw [this];simp
   have hyes:decide (v.kind=0)=true->nullV l=true:=fun h=>List.any_eq_true.2 ⟨v,hmem,h⟩
   have Hst:=lh hst
   have hf:=fun w'=>null1_any v w'
   have hkn:(k:Int) < (l.length:Int):=by omega
   have Hyes:=lh hyes
   clear hst htk hve hyes hmem Hall
   obtain ⟨vk,vn,vt⟩:=v
   dsimp only at c0 c1 c2 hf Hst Hyes
   rcases hb:decide (vk=0) with _ | _
   ·rw [hb] at hf
    have Hf:=lh hf
    have Hs:=lh (Hst.out.trans hb)
    clear hf hb
    go_wp2_with fail
    refine (Hf.out _).mono ?_
    rintro e w1 ⟨rfl,t1⟩
    go_wp2
    go_roundw
    case rel=>exact ⟨k+1,by omega,by go_num,Hs,ht.trans0 t1⟩
    case measure=>simp [intOf];omega
   ·rw [hb] at hf
    have Hf:=lh hf
    have Hs:=lh (Hyes.out hb)
    clear hf hb
    go_wp2_with fail
    refine (Hf.out _).mono ?_
    rintro e w1 ⟨rfl,t1⟩
    go_wp2
    go_ret
    exact ⟨⟨k,rfl,by omega,by omega,by rw [Hs.out];simp⟩,ht.trans0 t1⟩
  ·obtain rfl:k=l.length:=by omega
   have hall:=Hall.out
   rw [List.take_length] at hall
   have Hs:=lh hall
   clear hall
   go_wp2
   go_ret
   exact ⟨⟨-1,rfl,by omega,by omega,by rw [Hs.out];rfl⟩,ht⟩
theorem containsNull_any (A:Option Addr) (c m:Nat) (l:List VD) (hm:l.length=m) (w:World) (hv:ValsAt w A l) (hl2:m<=140737000000000) :
  Calls Tryz.prog 168 #[.slice A m c,.func (.func 169) #[] #[]] w fun e w'=>e=.returned (.bool (nullV l))/\Touch [] w w':=by
 have Hi:=lh (indexNull_any A c m l hm w hv hl2)
 go_enter Tryz.func168,Tryz.ntmps168
 go_wp2_with fail
 refine Hi.out.mono ?_
 rintro e w1 ⟨⟨i,rfl,i1,i2,i3⟩,t1⟩
 have I3:=lh i3
 clear i3
 go_wp2
 go_ret
 exact ⟨ret_bool (by rw [<- I3.out]),t1⟩
theorem null_any (A:Option Addr) (c m:Nat) (l:List VD) (hm:l.length=m) (w:World) (hv:ValsAt w A l) (hl2:m<=140737000000000) :
  Calls Tryz.prog 135 #[.slice A m c] w fun e w'=>e=.returned (.bool (nullV l))/\Touch [] w w':=by
 have Hi:=lh (containsNull_any A c m l hm w hv hl2)
 go_enter Tryz.func135,Tryz.ntmps135
 go_wp2_with fail
 refine Hi.out.mono ?_
 rintro e w1 ⟨rfl,t1⟩
 go_wp2
 go_ret
 exact ⟨rfl,t1⟩
end
section
open Go.RowKit
theorem info_s9:(Tryz.prog.info? 9).map (fun i=>(i.zero,i.size,i.bytes))=some (some (.string ⟨#[]⟩),1,16):=by kernel_rfl
theorem btE_one' (s:ByteArray):∀ u∈btE s,u.oneCell'=true:=by
 intro u hu
 simp only [btE,List.mem_singleton] at hu
 subst hu;rfl
def NamesC (w:World) (x:PC) (l:List ByteArray):Prop:=∀ w',Touch [] w w'->Calls Tryz.prog 59 #[x.val] w' fun e w''=>∃ A c,e=.returned (.slice A l.length c)/\Made 9 1 btE l A c w' w''
theorem NamesC.touch0 {w w':World} {x:PC} {l:List ByteArray} (h:NamesC w x l) (t:Touch [] w w'):NamesC w' x l:=fun w'' t2=>h w'' (t.trans0 t2)
theorem names_node (x:PC) (xs:List PC) (ls:List (List ByteArray)) (w:World) (hk:x.kind≠1) (hxs:xs.length=x.args.n) (hls:ls.length=x.args.n) (hX:RdK pcE w x.args.A xs) (hT:∀ i (h1:i < xs.length) (h2:i < ls.length),NamesC w xs[i] ls[i]) (hsum:ls.flatten.length<=100000) (hnn:x.args.n<=1000000) :
  Calls Tryz.prog 59 #[x.val] w fun e w''=>∃ A c,e=.returned (.slice A (ls.flatten).length c)/\Made 9 1 btE (ls.flatten) A c w w'':=by
 obtain ⟨k0,k1,⟨A2,n2,c2'⟩,⟨⟨ck,cn,⟨cvk,cvn,cvt⟩,cop⟩,CA,cnn,cc⟩,⟨NA,nn,nc⟩,⟨EA,en,ec⟩,⟨OA,ol,oc⟩,⟨GA,gn,gc⟩,⟨BA,bn,bc⟩,count⟩:=x
 dsimp only at hk hxs hls hX hnn ⊢
 have hk1:(k0==1)=false:=by rw [beq_eq_false_iff_ne];exact hk
 clear hk
 simp only [PC.val]
 obtain ⟨W,hW⟩:∃ W,W=w.alloc (.cells #[.int .i64 k0,.string k1,.slice A2 n2 c2',.int .i64 ck,.string cn,.int .i64 cvk,.int .i64 cvn,.string cvt,.string cop,.slice CA cnn cc,.slice NA nn nc,.slice EA en ec,.slice OA ol oc,.slice GA gn gc,.slice BA bn bc,.int .i64 count] 49):=⟨_,rfl⟩
 have t0:Touch [] w W:=hW ▸ (Touch.refl [] w).alloc _
 have HW:=lh hW
 have HT0:=lh t0
 have HX:=lh (RdK.touch0 hX t0)
 have HTy:=lh hT
 have Hxs:=lh hxs
 have Hls:=lh hls
 have Hsum:=lh hsum
 clear hW t0 hX hT hxs hls hsum
 go_enter Tryz.func59,Tryz.ntmps59
 go_wp2_with fail
 rw [<- HW.out]
 go_loopw [3,17] (fun o i wr=>∃ (j:Nat) (A:Option Addr) (c:Nat),j<=n2/\i=.int .i64 j/\o=.slice A ((ls.take j).flatten).length c/\Hid (Made 9 1 btE ((ls.take j).flatten) A c W wr)) (fun _ i _=>n2-(intOf i).toNat)
 case atStart=>exact ⟨0,none,0,by omega,rfl,rfl,lh (Made.nil _ _ _ _)⟩
 case round =>
  obtain ⟨j,A,c,hj,rfl,rfl,HM⟩:=hrel
  by_cases hlt:j < n2
  ·have hjx:j < xs.length:=by rw [Hxs.out];exact hlt
   have hjv:j < ls.length:=by rw [Hls.out];exact hlt
   obtain ⟨ad,b1,o1,rfl,hadd,hc⟩:=RdK.cells (HX.out.touch0 HM.out.t) 16 pcE_length (by omega) j hjx
   have hty:=HTy.out j hjx hjv
   have hst:(ls.take (j+1)).flatten=(ls.take j).flatten++ls[j]:=by rw [List.take_succ_eq_append_getElem hjv,List.flatten_append];simp
   have hsl:((ls.take j).flatten).length+ls[j].length<=100000:=by
    have h1:=congrArg List.length hst
    rw [List.length_append] at h1
    have h2:ls.flatten.length=(ls.take (j+1)).flatten.length+(ls.drop (j+1)).flatten.length:=by rw [<- List.length_append,<- List.flatten_append,List.take_append_drop]
    have:=Hsum.out
    omega
   obtain ⟨y,hy⟩:∃ y,y=xs[j]:=⟨_,rfl⟩
   obtain ⟨u,hu⟩:∃ u,u=ls[j]:=⟨_,rfl⟩
   rw [<- hy] at hc hty
   rw [<- hu] at hty hst hsl
   obtain ⟨y0,y1,⟨yA2,yn2,yc2⟩,⟨⟨yck,ycn,⟨ycvk,ycvn,ycvt⟩,ycop⟩,yCA,ycnn,ycc⟩,⟨yNA,ynn,ync⟩,⟨yEA,yen,yec⟩,⟨yOA,yol,yoc⟩,⟨yGA,ygn,ygc⟩,⟨yBA,ybn,ybc⟩,ycount⟩:=y
   have e0:=hc 0 _ rfl;have e1:=hc 1 _ rfl;have e2:=hc 2 _ rfl;have e3:=hc 3 _ rfl;have e4:=hc 4 _ rfl;have e5:=hc 5 _ rfl;have e6:=hc 6 _ rfl;have e7:=hc 7 _ rfl
   have e8:=hc 8 _ rfl;have e9:=hc 9 _ rfl;have e10:=hc 10 _ rfl;have e11:=hc 11 _ rfl;have e12:=hc 12 _ rfl;have e13:=hc 13 _ rfl;have e14:=hc 14 _ rfl;have e15:=hc 15 _ rfl
   rw [Nat.add_zero] at e0
   dsimp only at e0 e1 e2 e3 e4 e5 e6 e7 e8 e9 e10 e11 e12 e13 e14 e15
   have ta:=(Touch.refl [] wr).alloc (.cells #[.int .i64 y0,.string y1,.slice yA2 yn2 yc2,.int .i64 yck,.string ycn,.int .i64 ycvk,.int .i64 ycvn,.string ycvt,.string ycop,.slice yCA ycnn ycc,.slice yNA ynn ync,.slice yEA yen yec,.slice yOA yol yoc,.slice yGA ygn ygc,.slice yBA ybn ybc,.int .i64 ycount] 49)
   have hty2:=hty _ ((HT0.out.trans0 HM.out.t).trans0 ta)
   simp only [PC.val] at hty2
   have Hty:=lh hty2
   have Hst:=lh hst
   have Hsl:=lh hsl
   have HTa:=lh ta
   have hjn:(j:Int) < (n2:Int):=by omega
   obtain ⟨P,hP⟩:∃ P,P=(ls.take j).flatten:=⟨_,rfl⟩
   have HP:=lh hP
   have Hpl:=lh (show P.length+u.length<=200000 by rw [hP];omega)
   rw [<- hP] at HM ⊢
   clear hc hty hty2 hy hu ta hst hsl hP
   go_wp2_with fail
   refine Hty.out.mono ?_
   rintro e w1 ⟨A1,c1,rfl,hm1⟩
   have HM1:=lh (HM.out.touch0 (HTa.out.trans0 hm1.t))
   have HN1:=lh hm1.own.rd
   clear hm1
   go_wp2_with (at_builtin;refine stop ?_)
   refine go ?_
   refine wpList_appK (enc:=btE) rfl (.tmp 21) (.tmp 23) 45 rfl 9 _ 1 16 info_s9 Tryz.underlying45 rfl (by omega) btE_length btE_one' A P.length c _ rfl rfl HM1.out.own
    A1 u.length c1 u rfl rfl HN1.out (by have:=Hpl.out;omega) (by omega) ?_
   intro A' c' w' hown ht hf
   have HX1:=lh (HM1.out.step hown ht hf)
   clear hown ht hf
   go_wp2_with fail
   go_roundw
   case rel =>
    have hnx:(ls.take (j+1)).flatten=P++u:=by rw [Hst.out,HP.out]
    exact ⟨j+1,A',c',by omega,by go_num,by rw [hnx,List.length_append],lh (by rw [hnx];exact HX1.out)⟩
   case measure=>simp [intOf];omega
  ·obtain rfl:j=n2:=by omega
   have htk:ls.take j=ls:=by rw [<- Hls.out,List.take_length]
   rw [htk] at HM ⊢
   go_wp2_with fail
   go_ret
   exact ⟨A,c,rfl,HM.out.own,HT0.out.trans0 HM.out.t,fun b hb=>Nat.le_trans HT0.out.size (HM.out.f b hb)⟩
theorem names_scan (x:PC) (xs:List PC) (ls:List (List ByteArray)) (w:World) (hk:x.kind=1) (hxs:xs.length=x.args.n) (hls:ls.length=x.args.n) (hX:RdK pcE w x.args.A xs) (hT:∀ i (h1:i < xs.length) (h2:i < ls.length),NamesC w xs[i] ls[i]) (hsum:ls.flatten.length<=100000) (hnn:x.args.n<=1000000) :
  Calls Tryz.prog 59 #[x.val] w fun e w''=>∃ A c,e=.returned (.slice A (x.name :: ls.flatten).length c)/\Made 9 1 btE (x.name :: ls.flatten) A c w w'':=by
 obtain ⟨k0,k1,⟨A2,n2,c2'⟩,⟨⟨ck,cn,⟨cvk,cvn,cvt⟩,cop⟩,CA,cnn,cc⟩,⟨NA,nn,nc⟩,⟨EA,en,ec⟩,⟨OA,ol,oc⟩,⟨GA,gn,gc⟩,⟨BA,bn,bc⟩,count⟩:=x
 dsimp only at hk hxs hls hX hnn ⊢
 subst hk
 simp only [PC.val]
 obtain ⟨W,hW⟩:∃ W,W=w.alloc (.cells #[.int .i64 1,.string k1,.slice A2 n2 c2',.int .i64 ck,.string cn,.int .i64 cvk,.int .i64 cvn,.string cvt,.string cop,.slice CA cnn cc,.slice NA nn nc,.slice EA en ec,.slice OA ol oc,.slice GA gn gc,.slice BA bn bc,.int .i64 count] 49):=⟨_,rfl⟩
 have t0:Touch [] w W:=hW ▸ (Touch.refl [] w).alloc _
 have HW:=lh hW
 have HT0:=lh t0
 have HX:=lh (RdK.touch0 hX t0)
 have HTy:=lh hT
 have Hxs:=lh hxs
 have Hls:=lh hls
 have Hsum:=lh hsum
 clear hW t0 hX hT hxs hls hsum
 go_enter Tryz.func59,Tryz.ntmps59
 go_wp2_with (at_builtin;refine stop ?_)
 refine go ?_
 rw [<- HW.out]
 have ta:=(Touch.refl [] W).alloc (.cells #[.string k1] 9)
 have hr:=RdK.one (enc:=btE) W 9 k1 #[.string k1] rfl
 rw [show W.heap.size=w.heap.size+1 by rw [HW.out];simp] at hr
 refine wpList_appK (enc:=btE) rfl (.tmp 9) (.tmp 12) 45 rfl 9 _ 1 16 info_s9 Tryz.underlying45 rfl (by omega) btE_length btE_one' none 0 0 [] rfl rfl (OwnK.nil _ _ _ _)
  (some ⟨w.heap.size+1,0,none⟩) 1 1 [k1] rfl rfl hr (by omega) (by omega) ?_
 intro A0 c0 w0 hown ht hf
 have HB0:=lh ((Made.nil 9 1 btE W).touch0 ta |>.step hown ht hf)
 clear hown ht hf ta hr
 have hb0:W.heap[w.heap.size]?=some (.cells #[.int .i64 1,.string k1,.slice A2 n2 c2',.int .i64 ck,.string cn,.int .i64 cvk,.int .i64 cvn,.string cvt,.string cop,.slice CA cnn cc,.slice NA nn nc,.slice EA en ec,.slice OA ol oc,.slice GA gn gc,.slice BA bn bc,.int .i64 count] 49 (0,0)):=HW.out ▸ heap_alloc_new w (.cells #[.int .i64 1,.string k1,.slice A2 n2 c2',.int .i64 ck,.string cn,.int .i64 cvk,.int .i64 cvn,.string cvt,.string cop,.slice CA cnn cc,.slice NA nn nc,.slice EA en ec,.slice OA ol oc,.slice GA gn gc,.slice BA bn bc,.int .i64 count] 49)
 have q2:w0.cell? ⟨w.heap.size,2,none⟩=some (.slice A2 n2 c2'):=cell_blk (HB0.out.t.blk hb0 (by simp)) rfl
 clear hb0
 go_wp2_with fail
 go_loopw [3,17] (fun o i wr=>∃ (j:Nat) (A:Option Addr) (c:Nat),j<=n2/\i=.int .i64 j/\o=.slice A (k1 :: (ls.take j).flatten).length c/\Hid (Made 9 1 btE (k1 :: (ls.take j).flatten) A c W wr)) (fun _ i _=>n2-(intOf i).toNat)
 case atStart=>exact ⟨0,A0,c0,by omega,rfl,rfl,HB0⟩
 case round =>
  obtain ⟨j,A,c,hj,rfl,rfl,HM⟩:=hrel
  by_cases hlt:j < n2
  ·have hjx:j < xs.length:=by rw [Hxs.out];exact hlt
   have hjv:j < ls.length:=by rw [Hls.out];exact hlt
   obtain ⟨ad,b1,o1,rfl,hadd,hc⟩:=RdK.cells (HX.out.touch0 HM.out.t) 16 pcE_length (by omega) j hjx
   have hty:=HTy.out j hjx hjv
   have hst:(ls.take (j+1)).flatten=(ls.take j).flatten++ls[j]:=by rw [List.take_succ_eq_append_getElem hjv,List.flatten_append];simp
   have hsl:((ls.take j).flatten).length+ls[j].length<=100000:=by
    have h1:=congrArg List.length hst
    rw [List.length_append] at h1
    have h2:ls.flatten.length=(ls.take (j+1)).flatten.length+(ls.drop (j+1)).flatten.length:=by rw [<- List.length_append,<- List.flatten_append,List.take_append_drop]
    have:=Hsum.out
    omega
   obtain ⟨y,hy⟩:∃ y,y=xs[j]:=⟨_,rfl⟩
   obtain ⟨u,hu⟩:∃ u,u=ls[j]:=⟨_,rfl⟩
   rw [<- hy] at hc hty
   rw [<- hu] at hty hst hsl
   obtain ⟨y0,y1,⟨yA2,yn2,yc2⟩,⟨⟨yck,ycn,⟨ycvk,ycvn,ycvt⟩,ycop⟩,yCA,ycnn,ycc⟩,⟨yNA,ynn,ync⟩,⟨yEA,yen,yec⟩,⟨yOA,yol,yoc⟩,⟨yGA,ygn,ygc⟩,⟨yBA,ybn,ybc⟩,ycount⟩:=y
   have e0:=hc 0 _ rfl;have e1:=hc 1 _ rfl;have e2:=hc 2 _ rfl;have e3:=hc 3 _ rfl;have e4:=hc 4 _ rfl;have e5:=hc 5 _ rfl;have e6:=hc 6 _ rfl;have e7:=hc 7 _ rfl
   have e8:=hc 8 _ rfl;have e9:=hc 9 _ rfl;have e10:=hc 10 _ rfl;have e11:=hc 11 _ rfl;have e12:=hc 12 _ rfl;have e13:=hc 13 _ rfl;have e14:=hc 14 _ rfl;have e15:=hc 15 _ rfl
   rw [Nat.add_zero] at e0
   dsimp only at e0 e1 e2 e3 e4 e5 e6 e7 e8 e9 e10 e11 e12 e13 e14 e15
   have ta:=(Touch.refl [] wr).alloc (.cells #[.int .i64 y0,.string y1,.slice yA2 yn2 yc2,.int .i64 yck,.string ycn,.int .i64 ycvk,.int .i64 ycvn,.string ycvt,.string ycop,.slice yCA ycnn ycc,.slice yNA ynn ync,.slice yEA yen yec,.slice yOA yol yoc,.slice yGA ygn ygc,.slice yBA ybn ybc,.int .i64 ycount] 49)
   have hty2:=hty _ ((HT0.out.trans0 HM.out.t).trans0 ta)
   simp only [PC.val] at hty2
   have Hty:=lh hty2
   have Hst:=lh hst
   have Hsl:=lh hsl
   have HTa:=lh ta
   have hjn:(j:Int) < (n2:Int):=by omega
   obtain ⟨P,hP⟩:∃ P,P=k1 :: (ls.take j).flatten:=⟨_,rfl⟩
   have HP:=lh hP
   have Hpl:=lh (show P.length+u.length<=200000 by rw [hP];simp only [List.length_cons];omega)
   rw [<- hP] at HM ⊢
   clear hc hty hty2 hy hu ta hst hsl hP
   go_wp2_with fail
   refine Hty.out.mono ?_
   rintro e w1 ⟨A1,c1,rfl,hm1⟩
   have HM1:=lh (HM.out.touch0 (HTa.out.trans0 hm1.t))
   have HN1:=lh hm1.own.rd
   clear hm1
   go_wp2_with (at_builtin;refine stop ?_)
   refine go ?_
   refine wpList_appK (enc:=btE) rfl (.tmp 21) (.tmp 23) 45 rfl 9 _ 1 16 info_s9 Tryz.underlying45 rfl (by omega) btE_length btE_one' A P.length c _ rfl rfl HM1.out.own
    A1 u.length c1 u rfl rfl HN1.out (by have:=Hpl.out;omega) (by omega) ?_
   intro A' c' w' hown ht hf
   have HX1:=lh (HM1.out.step hown ht hf)
   clear hown ht hf
   go_wp2_with fail
   go_roundw
   case rel =>
    have hnx:k1 :: (ls.take (j+1)).flatten=P++u:=by rw [Hst.out,HP.out];rfl
    exact ⟨j+1,A',c',by omega,by go_num,by rw [hnx,List.length_append],lh (by rw [hnx];exact HX1.out)⟩
   case measure=>simp [intOf];omega
  ·obtain rfl:j=n2:=by omega
   have htk:ls.take j=ls:=by rw [<- Hls.out,List.take_length]
   rw [htk] at HM ⊢
   go_wp2_with fail
   go_ret
   exact ⟨A,c,rfl,HM.out.own,HT0.out.trans0 HM.out.t,fun b hb=>Nat.le_trans HT0.out.size (HM.out.f b hb)⟩
end
end Go.Proofs.YtafoklilkdnepaaGreatDoor
