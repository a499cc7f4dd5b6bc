/- Part 36 of the texts of this proof, one behind the other. No condition beyond those that its theorems state. -/
import Derived.Test.YtafoklilkdnepaaGreatDoorRe35
set_option linter.all false
set_option maxRecDepth 40000
set_option maxHeartbeats 25600000
namespace Go.Proofs.YtafoklilkdnepaaGreatDoor
section
open Go.RowKit
theorem FZ{m:Nat}(x:PC)(d:PD m)(sx rx sy ry:SL)(a b:List CD)(ra rb:List (List VD))(w:World)(hP:PlanAt w x d)(hX:TabAt w sx rx a ra)(hY:TabAt w sy ry b rb)(hd:d.In)(hta:TbIn a ra)(htb:TbIn b rb)(hG:gm w)(hPw:iT w)(h1:gO a ra=true)(h2:gO b rb=true)(h3:j6 d=true)(h4:d.kind≠1)(LR:Int × List (List VD))(hLR:∀ (y:PC) (SS:Option Addr) (ssn ssc:Nat) w',y.kind=d.kind->PlanAt w' y d->TabAt w' sx rx a ra->TabAt w' sy ry b rb->(fE d a ra b rb).1=0->Calls Tryz.prog 21 #[y.val,.agg #[.slice sx.A sx.n sx.c,.slice rx.A rx.n rx.c],.agg #[.slice sy.A sy.n sy.c,.slice ry.A ry.n ry.c],.slice SS ssn ssc] w' (eX LR w'))(he1:(fE d a ra b rb).1=0->LR.1≠0->fK d a ra b rb=(LR.1,[],[]))(he2:(fE d a ra b rb).1=0->LR.1=0->(fK d a ra b rb).1=0/\(fK d a ra b rb).2.1=(fE d a ra b rb).2/\ft (fK d a ra b rb).2.1 (fK d a ra b rb).2.2=0/\fe (fK d a ra b rb).2.2/\gR (fK d a ra b rb).2.2/\fe LR.2/\(fK d a ra b rb).2.2.length<=100000/\(∀ c∈(fE d a ra b rb).2,c.Ok)/\(fE d a ra b rb).2.length<=1000000/\∀ P:List RP,P.map (·.2)=LR.2->(gz P).map (·.2)=(fK d a ra b rb).2.2): Calls Tryz.prog 5 #[kC x sx rx sy ry] w λe w'=>e=.returned (.bool true)/\Touch [] w w':=by
 have Hst:=lh λw'(t:Touch [] w w')=>jy (hX.touch0 t) hta;have Hsu:=lh λw'(t:Touch [] w w')=>jy (hY.touch0 t) htb;have Hsp:=lh λw'(t:Touch [] w w')=>j1 m x d hd.ok w' (hP.touch0 t);have Haw:=lh λw'(t:Touch [] w w')=>lm w' (hG.touch0 t);have Hsc:=lh λw'=>lw x sx rx sy ry w';have HP:=lh hP;have HX:=lh hX;have HY:=lh hY;have HD:=lh hd;have HTA:=lh hta;have HTB:=lh htb;have HG:=lh hG;have HPW:=lh hPw;have Hkd:=lh hP.kind;clear hP hX hY hd hta htb hG hPw;obtain⟨k0,k1,⟨A2,n2,c2'⟩,⟨⟨ck,cn,⟨cvk,cvn,cvt⟩,cop⟩,CA,cnn,cc⟩,⟨NA,nn,nc⟩,⟨EA,en,ec⟩,⟨OA,ol,oc⟩,⟨GA,gn,gc⟩,⟨BA,bn,bc⟩,count⟩:=x;obtain⟨sxA,sxn,sxc⟩:=sx;obtain⟨rxA,rxn,rxc⟩:=rx;obtain⟨syA,syn,syc⟩:=sy;obtain⟨ryA,ryn,ryc⟩:=ry;simp only[kC,PC.val] at *;have h4':(k0==1)=false:=by rw[aw];exact λq=>h4 (Hkd.o.symm.trans q)
 have Hfd:=lh (HD.o.fine5 (pQ h3));have Hoa:=lh (HTA.o.tb h1);have Hob:=lh (HTB.o.tb h2);have H4:=lh h4;have HLR:=Gc hLR he1 he2;clear h4 hLR he1 he2;rw[h1] at Hst;rw[h2] at Hsu;rw[h3] at Hsp;clear h1 h2 h3;obtain⟨W,hW⟩:∃W,W=w.alloc (.cells #[.int .i64 k0,.string k1,.slice A2 n2 c2',.int .i64 ck,.string cn,.int .i64 cvk,.int .i64 cvn,.string cvt,.string cop,.slice CA cnn cc,.slice NA nn nc,.slice EA en ec,.slice OA ol oc,.slice GA gn gc,.slice BA bn bc,.int .i64 count,.slice sxA sxn sxc,.slice rxA rxn rxc,.slice syA syn syc,.slice ryA ryn ryc] 55):=⟨_,rfl⟩;have HT:=lh (show Touch [] w W from hW ▸ (Touch.refl [] w).alloc _);have HB:=lh (show W.heap[w.heap.size]?=some (.cells #[.int .i64 k0,.string k1,.slice A2 n2 c2',.int .i64 ck,.string cn,.int .i64 cvk,.int .i64 cvn,.string cvt,.string cop,.slice CA cnn cc,.slice NA nn nc,.slice EA en ec,.slice OA ol oc,.slice GA gn gc,.slice BA bn bc,.int .i64 count,.slice sxA sxn sxc,.slice rxA rxn rxc,.slice syA syn syc,.slice ryA ryn ryc] 55 (0,0)) from hW ▸ ah w _);have HWS:=lh (show W.heap.size=w.heap.size+1 by rw[hW];simp);have HW:=lh hW;clear hW;go_enter Tryz.func5,Tryz.ntmps5;go_upto_region 1 with fail;rw[<- HW.o];go_cut [32] (λc wx=>c=.bool false/\Ga (Touch [] W wx))
 case first =>have c0_16:W.cell? ⟨w.heap.size,16,none⟩=some (.slice sxA sxn sxc):=d_ HB.o rfl;have c0_17:W.cell? ⟨w.heap.size,17,none⟩=some (.slice rxA rxn rxc):=d_ HB.o rfl;go_wp2_with fail;refine(Hst.o _ HT.o).mono ?_;rintro e w1 ⟨rfl,t1⟩;have T1:=lh ((Touch.refl [] W).trans0 t1);have B1:=lh (T1.o.blk HB.o (by simp));clear t1;have c1_18:w1.cell? ⟨w.heap.size,18,none⟩=some (.slice syA syn syc):=d_ B1.o rfl;have c1_19:w1.cell? ⟨w.heap.size,19,none⟩=some (.slice ryA ryn ryc):=d_ B1.o rfl;go_wp2_with fail;refine(Hsu.o _ (HT.o.trans0 T1.o)).mono ?_;rintro e w2 ⟨rfl,t2⟩;have T2:=lh (T1.o.trans0 t2);have B2:=lh (T2.o.blk HB.o (by simp));clear t2;clear c1_18 c1_19;obtain⟨c2_0,c2_1,c2_2,c2_3,c2_4,c2_5,c2_6,c2_7,c2_8,c2_9,c2_10,c2_11,c2_12,c2_13,c2_14,c2_15, -⟩:=vV B2.o;go_wp2_with fail;refine(Hsp.o _ (HT.o.trans0 T2.o)).mono ?_;rintro e w3 ⟨rfl,t3⟩;have T3:=lh (T2.o.trans0 t3);have B3:=lh (T3.o.blk HB.o (by simp));clear t3;clear c2_0 c2_1 c2_2 c2_3 c2_4 c2_5 c2_6 c2_7 c2_8 c2_9 c2_10 c2_11 c2_12 c2_13 c2_14 c2_15;have c3_0:w3.cell? ⟨w.heap.size,0,none⟩=some (.int .i64 k0):=d_ B3.o rfl;go_wp2_with fail;go_meet;exact⟨rfl,T3⟩
 case rest =>
 obtain⟨rfl,T3⟩:=hcut;obtain⟨w3,hw3⟩:∃w3,w3=wc:=⟨_,rfl⟩;subst hw3;have B3:=lh (T3.o.blk HB.o (by simp));have Hs3:=lh (show w.heap.size+1<=w3.heap.size by have:=T3.o.size;have:=HWS.o;omega);clear Hst Hsu Hsp HW h4';go_upto_region 3 with fail;go_cut [3,4] (λv5 v6 wx=>∃(A:Option Addr)(n c:Nat)(I:Option Addr)(G:Nat),v5=.pointer (some ⟨G,0,none⟩)/\v6=.slice I 3 3/\Ga ((n:Int)=eN k0/\d9 ir wx A ([eH ⟨#[120]⟩,eH ⟨#[121]⟩].take n)/\d9 st wx I [⟨⟨#[120]⟩,⟨sxA,sxn,sxc⟩,⟨rxA,rxn,rxc⟩⟩,⟨⟨#[121]⟩,⟨syA,syn,syc⟩,⟨ryA,ryn,ryc⟩⟩,⟨⟨#[120]⟩,kE,kE⟩]/\wx.heap[G]?=some (.cells #[.int .i64 k0,.string k1,.slice A n c,.int .i64 ck,.string cn,.int .i64 cvk,.int .i64 cvn,.string cvt,.string cop,.slice CA cnn cc,.slice NA nn nc,.slice EA en ec,.slice OA ol oc,.slice GA gn gc,.slice BA bn bc,.int .i64 count] 49 (0,0))/\Touch [] w3 wx))
 case first =>refine wp_region_lit (l:=[_,_,_,_,_,_,_,_]) ?_;refine wpList_load_mid rfl 55 (.tmp 1) rfl w.heap.size 0 rfl [.int .i64 k0,.string k1,.slice A2 n2 c2',.int .i64 ck,.string cn,.int .i64 cvk,.int .i64 cvn,.string cvt,.string cop,.slice CA cnn cc,.slice NA nn nc,.slice EA en ec,.slice OA ol oc,.slice GA gn gc,.slice BA bn bc,.int .i64 count,.slice sxA sxn sxc,.slice rxA rxn rxc,.slice syA syn syc,.slice ryA ryn ryc] _ (kJ B3.o) Tryz.underlying55 rfl (by kernel_rfl) ?_;go_frame;go_wp2_with fail;refine(Hsc.o _).mono ?_;rintro e w4 ⟨A,n,c,I,rfl,hn,hA,hI,t4,hfA,hfI⟩;have ta:=(Touch.refl [] w4).alloc (.cells #[.int .i64 k0,.string k1,.slice A n c,.int .i64 ck,.string cn,.int .i64 cvk,.int .i64 cvn,.string cvt,.string cop,.slice CA cnn cc,.slice NA nn nc,.slice EA en ec,.slice OA ol oc,.slice GA gn gc,.slice BA bn bc,.int .i64 count] 49);have HF:=Ge hn (d9.touch0 hA ta) (d9.touch0 hI ta) (ah w4 (.cells #[.int .i64 k0,.string k1,.slice A n c,.int .i64 ck,.string cn,.int .i64 cvk,.int .i64 cvn,.string cvt,.string cop,.slice CA cnn cc,.slice NA nn nc,.slice EA en ec,.slice OA ol oc,.slice GA gn gc,.slice BA bn bc,.int .i64 count] 49)) (t4.trans0 ta);clear hn hA hI t4 ta hfA hfI;go_wp2_with fail;go_meet;exact⟨A,n,c,I,_,rfl,rfl,HF⟩
 case rest =>
 obtain⟨A,n,c,I,G,rfl,rfl,HF⟩:=hcut;obtain⟨w5,hw5⟩:∃w5,w5=wc:=⟨_,rfl⟩;subst hw5;have G5:=lh HF.o.2.2.2.1;have TW5:=lh (HT.o.trans0 (T3.o.trans0 HF.o.2.2.2.2));have HEV:=lh (⟨HG.o.touch0 TW5.o,HPW.o.touch0 TW5.o,(HP.o.touch0 TW5.o).args ⟨A,n,c⟩,Hfd.o,Hoa.o,Hob.o,
  ⟨_,rfl,HF.o.2.2.1,λi i1 i2=>by
   have:i=0\/i=1\/i=2:=by simp at i1;omega
   rcases this with rfl|rfl|rfl
   ·exact⟨rfl,HX.o.touch0 TW5.o⟩
   ·exact⟨rfl,HY.o.touch0 TW5.o⟩
   exact⟨rfl,rfl,aL _,d9.nil _ _ _,rfl,[],⟨rfl,λi h=>absurd h (by simp)⟩,d9.nil _ _ _⟩⟩,
  HF.o.1.trans (bf eN Hkd.o),HF.o.2.1,H4.o⟩:EvAt w5 d (⟨k0,k1,⟨A,n,c⟩,⟨⟨ck,cn,⟨cvk,cvn,cvt⟩,cop⟩,CA,cnn,cc⟩,⟨NA,nn,nc⟩,⟨EA,en,ec⟩,⟨OA,ol,oc⟩,⟨GA,gn,gc⟩,⟨BA,bn,bc⟩,count⟩:PC) I a ra b rb)
 have hev:=HEV.o.eval 3;have Hty:=lh λw'(t:Touch [] w w')=>FO d Hfd.o (⟨k0,k1,⟨A,n,c⟩,⟨⟨ck,cn,⟨cvk,cvn,cvt⟩,cop⟩,CA,cnn,cc⟩,⟨NA,nn,nc⟩,⟨EA,en,ec⟩,⟨OA,ol,oc⟩,⟨GA,gn,gc⟩,⟨BA,bn,bc⟩,count⟩:PC) a ra b rb Hoa.o Hob.o w' ((HP.o.touch0 t).args ⟨A,n,c⟩) (λq=>absurd q H4.o) ⟨sxA,sxn,sxc⟩ ⟨rxA,rxn,rxc⟩ ⟨syA,syn,syc⟩ ⟨ryA,ryn,ryc⟩ (HX.o.touch0 t) (HY.o.touch0 t);have HLR2:=lh λ(SS:Option Addr)(ssn ssc:Nat)w'(t:Touch [] w w')(h0:(fE d a ra b rb).1=0)=>HLR.o.1 (⟨k0,k1,⟨A,n,c⟩,⟨⟨ck,cn,⟨cvk,cvn,cvt⟩,cop⟩,CA,cnn,cc⟩,⟨NA,nn,nc⟩,⟨EA,en,ec⟩,⟨OA,ol,oc⟩,⟨GA,gn,gc⟩,⟨BA,bn,bc⟩,count⟩:PC) SS ssn ssc w' Hkd.o ((HP.o.touch0 t).args ⟨A,n,c⟩) (HX.o.touch0 t) (HY.o.touch0 t) h0;have He1:=lh HLR.o.2.1;have He2:=lh HLR.o.2.2;clear HLR;obtain⟨E,hE⟩:∃E,E=fK d a ra b rb:=⟨_,rfl⟩;obtain⟨T,hT⟩:∃T,T=fE d a ra b rb:=⟨_,rfl⟩;rw[<- hE,<- hT] at hev He1 He2;rw[<- hT] at Hty HLR2;obtain⟨V,hV⟩:∃V,V=kf T E:=⟨_,rfl⟩;rw[<- hV] at hev;have HV:=lh hV;obtain⟨er,vcs,vrows⟩:=V;obtain⟨et,tcs⟩:=T;obtain⟨el,lrows⟩:=LR;dsimp only at He1 He2 HLR2;simp only[PC.val] at hev Hty HLR2;have Hev:=lh hev;clear hV hE hT hev Hsc HEV;go_upto_region 4 with fail;go_cut [5,6] (λv1 v2 wx=>∃(ag:Nat)(aA:Option Addr)(ak ad:Nat)(aB:Option Addr)(aj af:Nat),v1=.pointer (some ⟨ag,0,none⟩)/\v2=.int .i64 er/\Ga (Touch [] w5 wx/\wx.heap[ag]?=some (.cells #[.slice aA ak ad,.slice aB aj af] 27 (0,0))/\TabAt wx ⟨aA,ak,ad⟩ ⟨aB,aj,af⟩ vcs vrows))
 case first =>refine wp_region_lit (l:=[_,_,_,_,_,_,_,_,_]) ?_;refine wpList_load_mid rfl 49 (.tmp 3) rfl G 0 rfl [.int .i64 k0,.string k1,.slice A n c,.int .i64 ck,.string cn,.int .i64 cvk,.int .i64 cvn,.string cvt,.string cop,.slice CA cnn cc,.slice NA nn nc,.slice EA en ec,.slice OA ol oc,.slice GA gn gc,.slice BA bn bc,.int .i64 count] _ (kJ G5.o) dK rfl (by kernel_rfl) ?_;go_frame;go_wp2_with fail;refine Hev.o.mono ?_;rintro e0 w0 ⟨⟨A1,k1',d1⟩,⟨B1,j1',f1⟩,rfl,hnt,t0⟩;have H0:=Gb hnt.tab t0;clear hnt t0;go_wp2_with fail;go_meet;have tb:=(Touch.refl [] w0).alloc (.cells #[.slice A1 k1' d1,.slice B1 j1' f1] 27);exact⟨_,A1,k1',d1,B1,j1',f1,rfl,rfl,lh ⟨H0.o.2.trans0 tb,ah w0 _,H0.o.1.touch0 tb⟩⟩
 case rest =>
 obtain⟨ag,aA,ak,ad,aB,aj,af,rfl,rfl,Ha⟩:=hcut;obtain⟨w6,hw6⟩:∃w6,w6=wc:=⟨_,rfl⟩;subst hw6;have TW6:=lh (TW5.o.trans0 Ha.o.1);have B6:=lh ((T3.o.trans0 (HF.o.2.2.2.2.trans0 Ha.o.1)).blk HB.o (by simp));have G6:=lh (Ha.o.1.blk G5.o (by simp));have Hty6:=lh (Hty.o w6 TW6.o);go_upto_region 5 with fail;go_cut [7,8] (λv1 v2 wx=>∃(SS:Option Addr)(sn sc:Nat),v1=.slice SS sn sc/\v2=.int .i64 et/\Ga (sn=tcs.length/\em wx SS tcs/\Touch [] w6 wx))
 case first =>have c6_16:w6.cell? ⟨w.heap.size,16,none⟩=some (.slice sxA sxn sxc):=d_ B6.o rfl;have c6_17:w6.cell? ⟨w.heap.size,17,none⟩=some (.slice rxA rxn rxc):=d_ B6.o rfl;have c6_18:w6.cell? ⟨w.heap.size,18,none⟩=some (.slice syA syn syc):=d_ B6.o rfl;have c6_19:w6.cell? ⟨w.heap.size,19,none⟩=some (.slice ryA ryn ryc):=d_ B6.o rfl;refine wp_region_lit (l:=[_,_,_,_,_,_,_,_,_,_,_]) ?_;refine wpList_load_mid rfl 49 (.tmp 3) rfl G 0 rfl [.int .i64 k0,.string k1,.slice A n c,.int .i64 ck,.string cn,.int .i64 cvk,.int .i64 cvn,.string cvt,.string cop,.slice CA cnn cc,.slice NA nn nc,.slice EA en ec,.slice OA ol oc,.slice GA gn gc,.slice BA bn bc,.int .i64 count] _ (kJ G6.o) dK rfl (by kernel_rfl) ?_;go_frame;go_wp2_with fail;refine Hty6.o.mono ?_;rintro e0 w0 ⟨⟨sA,sn,sc⟩,rfl,s1,s2,t0⟩;have H0:=Gc s1 s2 t0;clear s1 s2 t0;go_wp2_with fail;go_meet;exact⟨sA,sn,sc,rfl,rfl,H0⟩
 case rest =>
 obtain⟨SS,ssn,ssc,rfl,rfl,HS⟩:=hcut;obtain⟨w7,hw7⟩:∃w7,w7=wc:=⟨_,rfl⟩;subst hw7;have TW7:=lh (TW6.o.trans0 HS.o.2.2);have Ag7:=lh (HS.o.2.2.blk Ha.o.2.1 (by simp));by_cases ht:et=0
 ·subst ht;have HVE:=lh (show ((er,vcs,vrows):Int × List CD × List (List VD))=E from HV.o.trans (ae rfl));have G7:=lh (HS.o.2.2.blk G6.o (by simp));have B7:=lh (HS.o.2.2.blk B6.o (by simp));have HL7:=lh (HLR2.o SS ssn ssc w7 TW7.o rfl);go_upto_region 8 with fail;go_cut [9,10] (λv1 v2 wx=>∃(RS:Option Addr)(rn rc:Nat),v1=.slice RS rn rc/\v2=.int .i64 el/\Ga (rn=lrows.length/\eW wx RS lrows/\Touch [] w7 wx))
  case first =>have c7_16:w7.cell? ⟨w.heap.size,16,none⟩=some (.slice sxA sxn sxc):=d_ B7.o rfl;have c7_17:w7.cell? ⟨w.heap.size,17,none⟩=some (.slice rxA rxn rxc):=d_ B7.o rfl;have c7_18:w7.cell? ⟨w.heap.size,18,none⟩=some (.slice syA syn syc):=d_ B7.o rfl;have c7_19:w7.cell? ⟨w.heap.size,19,none⟩=some (.slice ryA ryn ryc):=d_ B7.o rfl;refine wp_region_lit (l:=[_,_,_,_,_,_,_,_,_,_,_,_]) ?_;refine wpList_load_mid rfl 49 (.tmp 3) rfl G 0 rfl [.int .i64 k0,.string k1,.slice A n c,.int .i64 ck,.string cn,.int .i64 cvk,.int .i64 cvn,.string cvt,.string cop,.slice CA cnn cc,.slice NA nn nc,.slice EA en ec,.slice OA ol oc,.slice GA gn gc,.slice BA bn bc,.int .i64 count] _ (kJ G7.o) dK rfl (by kernel_rfl) ?_;go_frame;go_wp2_with fail;refine HL7.o.mono ?_;rintro e0 w0 ⟨⟨sA,sn,sc⟩,rfl,s1,s2,t0⟩;have H0:=Gc s1 s2 t0;clear s1 s2 t0;go_wp2_with fail;go_meet;exact⟨sA,sn,sc,rfl,rfl,H0⟩
  case rest =>
  obtain⟨RS,rn,rc,rfl,rfl,HRR⟩:=hcut;obtain⟨w8,hw8⟩:∃w8,w8=wc:=⟨_,rfl⟩;subst hw8;have TW8:=lh (TW7.o.trans0 HRR.o.2.2);have Ag8:=lh (HRR.o.2.2.blk Ag7.o (by simp));have At8:=lh (Ha.o.2.2.touch0 (HS.o.2.2.trans0 HRR.o.2.2));obtain⟨g0,g1, -, -⟩:=eL Ag8.o;by_cases hl:el=0
  ·subst hl;obtain⟨e1,e2,e3,e4,e5,e6,e7,e8,e9,e10⟩:=He2.o rfl rfl;rw[<- HVE.o] at e1 e2 e3 e4 e5 e7 e10;dsimp only at e1 e2 e3 e4 e5 e7 e10;subst e1;subst e2;obtain rfl:ak=vcs.length:=At8.o.n;obtain rfl:ssn=vcs.length:=HS.o.1;have Heq:=lh λw'(t:Touch [] w8 w')=>mX aA SS ad ssc vcs.length vcs.length vcs vcs rfl rfl w' ((At8.o.cols).touch0 t) (em.touch0 HS.o.2.1 (HRR.o.2.2.trans0 t)) (by omega) (by omega);rw[show iH vcs vcs=true from (oZ vcs vcs).2 rfl] at Heq;have His:=lh λw'(t:Touch [] w8 w')=>FC ⟨aA,vcs.length,ad⟩ ⟨aB,aj,af⟩ vcs vrows lrows RS rn rc w' (At8.o.touch0 t) e3 e8 e9 e7 e4 e5 HRR.o.1.symm (HRR.o.2.1.touch0 t) e6 e10;clear e3 e4 e5 e6 e7 e8 e9 e10;go_wp2_with fail;refine(Heq.o _ (Touch.refl _ _)).mono ?_;rintro e9 w9 ⟨rfl,t9⟩;have T9:=lh t9;clear t9 g0 g1;obtain⟨g0,g1, -, -⟩:=eL (T9.o.blk Ag8.o (by simp));go_wp2_with fail;refine(His.o _ T9.o).mono ?_;rintro e10 w10 ⟨rfl,t10⟩;have T10:=lh (TW8.o.trans0 (T9.o.trans0 t10));clear t10 g0 g1;go_wp2_with fail;refine(Haw.o _ T10.o).mono ?_;rintro e11 w11 ⟨rfl,t11⟩;have T11:=lh (T10.o.trans0 t11);clear t11;go_wp2_with fail;go_ret;exact⟨rfl,T11.o⟩
  obtain⟨rfl,rfl,rfl⟩:er=el/\vcs=[]/\vrows=[]:=by have h:=HVE.o.trans (He1.o rfl hl);exact⟨bf (fun v:Int × List CD × List (List VD)=>v.1) h,bf (fun v:Int × List CD × List (List VD)=>v.2.1) h,bf (fun v:Int × List CD × List (List VD)=>v.2.2) h⟩
  obtain rfl:ak=0:=At8.o.n;obtain rfl:aj=0:=At8.o.m;have hq:(er==0)=false:=by rw[aw];exact hl
  have hq2:(er != 0)=true:=by rw[bne,hq];rfl
  clear hl;go_wp2_with fail;refine(Haw.o _ TW8.o).mono ?_;rintro e10 w10 ⟨rfl,t10⟩;have H10:=lh (TW8.o.trans0 t10);clear t10;go_wp2_with fail;go_ret;exact⟨rfl,H10.o⟩
 obtain⟨rfl,rfl,rfl⟩:er=et/\vcs=[]/\vrows=[]:=by have h:((er,vcs,vrows):Int × List CD × List (List VD))=(et,[],[]):=HV.o.trans (ab ht);exact⟨bf (fun v:Int × List CD × List (List VD)=>v.1) h,bf (fun v:Int × List CD × List (List VD)=>v.2.1) h,bf (fun v:Int × List CD × List (List VD)=>v.2.2) h⟩
 obtain rfl:ak=0:=Ha.o.2.2.n;obtain rfl:aj=0:=Ha.o.2.2.m;obtain⟨g0,g1, -, -⟩:=eL Ag7.o;have hq:(er==0)=false:=by rw[aw];exact ht
 have hq2:(er != 0)=true:=by rw[bne,hq];rfl
 clear ht;go_wp2_with fail;refine(Haw.o _ TW7.o).mono ?_;rintro e10 w10 ⟨rfl,t10⟩;have H10:=lh (TW7.o.trans0 t10);clear t10;go_wp2_with fail;go_ret;exact⟨rfl,H10.o⟩
end
section
open Go.RowKit
def ni(p:RP):List RP->List RP
 | []=>[p]
 |q:: Q=>if ej p.2 q.2<0 then p:: q:: Q else q:: ni p Q
theorem u9(p:RP):∀(Q:List RP)(s:List RP),Q.foldl (jC p) (s,true)=(s++Q,true)
 | [],s=>by simp
 |q:: Q,s=>by rw[bX,show jC p (s,true) q=(s++[q],true) by unfold jC;rw[ab (by simp)],u9 p Q];simp
theorem ug(p:RP):∀(Q:List RP)(s:List RP),(if (Q.foldl (jC p) (s,false)).2=true then (Q.foldl (jC p) (s,false)).1 else (Q.foldl (jC p) (s,false)).1++[p])=s++ni p Q
 | [],s=>by simp[ni]
 |q:: Q,s=>by
  rw[bX];by_cases h:ej p.2 q.2<0
  ·rw[show jC p (s,false) q=(s++[p,q],true) by unfold jC;rw[ae ⟨rfl,h⟩],u9,ae rfl];simp[ni,h]
  rw[show jC p (s,false) q=(s++[q],false) by unfold jC;rw[ab (λq=>h q.2)],ug p Q];simp[ni,h]
theorem xB(Q:List RP)(p:RP):ke Q p=ni p Q:=by have:=ug p Q [];rw[cw] at this;exact this
theorem pK(p:RP):∀Q:List RP,(ni p Q).Perm (p:: Q)
 | []=>.refl _
 |q:: Q=>by
  unfold ni;split
  ·exact .refl _
  exact((pK p Q).cons q).trans (.swap p q Q)
def rl(Q:List RP):Prop:=Q.Pairwise λa b=>ej a.2 b.2<=0
theorem qP(p:RP):∀Q:List RP,rl Q->rl (ni p Q)
 | [],_=>by unfold ni rl;simp
 |q:: Q,h=>by
  have h:=cq.1 h;unfold ni;by_cases hc:ej p.2 q.2<0
  ·rw[ae hc];refine cq.2 ⟨λx hx=> ?_,cq.2 h⟩;rcases aR.1 hx with rfl|hx
   ·omega
   exact(ln _ _ _ (show ej p.2 q.2<=0 by omega) (h.1 x hx)).1
  rw[ab hc];refine cq.2 ⟨λx hx=> ?_,qP p Q h.2⟩;rcases aR.1 ((pK p Q).mem_iff.1 hx) with rfl|hx
  ·have:=fL q.2 x.2;omega
  exact h.1 x hx
theorem Be(P:List RP):(gz P).Perm P/\rl (gz P):=by
 have key:∀(P acc:List RP),rl acc->(P.foldl ke acc).Perm (acc++P)/\rl (P.foldl ke acc):=by
  intro P;induction P with
  |nil=>intro acc h;rw[bN];exact⟨.refl _,h⟩
  |cons p P ih =>
   intro acc h
   rw[bX]
   have h1:rl (ke acc p):=by rw[xB];exact qP p acc h
   obtain⟨i1,i2⟩:=ih (ke acc p) h1
   refine⟨i1.trans ?_,i2⟩
   rw[xB]
   exact((pK p acc).append_right P).trans (List.perm_middle.symm)
 have:=key P [] List.Pairwise.nil;rwa[cw] at this
theorem Bu{P:List RP}{rows out:List (List VD)}(h:P.map (·.2)=rows)(hs:iy rows out):(gz P).map (·.2)=out:=by obtain⟨h1,h2⟩:=Be P;refine mg (((h1.map (·.2)).trans (by rw[h])).trans hs.1.symm) ?_ hs.2;rw[dJ];exact h2
theorem wT(a b:List VD):ej a b=0 ↔ a=b:=⟨mB a b,λh=>by rw[h,my]⟩
theorem ya(O:List (List VD))(p:List VD):O.any (λq=>decide (ej q p=0))=true ↔ p∈O:=by
 rw[cO];constructor
 ·rintro⟨q,hq,h⟩;rw[<- (wT q p).1 (aN h)];exact hq
 intro h;exact⟨p,h,aF ((wT p p).2 rfl)⟩
theorem xF(rows:List (List VD)):(sQ rows).Nodup/\∀r,r∈sQ rows ↔ r∈rows:=by
 have key:∀(P acc:List (List VD)),acc.Nodup->(P.foldl mI acc).Nodup/\∀r,r∈P.foldl mI acc ↔ r∈acc\/r∈P:=by
  intro P;induction P with
  |nil=>intro acc h;exact⟨h,λr=>by simp⟩
  |cons p P ih =>
   intro acc h
   rw[bX]
   by_cases hp:p∈acc
   ·rw[show mI acc p=acc by unfold mI;rw[ae ((ya acc p).2 hp)]];obtain⟨i1,i2⟩:=ih acc h;refine⟨i1,λr=> ?_⟩;rw[i2,aR];constructor
    ·rintro(h | h)
     ·exact .inl h
     exact .inr (.inr h)
    rintro(h | h | h)
    ·exact .inl h
    ·exact .inl (h ▸ hp)
    exact .inr h
   ·rw[show mI acc p=acc++[p] by unfold mI;rw[ab (λq=>hp ((ya acc p).1 q))]];obtain⟨i1,i2⟩:=ih (acc++[p]) (by rw[List.nodup_append];exact⟨h,by simp,λa ha b hb e=>hp (by rw[aI] at hb;rw[<- hb,<- e];exact ha)⟩)
    refine⟨i1,λr=> ?_⟩;rw[i2];simp[or_assoc]
 have:=key rows [] List.nodup_nil;exact⟨this.1,λr=>(this.2 r).trans (by simp)⟩
theorem zB(rows:List (List VD))(h:rows.Pairwise fun a b=>ej a b<=0):(gJ rows).Nodup:=by refine(xf rows h).imp λ{a b}hab e=> ?_;rw[e,my] at hab;omega
theorem vS(rows:List (List VD)):∀i,i<rows.length->rows.getD i []∈gJ rows
 | 0,h=>by unfold gJ;exact aJ.2 ⟨0,bE.2 ⟨a_.2 h,by simp[kU]⟩,rfl⟩
 |i+1,h=>by
  by_cases hn:kU rows (i+1)=true
  ·unfold gJ;exact aJ.2 ⟨i+1,bE.2 ⟨a_.2 h,hn⟩,rfl⟩
  have he:rows.getD (i+1) []=rows.getD i []:=by unfold kU at hn;rw[show decide (i+1=0)=false by simp,Bool.false_or,Bool.not_eq_true',Bool.not_eq_false,rz] at hn;exact hn
  rw[he];exact vS rows i (by omega)
theorem DQ(rows:List (List VD))(h:rows.Pairwise fun a b=>ej a b<=0):(sQ rows).Perm (gJ rows):=by
 refine(dy (xF rows).1 (zB rows h)).2 λr=> ?_;rw[(xF rows).2];constructor
 ·intro hr;obtain⟨i,hi,rfl⟩:=aU.1 hr;have:=vS rows i hi;rwa[show rows.getD i []=rows[i] by simp[List.getD,hi]] at this
 exact mN
theorem wJ(cs:List CD):∀(os:List (ByteArray × Bool))(a b:List VD),nk (ea cs (os.map (·.1))) (os.map (·.2)) a b=fO cs os a b
 | [],_,_=>rfl
 |o:: os,a,b=>by have ih:=wJ cs os a b;show (if uu o.2 ((ef cs o.1).getD 0) a b=0 then nk (ea cs (os.map (·.1))) (os.map (·.2)) a b else uu o.2 ((ef cs o.1).getD 0) a b)=fO cs (o:: os) a b;rw[ih,fO];rfl
theorem Ba(D:Nat->Nat)(n:Nat):∃g,fJ D g 0 n:=by
 let le:Nat->Nat->Bool:=λx y=>decide (D x<D y\/(D x=D y/\x<=y));have hp:((List.range n).mergeSort le).Perm (List.range n):=List.mergeSort_perm _ _;have hs:((List.range n).mergeSort le).Pairwise (λx y=>le x y=true):=List.pairwise_mergeSort (le:=le)
  (λa b c h1 h2=>aF (by have h1:=aN h1;have h2:=aN h2;omega))
  (λa b=>by
   rw[Bool.or_eq_true];by_cases h:D a<D b\/(D a=D b/\a<=b)
   ·exact .inl (aF h)
   exact .inr (aF (by omega))) _
 obtain⟨l,hl⟩:∃l,l=(List.range n).mergeSort le:=⟨_,rfl⟩;rw[<- hl] at hp hs;have hlen:l.length=n:=by rw[hp.length_eq,cH]
 have hnd:l.Nodup:=hp.nodup_iff.2 List.nodup_range;have hg:∀i(h:i<l.length),l.getD i 0=l[i]:=λi h=>by simp[List.getD,h]
 refine⟨λk=>l.getD k 0,λi j h1 h2 h3=> ?_,λx=>⟨?_,λhx=> ?_⟩⟩
 ·dsimp only;rw[hg i (by omega),hg j (by omega)];have q:=aN (cI.1 hs i j (by omega) (by omega) h2);have ne:l[i]≠l[j]:=λe=>by have:=(List.getElem_inj hnd).1 e;omega
  unfold fW;omega
 ·rintro⟨i, -,hi,rfl⟩;dsimp only;rw[hg i (by omega)];have:=hp.mem_iff.1 (am (show i<l.length by omega));exact⟨aY _,a_.1 this⟩
 obtain⟨i,hi,e⟩:=aU.1 (hp.mem_iff.2 (a_.2 hx.2));exact⟨i,aY _,by omega,by dsimp only;rw[hg i hi];exact e⟩
theorem Bx{D g:Nat->Nat}{n:Nat}(hg:fJ D g 0 n)(p:Nat->Bool)(j:Nat)(hj:j<n)(hp:∀ k,k<n->(p k=true ↔ fW D k (g j))):((List.range n).filter p).length=j:=by
 have hlt:∀i,i<n->g i<n:=λi hi=>((hg.2 (g i)).1 ⟨i,aY _,hi,rfl⟩).2;have hsl:∀i k,i<k->k<n->fW D (g i) (g k):=λi k h1 h2=>hg.1 i k (aY _) h1 h2;have hnd:((List.range j).map g).Nodup:=by rw[List.Nodup,dJ];refine(dQ (n:=j)).imp_of_mem λ{a b}ha hb hab e=> ?_;have:=hsl a b hab (by have:=a_.1 hb;omega);rw[e] at this;exact lI D _ this
 have hperm:((List.range n).filter p).Perm ((List.range j).map g):=by
  refine(dy (List.nodup_range.filter _) hnd).2 λx=> ?_;rw[bE,a_,aJ];constructor
  ·rintro⟨hx,hpx⟩;have hl:=(hp x hx).1 hpx;obtain⟨i, -,hi,rfl⟩:=(hg.2 x).2 ⟨aY _,hx⟩;refine⟨i,a_.2 ?_,rfl⟩;rcases Nat.lt_trichotomy i j with h|h|h
   ·exact h
   ·rw[h] at hl;exact absurd hl (lI D _)
   exact absurd (hl.trans (hsl j i h hi)) (lI D _)
  rintro⟨i,hi,rfl⟩;have hi:=a_.1 hi;exact⟨hlt i (by omega),(hp _ (hlt i (by omega))).2 (hsl i j hi hj)⟩
 rw[hperm.length_eq,ay,cH]
theorem qE(rows:List (List VD))(at_:List Nat)(dn:List Bool)(count:Int):sC rows at_ dn count=((List.range rows.length).filter λi=>decide ((qX rows at_ dn i (rows.getD i []) rows.length:Int)<count)).map λi=>rows.getD i []:=by
 have key:∀n,n<=rows.length->(List.range n).foldl (rO rows at_ dn count) []=((List.range n).filter λi=>decide ((qX rows at_ dn i (rows.getD i []) rows.length:Int)<count)).map λi=>rows.getD i []:=by
  intro n;induction n with
  |zero=>intro _;rfl
  |succ n ih =>
   intro hn
   have hg:rows[n]?=some rows[n]:=aX (by omega)
   have hd:rows.getD n []=rows[n]:=by rw[bG,hg];rfl
   rw[dg,cX,ih (by omega),bZ,aT,bX,List.foldl_nil]
   unfold rO
   rw[hg]
   dsimp only
   by_cases h:(qX rows at_ dn n rows[n] rows.length:Int)<count
   ·rw[ae h,cS (by rw[hd];exact aF h)];rw[cE,cx,dh,hd]
   ·rw[ab h,cR (by rw[hd];simpa using h)];simp
 exact key _ (aL _)
theorem vh(cs:List CD)(os:List (ByteArray × Bool))(rows:List (List VD))(count:Int)(hc:0<=count)(h:rows.Pairwise fun a b=>ej a b<=0):(sC rows (ea cs (os.map (·.1))) (os.map (·.2)) count).Perm (j2 cs os rows count.toNat):=by
 obtain⟨g,hg⟩:=Ba (mq cs os rows) rows.length;rw[qd _ hg,qE];have hlt:∀i,i<rows.length->g i<rows.length:=λi hi=>((hg.2 (g i)).1 ⟨i,aY _,hi,rfl⟩).2;have hah:∀i k,i<rows.length->k<rows.length->(rY rows (ea cs (os.map (·.1))) (os.map (·.2)) i (rows.getD i []) k=true ↔ fW (mq cs os rows) k i):=λi k hi hk=>by
  unfold rY;rw[aX hk];dsimp only;have e1:rows.getD i []=rows[i]:=by simp[List.getD,hi]
  have e2:rows.getD k []=rows[k]:=by simp[List.getD,hk]
  have hb:pk cs os rows k i=fO cs os rows[k] rows[i]:=by unfold pk;rw[e1,e2]
  have h1:=sF cs os rows k i;have h2:=sF cs os rows i k;have hn:pk cs os rows i k = -pk cs os rows k i:=by unfold pk;exact pW cs os _ _
  rw[bF,e1];unfold mS;rw[wJ,<- hb];have hs:(k<i->ej rows[k] rows[i]<=0)/\(i<=k->0<=ej rows[k] rows[i]):=⟨λq=>cI.1 h k i hk hi q,λq=>by
   have hneg:=fL rows[i] rows[k];rcases Nat.lt_or_ge i k with q2|q2
   ·have:=cI.1 h i k hi hk q2;omega
   obtain rfl:i=k:=by omega
   rw[my];omega⟩
  unfold fW;by_cases hz:pk cs os rows k i=0
  ·rw[ae hz];have hD:mq cs os rows k=mq cs os rows i:=by omega
   constructor
   ·intro q;refine .inr ⟨hD, ?_⟩;rcases Nat.lt_or_ge k i with q2|q2
    ·exact q2
    have:=hs.2 q2;omega
   rintro(q | ⟨-,q⟩)
   ·omega
   have:=hs.1 q;omega
  rw[ab hz];constructor
  ·rintro(q | ⟨q, -⟩)
   ·exact .inl (h1.1 q)
   exact absurd q hz
  rintro(q | ⟨q, -⟩)
  ·exact .inl (h1.2 q)
  omega
 have e:(jl [] rows g).take count.toNat=((List.range (min count.toNat rows.length)).map g).map λi=>rows.getD i []:=by unfold jl;rw[<- List.map_take,List.take_range,cC];rfl
 rw[e];refine List.Perm.map _ ?_;have hnd:((List.range (min count.toNat rows.length)).map g).Nodup:=by rw[List.Nodup,dJ];refine(dQ (n:=min count.toNat rows.length)).imp_of_mem λ{a b}ha hb hab q=> ?_;have hb:=a_.1 hb;have:=hg.1 a b (aY _) hab (by omega);rw[q] at this;exact lI _ _ this
 refine(dy (List.nodup_range.filter _) hnd).2 λx=> ?_;have hrank:∀j,j<rows.length->qX rows (ea cs (os.map (·.1))) (os.map (·.2)) (g j) (rows.getD (g j) []) rows.length=j:=λj hj=>by unfold qX;exact Bx hg _ j hj (λk hk=>hah (g j) k (hlt j hj) hk)
 rw[bE,a_,aJ];constructor
 ·rintro⟨hx,hp⟩;obtain⟨j, -,hj,rfl⟩:=(hg.2 x).2 ⟨aY _,hx⟩;have hp:=aN hp;rw[hrank j hj] at hp;exact⟨j,a_.2 (by omega),rfl⟩
 rintro⟨j,hj,rfl⟩;have hj:=a_.1 hj;refine⟨hlt j (by omega),aF ?_⟩;rw[hrank j (by omega)];omega
end
section
open Go.RowKit
def mW(t:Int)(r:VD × Int):Prop:=r.2=0->r.1.right=true/\(r.1.kind=0\/r.1.kind=t)
theorem mW.to{t t':Int}{r:VD × Int}(h:mW t r)(ht:t=0\/t=t'):mW t' r:=λq=>⟨(h q).1,by have:=(h q).2;omega⟩
theorem yu(a b:List UInt8):S a=S b ↔ a=b:=⟨λh=>uL h,λh=>by rw[h]⟩
theorem qh:eQ.right=true:=by show (decide ((0:Int)=0)&&(S []).toList.isEmpty)=true;rw[nE];rfl
theorem vl(n:Int):VD.right ⟨1,n,S []⟩=true:=by show (S []).toList.isEmpty=true;rw[nE];rfl
theorem pF(b:Bool):(iL b).right=true/\(iL b).kind=1:=by cases b<;>exact⟨vl _,rfl⟩
theorem xP{v:VD}(h:v.right=true):v.text.data.toList.all ms=true:=by
 unfold VD.right at h;split at h
 ·rw[bh] at h;rw[aN ((fi v.text).symm.trans h.2)];rfl
 split at h
 ·rw[aN ((fi v.text).symm.trans h)];rfl
 split at h
 ·rw[bh] at h;have:=h.2;unfold ij at this;rw[bh] at this;exact this.1
 cases h
theorem uQ(o:Int)(a b:VD):mW 1 (fZ o a b):=by unfold fZ;intro _;(repeat' split)<;>first | exact⟨qh,.inl rfl⟩ | exact⟨vl _,.inr rfl⟩
theorem Ej(d:ND)(f s:VD)(hf:f.right=true)(hs:s.right=true):mW (if d.name=kT then 2 else 1) (bothV d f s):=by
 unfold bothV;by_cases h:d.name=kT
 ·rw[ae h,ae h];unfold kF;split
  ·exact λ_=>⟨qh,.inl rfl⟩
  split
  ·exact λ_=>⟨qh,.inl rfl⟩
  rename_i h64;refine λ_=>⟨?_,.inr rfl⟩;show (decide ((0:Int)=0)&&ij (f.text++s.text).data.toList)=true;unfold ij;rw[ByteArray.data_append,Array.toList_append,List.all_append,xP hf,xP hs,az,j3,j3];simp;omega
 rw[ab h,ab h];split
 ·unfold iw;split
  ·exact λ_=>⟨qh,.inl rfl⟩
  exact λ_=>⟨(pF _).1,.inr (pF _).2⟩
 exact uQ _ _ _
theorem Di(d:ND)(f:VD)(hf:f.right=true)(hk:d.name=mY->f.kind=0\/f.kind=1):mW 1 (jM d f):=by
 unfold jM;split
 ·exact λ_=>⟨(pF _).1,.inr (pF _).2⟩
 split
 ·exact λ_=>⟨(pF _).1,.inr (pF _).2⟩
 split
 ·exact λ_=>⟨hf,.inl ‹_›⟩
 split
 ·exact λ_=>⟨vl _,.inr rfl⟩
 split
 ·rename_i h;exact λ_=>⟨hf,hk h.1⟩
 exact uQ _ _ _
structure RF (d:ND) (r:RU):Prop where
 andor:d.op=jY\/d.op=lF->d.kind=4/\r.o=1
 ei:d.name=hZ->d.kind=5/\r.args=[-1, -1]/\r.o = -1
 iff:d.name=mw->d.kind=5/\r.args=[0, -1, -1]/\r.o = -1
 cat:d.name=kT->r.o=2/\r.args.length=2
 abs:d.name=mY->r.args=[1]
 rest:d.name≠hZ->d.name≠mw->d.name≠kT->r.o=1
theorem zE{d:ND}{n:Nat}(h:gL d n=true)(h1:d.kind≠1)(h2:d.kind≠2){r:RU}(hr:jd d=some r):RF d r/\n=r.args.length:=by
 unfold gL at h;rw[ab h1,ab h2,hr,bh,bh] at h;obtain⟨ha,_,hc⟩:=h;refine⟨?_,aN ha⟩;obtain⟨hm,hn⟩:r∈fC d.kind/\r.name=nJ d:=by
  unfold jd at hr;rcases hi:oC d with _|k
  ·rw[hi] at hr;cases hr
  rw[hi] at hr;unfold oC at hi;rw[bw] at hi;obtain⟨hk,hp,_⟩:=hi;simp only at hr;rw[aX hk] at hr;obtain rfl:=bJ hr;exact⟨am hk,aN hp⟩
 clear ha hr h1 h2;obtain⟨k,nm,v,op⟩:=d;unfold nJ at hn;unfold fC at hm;dsimp only at hm hn hc;split at hm
 ·obtain rfl:k=3:=‹_›;rw[ab (by decide)] at hc hn;obtain rfl:=aN hc;simp only[List.mem_cons,List.not_mem_nil,or_false] at hm;rcases hm with rfl|rfl<;>subst hn<;>constructor<;>simp[jY,lF,hZ,mw,kT,mY,yu]
 split at hm
 ·obtain rfl:k=4:=‹_›;rw[ab (by decide)] at hc hn;obtain rfl:=aN hc;simp only[List.mem_cons,List.not_mem_nil,or_false] at hm;rcases hm with rfl|rfl|rfl|rfl|rfl|rfl|rfl|rfl|rfl|rfl|rfl|rfl|rfl<;>subst hn<;>constructor<;>simp[jY,lF,hZ,mw,kT,mY,yu]
 split at hm
 ·obtain rfl:k=5:=‹_›;rw[ae rfl] at hc hn;obtain rfl:=aN hc;simp only[List.mem_cons,List.not_mem_nil,or_false] at hm;rcases hm with rfl|rfl|rfl|rfl|rfl|rfl<;>subst hn<;>constructor<;>simp[jY,lF,hZ,mw,kT,mY,yu]
 cases hm
theorem ru(x b:Int)(ws ts:List Int):fR (-1:: ws) (x:: ts) b=if x=0 then fR ws ts b else if b≠0/\b≠x then (0,false) else fR ws ts x:=by rw[fR];simp
theorem sW{a b t:Int}(h:fR [-1, -1] [a,b] 0=(t,true)):(a=0\/a=t)/\(b=0\/b=t):=by
 rw[ru,ru,ru] at h;simp only[fR] at h;by_cases ha:a=0
 ·rw[ae ha] at h;by_cases hb:b=0
  ·exact⟨.inl ha,.inl hb⟩
  rw[ab hb,ab (λq=>q.1 rfl)] at h;exact⟨.inl ha,.inr (Prod.mk.inj h).1⟩
 rw[ab ha,ab (λq=>q.1 rfl)] at h;by_cases hb:b=0
 ·rw[ae hb] at h;exact⟨.inr (Prod.mk.inj h).1,.inl hb⟩
 rw[ab hb] at h;by_cases hab:a≠0/\a≠b
 ·rw[ae hab] at h;cases h
 rw[ab hab] at h;have:=(Prod.mk.inj h).1;exact⟨.inr (by omega),.inr this⟩
theorem Dy{a t:Int}(h:fR [1] [a] 0=(t,true)):a=0\/a=1:=by
 by_cases ha:a=0
 ·exact .inl ha
 by_cases h1:a=1
 ·exact .inr h1
 rw[fR,ab (by omega),ae (by omega)] at h;cases h
theorem Cz{t t':Int}{k:Int}{r:VD × Int}(h:mW t r)(hk:k=4->t'=1)(ht:k≠4->t=0\/t=t'):mW t' (nG k r):=by
 unfold nG;by_cases h4:r.2=0/\k=4
 ·rw[ae h4,hk h4.2];exact λ_=>⟨(pF _).1,.inr (pF _).2⟩
 rw[ab h4];by_cases hk4:k=4
 ·exact λq=>absurd ⟨q,hk4⟩ h4
 exact h.to (ht hk4)
theorem Ad{d:ND}{f v:VD}(h:gv d f=some (.inl v)):((d.op=jY\/d.op=lF)/\(v=Go.Proofs.YtafoklilkdnepaaGreatDoor.ofV 0\/v=Go.Proofs.YtafoklilkdnepaaGreatDoor.ofV 1))\/(d.name=hZ/\v=f):=by unfold gv at h;(repeat' split at h)<;>simp_all
theorem Ap{d:ND}{f:VD}{q:Nat}(h:gv d f=some (.inr q)):1<=q/\((d.op=jY\/d.op=lF)\/d.name=hZ\/d.name=mw):=by unfold gv at h;(repeat' split at h)<;>simp_all<;>omega
theorem zF{d:ND}{f:VD}(h:gv d f=none):d.name≠hZ/\d.name≠mw:=by unfold gv at h;(repeat' split at h)<;>simp_all
theorem DN{α:Type}{ev:α->VD × Int}{T:α->Int}{d:ND}{f:VD}{a:α}{l:List α}{t:Int}(hall:∀ x∈l,mW (T x) (ev x))(hf:f.right=true)(ho:d.op=jY\/d.op=lF->d.kind=4/\t=1) (hn:d.name=hZ\/d.name=mw->d.kind=5/\∀x∈l,T x=0\/T x=t) (he:d.name=hZ->f.kind=0\/f.kind=t) {z:VD × Int} (hz:gS ev d (a:: l) f=some z):mW t z:=by
 unfold gS at hz;rcases hl:gv d f with _|v|q
 ·rw[hl] at hz;cases hz
 ·rw[hl] at hz;obtain rfl:=bJ hz;rcases Ad hl with ⟨h1,h2⟩|⟨h1,rfl⟩
  ·rw[(ho h1).2];rcases h2 with rfl | rfl<;>exact λ_=>⟨vl _,.inr rfl⟩
  exact λ_=>⟨hf,he h1⟩
 rw[hl] at hz;obtain⟨h1,h2⟩:=Ap hl;dsimp only at hz;rcases hg:(a:: l)[q]? with _|x
 ·rw[hg] at hz;obtain rfl:=bJ hz;exact λ_=>⟨qh,.inl rfl⟩
 rw[hg] at hz;obtain rfl:=bJ hz;obtain⟨k,rfl⟩:∃k,q=k+1:=⟨q-1,by omega⟩;rw[List.getElem?_cons_succ] at hg;have hx:=cV hg;refine Cz (hall x hx) (λh4=> ?_) (λh4=> ?_)
 ·rcases h2 with h2 | h2
  ·exact(ho h2).2
  have:=(hn h2).1;omega
 rcases h2 with h2 | h2
 ·exact absurd (ho h2).1 h4
 exact(hn h2).2 x hx
theorem r9{cs:List CD}{row:List VD}(hfit:fw cs row=true):∀(n dp:Nat)(e:TX n),(eV cs n dp e).2=0->mW (eV cs n dp e).1 (eG cs row n e)
 | 0,_,_,_=>λ_=>⟨qh,.inl rfl⟩
 |n+1,dp,e,h=>by
  have IH:=r9 hfit n (dp+1);rw[nQ] at h ⊢;rw[kw];obtain⟨d,args⟩:ND × List (TX n):=e;dsimp only at h ⊢;by_cases hd:32<dp
  ·rw[ae hd] at h;cases h
  rw[ab hd] at h ⊢;by_cases hf:gL d args.length=false
  ·rw[ae hf] at h;cases h
  rw[ab hf] at h ⊢;have hf:gL d args.length=true:=by simpa using hf
  by_cases h2:d.kind=2
  ·rw[ae h2,ab (by omega),ae h2];unfold gL at hf;rw[ab (by omega),ae h2,bh,bh,bh] at hf;exact λ_=>⟨hf.2.2.2,.inr rfl⟩
  rw[ab h2] at h ⊢;by_cases h1:d.kind=1
  ·rw[ae h1] at h ⊢;rw[ae h1];unfold rg at h ⊢;rcases hp:ef cs d.name with _|k
   ·rw[hp] at h;cases h
   rw[hp] at h;have hk:=eS hp;dsimp only at h ⊢;rw[aX hk] at h ⊢;unfold fw at hfit;rw[bh,bU] at hfit;have hl:=aN hfit.1;have:=hfit.2 _ (am (show k<(List.zipWith gK cs row).length by rw[cu];omega));rw[List.getElem_zipWith] at this;unfold gK at this;rw[id,bh,Bool.or_eq_true,bF,bF] at this;show mW cs[k].typ (row.getD k eQ,0);rw[show row.getD k eQ=row[k] by simp[List.getD,show k<row.length by omega]];exact λ_=>this
  rw[ab h1] at h ⊢;rw[ab h1,ab h2];rcases hfi:args.find? (λa=>decide ((eV cs n (dp+1) a).2≠0)) with _ | a;rotate_left
  ·rw[hfi] at h;have:=List.find?_some hfi;exact absurd h (aN this)
  rw[hfi] at h;dsimp only at h ⊢;rcases hr:jd d with _|r
  ·rw[hr] at h;cases h
  rw[hr] at h;dsimp only at h ⊢;obtain⟨RF,hn⟩:=zE hf h1 h2 hr;have hall:∀a∈args,mW (eV cs n (dp+1) a).1 (eG cs row n a):=λa ha=>IH a (by have:=List.find?_eq_none.1 hfi a ha;simpa using this)
  rcases hfl:fR r.args (args.map λa=>(eV cs n (dp+1) a).1) 0 with ⟨t,b⟩;rw[hfl] at h;cases b
  ·cases h
  have ht:(if r.o = -1 then (t,0) else (r.o,0):Int × Int).1=if r.o = -1 then t else r.o:=by split<;>rfl
  dsimp only;rw[ht];clear ht h hfi hr;cases args with
  |nil=>exact λ_=>⟨qh,.inl rfl⟩
  |cons a l =>
   dsimp only
   by_cases he:(eG cs row n a).2≠0
   ·rw[ae he];exact λq=>absurd q he
   rw[ab he]
   have he:(eG cs row n a).2=0:=by omega
   have Ha:mW (eV cs n (dp+1) a).1 ((eG cs row n a).1,0):=λ_=>hall a aK he
   have hal:∀x∈l,mW (eV cs n (dp+1) x).1 (eG cs row n x):=λx hx=>hall x (aP _ hx)
   rcases hz:gS (eG cs row n) d (a:: l) (eG cs row n a).1 with _|z
   ·have hzn:gv d (eG cs row n a).1=none:=by unfold gS at hz;(repeat' split at hz)<;>simp_all
    obtain⟨n1,n2⟩:=zF hzn;cases l with
    |nil =>
     dsimp only
     have hc:d.name≠kT:=λq=>by have:=(RF.cat q).2;rw[<- hn] at this;exact absurd this (by simp)
     rw[RF.rest n1 n2 hc,ab (by decide)]
     refine Di d _ (Ha rfl).1 λq=> ?_
     rw[RF.abs q] at hfl
     have q1:(eV cs n (dp+1) a).1=0\/(eV cs n (dp+1) a).1=1:=Dy hfl
     have:(eG cs row n a).1.kind=0\/(eG cs row n a).1.kind=(eV cs n (dp+1) a).1:=(Ha rfl).2
     (try dsimp only)
     omega
    |cons b l =>
     dsimp only
     by_cases hb:(eG cs row n b).2≠0
     ·rw[ae hb];exact λq=>absurd q hb
     rw[ab hb]
     have:=Ej d (eG cs row n a).1 (eG cs row n b).1 (Ha rfl).1 (hal b aK (by omega)).1
     by_cases hc:d.name=kT
     ·rw[ae hc] at this;rw[(RF.cat hc).1,ab (by decide)];exact this
     ·rw[ab hc] at this;rw[RF.rest n1 n2 hc,ab (by decide)];exact this
   ·dsimp only;refine DN hal (Ha rfl).1 (λq=>⟨(RF.andor q).1,by rw[(RF.andor q).2,ab (by decide)]⟩) (λq=> ?_) (λq=> ?_) hz
    ·rcases q with q | q
     ·obtain⟨q1,q2,q3⟩:=RF.ei q;rw[q3,ae rfl];rw[q2] at hfl hn;obtain⟨b,rfl⟩:∃b,l=[b]:=List.length_eq_one_iff.1 (by simp at hn;exact hn);have:=sW hfl;exact⟨q1,λx hx=>by rw[aI.1 hx];exact this.2⟩
     obtain⟨q1,q2,q3⟩:=RF.iff q;rw[q3,ae rfl];rw[q2] at hfl hn;obtain⟨b,c,rfl⟩:∃b c,l=[b,c]:=by
      match l,hn with
      | [b,c],_=>exact⟨b,c,rfl⟩
     have hfl:fR (0:: [-1, -1]) ((eV cs n (dp+1) a).1:: [(eV cs n (dp+1) b).1,(eV cs n (dp+1) c).1]) 0=(t,true):=hfl;rw[fR,ae (Or.inr rfl)] at hfl;have:=sW hfl;refine⟨q1,λx hx=> ?_⟩;rcases aR.1 hx with rfl|hx
     ·exact this.1
     rw[aI.1 hx];exact this.2
    obtain⟨q1,q2,q3⟩:=RF.ei q;rw[q3,ae rfl];rw[q2] at hfl hn;obtain⟨b,rfl⟩:∃b,l=[b]:=List.length_eq_one_iff.1 (by simp at hn;exact hn);have q4:(eV cs n (dp+1) a).1=0\/(eV cs n (dp+1) a).1=t:=(sW hfl).1;have:(eG cs row n a).1.kind=0\/(eG cs row n a).1.kind=(eV cs n (dp+1) a).1:=(Ha rfl).2;(try dsimp only);omega
end
section
open Go.RowKit
theorem nw{k:Nat}(h:k<10):(UInt8.ofNat (48+k)).toNat=48+k:=by rw[UInt8.toNat_ofNat'];omega
theorem wP(u:Nat)(h:¬u<10):Lib.decDigits u=Lib.decDigits (u / 10)++[UInt8.ofNat (48+u % 10)]:=by rw[Lib.decDigits,dif_neg h]
def CG(l:List UInt8):Nat:=l.foldl (λn c=>10*n+(c.toNat-48)) 0
theorem vi(u:Nat):CG (Lib.decDigits u)=u:=by
 induction u using Nat.strongRecOn with
 | _ u ih =>
  by_cases h:u<10
  ·rw[Lib.decDigits_one h];show 10*0+((UInt8.ofNat (48+u)).toNat-48)=u;rw[nw h];omega
  ·rw[wP u h];unfold CG;rw[cX];show 10*CG (Lib.decDigits (u / 10))+((UInt8.ofNat (48+u % 10)).toNat-48)=u;rw[ih (u / 10) (by omega),nw (by omega)];omega
theorem sS(u:Nat):∀c∈Lib.decDigits u,48<=c.toNat/\c.toNat<=57:=by
 induction u using Nat.strongRecOn with
 | _ u ih =>
  intro c hc
  by_cases h:u<10
  ·rw[Lib.decDigits_one h] at hc;rw[aI.1 hc,nw h];omega
  ·rw[wP u h] at hc;rcases aZ.1 hc with hc|hc
   ·exact ih (u / 10) (by omega) c hc
   rw[aI.1 hc,nw (by omega)];omega
theorem xU{a b:Nat}(h:Lib.decDigits a=Lib.decDigits b):a=b:=by rw[<- vi a,h,vi]
theorem vB(n:Int):∀c∈Lib.itoa n,c.toNat=45\/48<=c.toNat/\c.toNat<=57:=by
 intro c hc;unfold Lib.itoa at hc;split at hc
 ·rcases aR.1 hc with rfl | hc
  ·exact .inl rfl
  exact .inr (sS _ c hc)
 exact .inr (sS _ c hc)
theorem CN{a b:Int}(h:Lib.itoa a=Lib.itoa b):a=b:=by
 unfold Lib.itoa at h;have no:∀(x:List UInt8)(u:Nat),45:: x=Lib.decDigits u->False:=λx u e=>by have:=(sS u 45 (e ▸ aK)).1;exact absurd this (by decide)
 split at h<;>split at h
 ·injection h with _ h;have:=xU h;omega
 ·exact(no _ _ h).elim
 ·exact(no _ _ h.symm).elim
 have:=xU h;omega
def wI(c:UInt8):List UInt8:=if c=34\/c=92 then [92,c] else [c]
theorem xZ:∀(a b:List UInt8),a.flatMap wI++[34]=b.flatMap wI++[34]->a=b
 | [],[],_=>rfl
 | [],c:: b,h=>by
  rw[List.flatMap_nil,cw,bB] at h;unfold wI at h;split at h
  ·injection h with h _;exact absurd h (by decide)
  rename_i hc;injection h with h _;exact absurd (.inl h.symm) hc
 |c:: a,[],h=>by
  rw[List.flatMap_nil,cw,bB] at h;unfold wI at h;split at h
  ·injection h with h _;exact absurd h (by decide)
  rename_i hc;injection h with h _;exact absurd (.inl h) hc
 |c:: a,e:: b,h=>by
  rw[bB,bB,cA,cA] at h;have ih:=xZ a b;unfold wI at h ih;by_cases hc:c=34\/c=92
  ·rw[ae hc] at h;by_cases he:e=34\/e=92
   ·rw[ae he] at h;injection h with _ h;injection h with h1 h2;rw[h1,ih h2]
   rw[ab he] at h;injection h with h1 _;exact absurd (.inr h1.symm) he
  rw[ab hc] at h;by_cases he:e=34\/e=92
  ·rw[ae he] at h;injection h with h1 _;exact absurd (.inr h1) hc
  rw[ab he] at h;injection h with h1 h2;rw[h1,ih h2]
theorem Dc{a b:List UInt8}(h:jU a=jU b):a=b:=by unfold jU at h;injection h with _ h;exact xZ a b h
theorem Dj{l:List UInt8}(h:∀ c∈l,c≠10):∀c∈jU l,c≠10:=by
 intro c hc;unfold jU at hc;rcases aR.1 hc with rfl|hc
 ·decide
 rcases aZ.1 hc with hc|hc
 ·obtain⟨x,hx,hc⟩:=List.mem_flatMap.1 hc;split at hc
  ·rcases aR.1 hc with rfl | hc
   ·decide
   rw[aI.1 hc];exact h x hx
  rw[aI.1 hc];exact h x hx
 rw[aI.1 hc];decide
theorem nI{v:VD}(h:v.right=true):(v=⟨0,0,⟨#[]⟩⟩)\/(∃n,v=⟨1,n,⟨#[]⟩⟩)\/∃t,v=⟨2,0,t⟩/\ij t.data.toList=true:=by
 obtain⟨k,n,t⟩:=v;unfold VD.right at h;dsimp only at h;split at h
 ·rename_i hk;rw[bh,fi] at h;rw[hk,aN h.1,aN h.2];exact .inl rfl
 split at h
 ·rename_i hk;rw[fi] at h;rw[hk,aN h];exact .inr (.inl ⟨n,rfl⟩)
 split at h
 ·rename_i hk;rw[bh] at h;rw[hk,aN h.1];exact .inr (.inr ⟨t,rfl,h.2⟩)
 exact absurd h (by simp)
theorem r_:gM ⟨0,0,⟨#[]⟩⟩=[110,117,108,108]:=by
 have:VD.right ⟨0,0,⟨#[]⟩⟩=true:=by unfold VD.right;simp +decide
 unfold gM;rw[this];simp
theorem oM(n:Int):gM ⟨1,n,⟨#[]⟩⟩=Lib.itoa n:=by
 have:VD.right ⟨1,n,⟨#[]⟩⟩=true:=by unfold VD.right;simp +decide
 unfold gM;rw[this];simp
theorem oV{t:ByteArray}(h:ij t.data.toList=true):gM ⟨2,0,t⟩=jU t.data.toList:=by
 have:VD.right ⟨2,0,t⟩=true:=by unfold VD.right;simp[h]
 unfold gM;rw[this];simp
theorem tu{v:VD}(h:v.right=true):∀c∈gM v,c≠10:=by
 rcases nI h with rfl|⟨n,rfl⟩|⟨t,rfl,ht⟩
 ·rw[r_];decide
 ·rw[oM];intro c hc e;have:=vB n c hc;rw[e] at this;revert this;decide
 rw[oV ht];refine Dj λc hc e=> ?_;unfold ij at ht;have:=bU.1 (bh _ _ ▸ ht).1 c hc;rw[e] at this;exact absurd this (by decide)
theorem Cg{a b:VD}(ha:a.right=true)(hb:b.right=true)(h:gM a=gM b):a=b:=by
 have n1:∀(n:Int)(x:UInt8)(l:List UInt8),Lib.itoa n=x:: l->x.toNat=45\/48<=x.toNat/\x.toNat<=57:=λn x l e=>vB n x (e ▸ aK);rcases nI ha with rfl|⟨n,rfl⟩|⟨t,rfl,ht⟩<;>rcases nI hb with rfl|⟨m,rfl⟩|⟨u,rfl,hu⟩
 ·rfl
 ·rw[r_,oM] at h;exact absurd (n1 _ _ _ h.symm) (by decide)
 ·rw[r_,oV hu] at h;unfold jU at h;injection h with h _;exact absurd h (by decide)
 ·rw[r_,oM] at h;exact absurd (n1 _ _ _ h) (by decide)
 ·rw[oM,oM] at h;rw[CN h]
 ·rw[oM,oV hu] at h;exact absurd (n1 _ _ _ h) (by decide)
 ·rw[r_,oV ht] at h;unfold jU at h;injection h with h _;exact absurd h (by decide)
 ·rw[oM,oV ht] at h;exact absurd (n1 _ _ _ h.symm) (by decide)
 rw[oV ht,oV hu] at h;have h2:=Dc h;have:t=u:=by cases t with | mk t=>cases u with | mk u=>congr 1;exact Array.toList_inj.1 h2
 rw[this]
theorem D4:∀(a b r s:List UInt8),(∀c∈a,c≠10)->(∀c∈b,c≠10)->a++10:: r=b++10:: s->a=b/\r=s
 | [],[],r,s,_,_,h=>by injection h with _ h;exact⟨rfl,h⟩
 | [],c:: b,r,s,_,hb,h=>by injection h with h _;exact absurd h.symm (hb c aK)
 |c:: a,[],r,s,ha,_,h=>by injection h with h _;exact absurd h (ha c aK)
 |c:: a,d:: b,r,s,ha,hb,h=>by rw[List.cons_append,List.cons_append] at h;injection h with h1 h2;obtain⟨e1,e2⟩:=D4 a b r s (λx hx=>ha x (aP _ hx)) (λx hx=>hb x (aP _ hx)) h2;exact⟨by rw[h1,e1],e2⟩
theorem sO:∀(a b:List VD),(∀v∈a,v.right=true)->(∀v∈b,v.right=true)->fY a=fY b->a=b
 | [],[],_,_,_=>rfl
 | [],v:: b,_,_,h=>by unfold fY at h;rw[List.flatMap_nil,bB] at h;have:=bf List.length h;simp at this
 |v:: a,[],_,_,h=>by unfold fY at h;rw[List.flatMap_nil,bB] at h;have:=bf List.length h;simp at this
 |v:: a,u:: b,ha,hb,h=>by have ih:=sO a b (λx hx=>ha x (aP _ hx)) (λx hx=>hb x (aP _ hx));unfold fY at h ih;rw[bB,bB,cA,cA,List.singleton_append,List.singleton_append] at h;obtain⟨e1,e2⟩:=D4 _ _ _ _ (tu (ha v aK)) (tu (hb u aK)) h;rw[Cg (ha v aK) (hb u aK) e1,ih e2]
end
end Go.Proofs.YtafoklilkdnepaaGreatDoor
