/- Part 19 of the texts of this proof, one behind the other. No condition beyond those that its theorems state. -/
import Derived.Test.YtafoklilkdnepaaGreatDoorRe18
set_option linter.all false
set_option maxRecDepth 40000
set_option maxHeartbeats 25600000
namespace Go.Proofs.YtafoklilkdnepaaGreatDoor
section
open Go.RowKit Go.Maps Go.ChangeMaps
theorem Dq(x:PC)(kk:Int)(left:Bool)(hlv:left=decide (kk=5))(hleft:kk=x.kind)(on:List (ByteArray × ByteArray))(ho:x.on.n=on.length)(hlo:on.length<=1000)(sa ra sb rb:SL)(csA csB:List CD)(rowsA rowsB:List (List VD))(w:World) (hTA:TabAt w sa ra csA rowsA) (hTB:TabAt w sb rb csB rowsB) (hr:d9 nz w x.on.A on) (hgA:kQ w rowsA csA.length) (hgB:kQ w rowsB csB.length) (hA0:0<csA.length) (hB0:0<csB.length) (hA1:csA.length<=16) (hB1:csB.length<=16) (hA2:rowsA.length<=4096) (hB2:rowsB.length<=4096) : Calls Tryz.prog 96 #[x.val,.agg #[.slice sa.A sa.n sa.c,.slice ra.A ra.n ra.c],.agg #[.slice sb.A sb.n sb.c,.slice rb.A rb.n rb.c]] w (qo left csB.length rowsA rowsB (ea csA (on.map (·.1))) (ea csB (on.map (·.2))) w):=by
 obtain⟨PO,hPO⟩:∃PO,PO=qo left csB.length rowsA rowsB (ea csA (on.map (·.1))) (ea csB (on.map (·.2))) w:=⟨_,rfl⟩;rw[<- hPO];have HPO:=lh hPO;obtain⟨SA,sn,sc⟩:=sa;obtain⟨RA,rn,rc⟩:=ra;obtain⟨SB,tn,tc⟩:=sb;obtain⟨RB,un,uc⟩:=rb;obtain⟨k0,k1,⟨A2,n2,c2'⟩,⟨⟨ck,cn,⟨cvk,cvn,cvt⟩,cop⟩,CA,cnn,cc⟩,⟨NA,nn,nc⟩,⟨EA,en,ec⟩,⟨OA,ol,oc⟩,⟨GA,gn,gc⟩,⟨BA,bn,bc⟩,count⟩:=x;dsimp only at hleft ho hr ⊢;simp only[PC.val];obtain⟨hA3,hA4,hA5,hA6,slA,hA7,hA8⟩:=hTA;obtain⟨hB3,hB4,hB5,hB6,slB,hB7,hB8⟩:=hTB;dsimp only at hA3 hA4 hA5 hA6 hA7 hA8 hB3 hB4 hB5 hB6 hB7 hB8;subst ho;obtain⟨W,hW⟩:∃W,W=((w.alloc (.cells #[.int .i64 kk,.string k1,.slice A2 n2 c2',.int .i64 ck,.string cn,.int .i64 cvk,.int .i64 cvn,.string cvt,.string cop,.slice CA cnn cc,.slice NA nn nc,.slice EA en ec,.slice OA on.length oc,.slice GA gn gc,.slice BA bn bc,.int .i64 count] 49)).alloc (.cells #[.slice SA sn sc,.slice RA rn rc] 27)).alloc (.cells #[.slice SB tn tc,.slice RB un uc] 27):=⟨_,rfl⟩;have t0:Touch [] w W:=hW ▸ (((Touch.refl [] w).alloc _).alloc _).alloc _
 have hbp:W.heap[w.heap.size]?=some (.cells #[.int .i64 kk,.string k1,.slice A2 n2 c2',.int .i64 ck,.string cn,.int .i64 cvk,.int .i64 cvn,.string cvt,.string cop,.slice CA cnn cc,.slice NA nn nc,.slice EA en ec,.slice OA on.length oc,.slice GA gn gc,.slice BA bn bc,.int .i64 count] 49 (0,0)):=hW ▸ (((Touch.refl [] (w.alloc (.cells #[.int .i64 kk,.string k1,.slice A2 n2 c2',.int .i64 ck,.string cn,.int .i64 cvk,.int .i64 cvn,.string cvt,.string cop,.slice CA cnn cc,.slice NA nn nc,.slice EA en ec,.slice OA on.length oc,.slice GA gn gc,.slice BA bn bc,.int .i64 count] 49))).alloc (.cells #[.slice SA sn sc,.slice RA rn rc] 27)).alloc (.cells #[.slice SB tn tc,.slice RB un uc] 27)).blk (ah w _) (by simp);have hba:W.heap[w.heap.size+1]?=some (.cells #[.slice SA sn sc,.slice RA rn rc] 27 (0,0)):=by
  have h1:=ah (w.alloc (.cells #[.int .i64 kk,.string k1,.slice A2 n2 c2',.int .i64 ck,.string cn,.int .i64 cvk,.int .i64 cvn,.string cvt,.string cop,.slice CA cnn cc,.slice NA nn nc,.slice EA en ec,.slice OA on.length oc,.slice GA gn gc,.slice BA bn bc,.int .i64 count] 49)) (.cells #[.slice SA sn sc,.slice RA rn rc] 27);rw[ao] at h1;exact hW ▸ ((Touch.refl [] ((w.alloc (.cells #[.int .i64 kk,.string k1,.slice A2 n2 c2',.int .i64 ck,.string cn,.int .i64 cvk,.int .i64 cvn,.string cvt,.string cop,.slice CA cnn cc,.slice NA nn nc,.slice EA en ec,.slice OA on.length oc,.slice GA gn gc,.slice BA bn bc,.int .i64 count] 49)).alloc (.cells #[.slice SA sn sc,.slice RA rn rc] 27))).alloc (.cells #[.slice SB tn tc,.slice RB un uc] 27)).blk h1 (by simp)
 have hbb:W.heap[w.heap.size+1+1]?=some (.cells #[.slice SB tn tc,.slice RB un uc] 27 (0,0)):=by have h1:=ah ((w.alloc (.cells #[.int .i64 kk,.string k1,.slice A2 n2 c2',.int .i64 ck,.string cn,.int .i64 cvk,.int .i64 cvn,.string cvt,.string cop,.slice CA cnn cc,.slice NA nn nc,.slice EA en ec,.slice OA on.length oc,.slice GA gn gc,.slice BA bn bc,.int .i64 count] 49)).alloc (.cells #[.slice SA sn sc,.slice RA rn rc] 27)) (.cells #[.slice SB tn tc,.slice RB un uc] 27);rw[ao,ao] at h1;exact hW ▸ h1
 have HLF:=lh hlv;clear hlv;subst hleft;have HW:=lh hW;have HT0:=lh t0;have HBP:=Gc hbp hba hbb;have HON:=lh (d9.touch0 hr t0);have HAS:=Ge hA3 (hA5.touch0 t0) hA6 (hA7.touch t0 (by simp)) (d9.touch0 hA8 t0);have HBS:=Ge hB3 (hB5.touch0 t0) hB6 (hB7.touch t0 (by simp)) (d9.touch0 hB8 t0);have HGA:=lh (hgA.touch0 t0);have HGB:=lh (hgB.touch0 t0);have HLN:=Gd hA0 hB0 hA1 hB1;clear hW t0 hbp hba hbb hr hA3 hA4 hA5 hA6 hA7 hA8 hB3 hB4 hB5 hB6 hB7 hB8 hgA hgB hPO hA0 hB0;go_enter Tryz.func96,Tryz.ntmps96;go_wp2_with fail;rw[<- HW.o];go_loopw [8,9,28] (λo o2 i wr=>∃(k:Nat)(A:Option Addr)(c:Nat)(B:Option Addr)(d:Nat),k<=on.length/\i=.int .i64 k/\o=.slice A k c/\o2=.slice B k d/\Ga (ep 9 1 gD wr A c ((on.take k).map (·.1)))/\Ga (ep 9 1 gD wr B d ((on.take k).map (·.2)))/\Ga (∀b∈ed A,W.heap.size<=b/\b∉ed B)/\Ga (∀b∈ed B,W.heap.size<=b)/\Ga (Touch [] W wr)) (λ_ _ i _=>on.length-(intOf i).toNat)
 case atStart=>exact⟨0,none,0,none,0,by omega,rfl,rfl,rfl,lh (ep.nil _ _ _ _),lh (ep.nil _ _ _ _),lh (by simp[ed]),lh (by simp[ed]),lh (Touch.refl _ _)⟩
 case round =>
 obtain⟨k,A,c,B,d,hk,rfl,rfl,rfl,HO1,HO2,HF1,HF2,HT⟩:=hrel;by_cases hlt:k<on.length
 ·obtain⟨ad,b1,o1,rfl,hadd,hc⟩:=d9.cells (HON.o.touch0 HT.o) 2 lH (by omega) k hlt;have htk:=au hlt;obtain⟨p,hp⟩:∃p,p=on[k]:=⟨_,rfl⟩;rw[<- hp] at hc htk;obtain⟨p1,p2⟩:=p;have e0:=hc 0 _ rfl;have e1:=hc 1 _ rfl;rw[aM] at e0;have ta:=(Touch.refl [] wr).alloc (.cells #[.string p1,.string p2] 39);have hbl:=ah wr (.cells #[.string p1,.string p2] 39);have hl1:Ga (((on.take k).map (·.1)).length=k):=lh (by rw[ay,aO];omega);have hl2:Ga (((on.take k).map (·.2)).length=k):=lh (by rw[ay,aO];omega);have hn1:Ga ((on.take (k+1)).map (·.1)=(on.take k).map (·.1)++[p1]):=lh (by rw[htk,aT];rfl);have hn2:Ga ((on.take (k+1)).map (·.2)=(on.take k).map (·.2)++[p2]):=lh (by rw[htk,aT];rfl);have hkn:(k:Int)<(on.length:Int):=by omega
  have HTa:=Gb ta hbl;clear hc htk hp ta hbl;go_wp2_with (at_builtin;refine ez ?_);refine go ?_;have tb:=HTa.o.1.alloc (.cells #[.string p1] 9);have hrd:=d9.one (enc:=gD) (wr.alloc (.cells #[.string p1,.string p2] 39)) 9 p1 #[.string p1] rfl;rw[ao] at hrd;refine eb (enc:=gD) rfl (.tmp 32) (.tmp 35) 45 rfl 9 _ 1 16 us Tryz.underlying45 rfl (by omega) iR xN A k c _ hl1.o rfl (HO1.o.touch0 tb)
   (some ⟨wr.heap.size+1,0,none⟩) 1 1 [p1] rfl rfl hrd (by omega) (by omega) ?_
  intro A' c' w1 hown ht hf;rw[ao,ao] at hf;have hlA:=HO1.o.lt;have hlB:=HO2.o.lt;have hWr:=HT.o.size;have hbq:=ht.blk (((Touch.refl [] (wr.alloc (.cells #[.string p1,.string p2] 39))).alloc (.cells #[.string p1] 9)).blk HTa.o.2 (by simp)) (λq=>by have:=hlA _ q;omega);obtain⟨g0,g1,_,_⟩:=eL hbq;have hob:ep 9 1 gD w1 B d ((on.take k).map (·.2)):=(HO2.o.touch0 tb).touch ht (λb hb hm=>(HF1.o b hm).2 hb);have hsz:=ht.size;rw[ao,ao] at hsz;have HX:=Gh hown hob ((HT.o.trans0 tb).trans ht (λb hb=>.inr (HF1.o b hb).1)) hf hlB hlA hWr hsz;clear hown ht hf hbq hob hlA hlB tb hrd hWr hsz;go_wp2_with (at_builtin;refine ez ?_);refine go ?_;have tc:=(Touch.refl [] w1).alloc (.cells #[.string p2] 9);refine eb (enc:=gD) rfl (.tmp 37) (.tmp 40) 45 rfl 9 _ 1 16 us Tryz.underlying45 rfl (by omega) iR xN B k d _ hl2.o rfl (HX.o.2.1.touch0 tc)
   (some ⟨w1.heap.size,0,none⟩) 1 1 [p2] rfl rfl (d9.one (enc:=gD) w1 9 p2 _ rfl) (by omega) (by omega) ?_
  intro B' d' w2 hown2 ht2 hf2;rw[ao] at hf2;have HY:=Gc hown2 ht2 hf2;clear hown2 ht2 hf2 tc;go_wp2_with fail;go_roundw
  case rel =>
   obtain⟨hown2,ht2,hf2⟩:=HY.o;obtain⟨hown,hob,hT1,hf,hlB,hlA,hWr,hsz⟩:=HX.o;have tc:=(Touch.refl [] w1).alloc (.cells #[.string p2] 9);have hA'B:∀b∈ed A',W.heap.size<=b/\b∉ed B/\b<w1.heap.size:=λb hb=>by
    refine⟨?_, ?_,hown.lt b hb⟩
    ·rcases hf b hb with q | q
     ·exact(HF1.o b q).1
     omega
    rcases hf b hb with q | q
    ·exact(HF1.o b q).2
    intro q2;have:=hlB b q2;omega
   refine⟨k+1,A',c',B',d',by omega,by go_num,rfl,rfl,lh ?_,lh (by rw[hn2.o];exact hown2),lh (λb hb=>⟨(hA'B b hb).1,λq=> ?_⟩),lh (λb hb=> ?_),lh ((hT1.trans0 tc).trans ht2 (λb hb=>.inr (HF2.o b hb)))⟩
   ·rw[hn1.o];exact(hown.touch0 tc).touch ht2 (λb hb hm=>(hA'B b hb).2.1 hm)
   ·rcases hf2 b q with z | z
    ·exact(hA'B b hb).2.1 z
    have:=(hA'B b hb).2.2;omega
   rcases hf2 b hb with z | z
   ·exact HF2.o b z
   have:=hT1.size;omega
  case measure=>simp[intOf];omega
 obtain rfl:k=on.length:=by omega
 have hO1:=HO1.o;have hO2:=HO2.o;rw[aH] at hO1 hO2;obtain⟨n1,hn1⟩:∃n1,n1=on.map (·.1):=⟨_,rfl⟩;obtain⟨n2',hn2⟩:∃n2,n2=on.map (·.2):=⟨_,rfl⟩;rw[<- hn1] at hO1;rw[<- hn2] at hO2;have hn1l:n1.length=on.length:=by rw[hn1,ay]
 have hn2l:n2'.length=on.length:=by rw[hn2,ay]
 obtain⟨p0,_⟩:=fg (HT.o.blk HBP.o.1 (by simp));obtain⟨qa0,qa1,_,_⟩:=eL (HT.o.blk HBP.o.2.1 (by simp));obtain⟨qb0,qb1,_,_⟩:=eL (HT.o.blk HBP.o.2.2 (by simp));have td:=(Touch.refl [] wr).drew;have qa0d:=td.cell qa0 (by simp);have qb0d:=td.cell qb0 (by simp);have Hpl1:=lh λw'(t:Touch [] wr w')=>mH SA sc sn csA HAS.o.1.symm (by have:=HAS.o.1;have:=HLN.o.2.2.1;omega) A c on.length n1 hn1l (by omega) w' (HAS.o.2.1.touch0 (HT.o.trans0 t)) (d9.touch0 hO1.rd t);have Hpl2:=lh λw'(t:Touch [] wr w')=>mH SB tc tn csB HBS.o.1.symm (by have:=HBS.o.1;have:=HLN.o.2.2.2;omega) B d on.length n2' hn2l (by omega) w' (HBS.o.2.1.touch0 (HT.o.trans0 t)) (d9.touch0 hO2.rd t);have HTD:=lh td;have HN:=Gd hn1 hn2 hn1l hn2l;obtain⟨W1,hW1⟩:∃W1,W1=wr:=⟨_,rfl⟩;subst hW1;clear hO1 hO2 hn1 hn2 hn1l hn2l HO1 HO2 HF1 HF2 td hlt HON p0 qa0 qa1 qb0 qb1;go_wp2_with fail;go_region_held3 (λw'=>w'.cell? ⟨w.heap.size+1,0,none⟩=some (.slice SA sn sc)/\w'.cell? ⟨w.heap.size+1+1,0,none⟩=some (.slice SB tn tc)) (first | exact⟨qa0d,qb0d⟩ | exact⟨ra0,rb0⟩ | exact⟨sa0,sb0⟩) (first
  |(go_at_call 133;refine(Hpl2.o _ (HTD.o.trans0 M1.o.t)).mono ?_;rintro e w2 ⟨B1,m2,rfl,M2'⟩;have M2:=lh M2';clear M2';have sa0:=M2.o.t.cell ra0 (by simp);have sb0:=M2.o.t.cell rb0 (by simp))
  |(go_at_call 133;refine(Hpl1.o _ HTD.o).mono ?_;rintro e w1 ⟨A1,m1,rfl,M1'⟩;have M1:=lh M1';clear M1';have ra0:=M1.o.t.cell qa0d (by simp);have rb0:=M1.o.t.cell qb0d (by simp)))
 obtain⟨at_,hat⟩:∃at_,at_=ea csA n1:=⟨_,rfl⟩;obtain⟨bt,hbt⟩:∃bt,bt=ea csB n2':=⟨_,rfl⟩;rw[<- hat] at M1;rw[<- hbt] at M2;have HATL:=lh (show at_.length=on.length/\∀i∈at_,i<csA.length from ⟨by rw[hat];unfold ea;rw[ay];exact HN.o.2.2.1,by rw[hat];exact l_ HLN.o.1⟩);have HBTL:=lh (show bt.length=on.length/\∀i∈bt,i<csB.length from ⟨by rw[hbt];unfold ea;rw[ay];exact HN.o.2.2.2,by rw[hbt];exact l_ HLN.o.2.1⟩);have HPE:=lh (show PO=qo left csB.length rowsA rowsB at_ bt w by rw[HPO.o,hat,hbt,HN.o.1,HN.o.2.1]);clear hat hbt HPO;have HT2:=lh ((HT.o.trans0 HTD.o).trans0 (M1.o.t.trans0 M2.o.t));have HRA:=lh (d9.touch0 M1.o.own.rd M2.o.t);have HRB:=lh M2.o.own.rd;have hmm:=@run_makeMap Tryz.prog;have qb1:=((HT2.o.alloc (.map #[] 0)).cell (eL HBP.o.2.2).2.1 (by simp));clear qa0d qb0d ra0 rb0 sa0 sb0 M1 M2 Hpl1 Hpl2 HTD HN;go_wp2_with fail;clear hmm qb1;go_loopw [55] (λi wr=>∃(k:Nat)(es:List EN),k<=un/\i=.int .i64 k/\Ga (IdxAt slB w2.heap.size wr w2.heap.size es)/\Ga (IdxIs (iC rowsB bt) (eF rowsB bt) k es)/\Ga (Touch [] w2 wr)) (λi _=>un-(intOf i).toNat)
 case atStart=>exact⟨0,[],by omega,rfl,lh (IdxAt.made slB w2),lh (IdxIs.zero _ _),lh ((Touch.refl _ _).alloc _)⟩
 case round =>
 obtain⟨k,es,hk,rfl,HIX,HIS,HTw⟩:=hrel;by_cases hlt:k<un
 ·have hkB:k<rowsB.length:=by rw[<- HBS.o.2.2.1];exact hlt
  have hkS:k<slB.length:=by rw[HBS.o.2.2.2.1.1];exact hkB
  have HTr:=lh (HT2.o.trans0 HTw.o);obtain⟨bd,b1,o1,rfl,hadd,hc⟩:=d9.cells (d9.touch0 HBS.o.2.2.2.2 HTr.o) 1 eC (by omega) k hkS;rw[bO] at hadd;have e0:=hc 0 _ rfl;rw[aM] at e0;have hsl:=HBS.o.2.2.2.1.2 k hkS hkB;have hgr:=HGB.o _ (am hkB);have hsk:ig slB k=slB[k]:=by unfold ig;simp[hkS]
  have hrk:rowsB.getD k []=rowsB[k]:=by simp[hkB]
  have hok0:iC rowsB bt k = !iQ (eE rowsB[k] bt):=by unfold iC;rw[hrk]
  have hky0:eF rowsB bt k=fY (eE rowsB[k] bt):=by unfold eF;rw[hrk]
  obtain⟨s,hs⟩:∃s,s=slB[k]:=⟨_,rfl⟩;obtain⟨r,hr⟩:∃r,r=rowsB[k]:=⟨_,rfl⟩;rw[<- hs] at e0 hsl hsk;rw[<- hr] at hsl hgr hok0 hky0;obtain⟨A9,n9,c9⟩:=s;dsimp only at e0 hsl;obtain⟨hn9,hv9⟩:=hsl;have hpl:(eE r bt).length=on.length:=by unfold eE;rw[ay];exact HBTL.o.1
  have Hpk:=lh (oT A9 c9 n9 r hn9.symm (by rw[hn9,hgr.1];have:=HLN.o.2.2.2;omega) B1 m2 on.length bt HBTL.o.1 (by omega) (by rw[hn9,hgr.1];exact HBTL.o.2) wr (d9.touch0 hv9 HTr.o) (d9.touch0 HRB.o HTw.o));have Hnl:=lh λA c w'(hv:eu w' A (eE r bt))=>wv A c on.length (eE r bt) hpl w' hv (by omega);have hkp:=λA c w'(ht:Touch [] W w')(hv:eu w' A (eE r bt))=>rD (w:=W) (at_:=bt) hgr.1 HBTL.o.2 (by rw[HBTL.o.1];omega) hgr.2 A c w' ht hv;rw[HBTL.o.1,<- hky0] at hkp;have hkl:(eF rowsB bt k).length<=1000000:=by rw[hky0];have:=rQ (eE r bt) λv hv=>(hgr.2 v (mQ (by rw[hgr.1];exact HBTL.o.2) v hv)).2;omega
  have Hkp:=lh hkp;have HSK:=lh hsk;obtain⟨K,hK⟩:∃K,K=eF rowsB bt k:=⟨_,rfl⟩;rw[<- hK] at Hkp hkl;have HK:=lh hK;obtain⟨nb,hnb⟩:∃nb,nb=iQ (eE r bt):=⟨_,rfl⟩;rw[<- hnb] at Hnl hok0;have Hok0:=lh hok0;have hkn:(k:Int)<(un:Int):=by omega
  clear hc hgr hsk hrk hok0 hky0 hs hr hn9 hv9 hpl hkp hK hnb;cases nb
  ·by_cases hex:∃e∈es,e.key=K
   ·obtain⟨e0',hem,hek⟩:=hex;obtain⟨l1,l2,rfl⟩:=List.append_of_mem hem;subst hek;have HHIT:=lh λw'(t:Touch [] wr w')=>(HIX.o.touch0 t).hit e0' hem (by omega) false;clear hem;obtain⟨ek,eA,ec,eix⟩:=e0';dsimp only at HHIT Hkp HK hkl;go_wp2_with fail;refine Hpk.o.mono ?_;rintro e w5 ⟨A5,c5,rfl,m5⟩;have M5:=lh m5;have Hn5:=lh (Hnl.o A5 c5 w5 m5.own.rd);clear m5 Hpk Hnl;go_wp2_with fail;refine Hn5.o.mono ?_;rintro e w6 ⟨rfl,t6⟩;have HT6:=lh (M5.o.t.trans0 t6);have Hk6:=lh (Hkp.o A5 c5 w6 (HTr.o.trans0 HT6.o) (d9.touch0 M5.o.own.rd t6));have HV6:=lh (d9.touch0 M5.o.own.rd t6);clear t6 Hn5;go_wp2_with fail;refine Hk6.o.mono ?_;rintro e w7 ⟨rfl,t7⟩;have HT7:=lh (HT6.o.trans0 t7);have Hk7:=lh (Hkp.o A5 c5 w7 (HTr.o.trans0 HT7.o) (d9.touch0 HV6.o t7));clear t7 Hk6;go_wp2_with fail;refine Hk7.o.mono ?_;rintro e w8 ⟨rfl,t8⟩;have HT8:=lh (HT7.o.trans0 t8);clear t8 Hk7;go_wp2_with (at_lookup;refine ez ?_);refine go ?_;refine fG rfl (.tmp 68) (.tmp 70) 191 false rfl _ _ _ rfl rfl (HHIT.o _ HT8.o) ?_;go_wp2_with (at_builtin;refine ez ?_);refine go ?_;have ta:=(Touch.refl [] w8).alloc (.cells #[.slice A9 n9 c9] 33);have hix8:=(HIX.o.touch0 HT8.o).touch0 ta;have hmem0:(⟨ek,eA,ec,eix⟩:EN)∈l1++⟨ek,eA,ec,eix⟩:: l2:=by simp
    have hxl:eix.length<=4096:=by have:=HIS.o.ix _ hmem0;dsimp only at this;rw[this];unfold iG;refine bm (bP _ _) ?_;rw[cH];omega
    refine eb (enc:=eT) rfl (.tmp 71) (.tmp 73) 25 rfl 33 _ 1 24 gf bp rfl (by omega) eC ia eA eix.length ec (eix.map (ig slB)) (by rw[ay]) rfl (hix8.own _ hmem0)
     (some ⟨w8.heap.size,0,none⟩) 1 1 [⟨A9,n9,c9⟩] rfl rfl (d9.one (enc:=eT) w8 33 ⟨A9,n9,c9⟩ _ rfl) (by omega) (by omega) ?_
    intro A' c' w' hown ht hf;have hsz8:w2.heap.size<=w8.heap.size:=(HTw.o.trans0 HT8.o).size;rw[<- HSK.o,show (eix.map (ig slB))++[ig slB k]=(eix++[k]).map (ig slB) by rw[aT];rfl] at hown;obtain⟨w'',hrun,hix2,t2⟩:=hix8.put_old (by dsimp only;omega) k A' c' hown ht (λa ha=>by
     rcases hf a ha with q|q
     ·exact .inl q
     exact .inr (by rw[q];exact aL _)) (by rw[ao];omega)
    have Hrun:=lh hrun;have HX:=Gc hix2 ((HTw.o.trans0 HT8.o).trans0 ta |>.trans ht (λb hb=>.inr ((HIX.o.low _ hmem0 b hb).1))) t2;clear hrun hix2 t2 hown ht hf ta hix8 hmem0 hsz8;go_wp2_with (at_mapUpdate;refine ez ?_);refine go ?_;refine jb rfl (.tmp 65) (.tmp 67) (.tmp 74) 191 rfl _ _ _ rfl rfl rfl Hrun.o ?_;go_wp2_with fail;go_roundw
    case rel=>exact⟨k+1,_,by omega,by go_num,lh HX.o.1,lh (HIS.o.put_old (by rw[Hok0.o];rfl) HK.o A' c'),lh (HX.o.2.1.trans HX.o.2.2 (λb hb=>.inr (by simp at hb;omega)))⟩
    case measure=>simp[intOf];omega
   have hno:∀e∈es,e.key≠K:=λe he h=>hex ⟨e,he,h⟩;have HMISS:=lh λw'(t:Touch [] wr w')=>(HIX.o.touch0 t).miss K (by omega) hno false;have HNO:=lh hno;clear hex hno;go_wp2_with fail;refine Hpk.o.mono ?_;rintro e w5 ⟨A5,c5,rfl,m5⟩;have M5:=lh m5;have Hn5:=lh (Hnl.o A5 c5 w5 m5.own.rd);clear m5 Hpk Hnl;go_wp2_with fail;refine Hn5.o.mono ?_;rintro e w6 ⟨rfl,t6⟩;have HT6:=lh (M5.o.t.trans0 t6);have Hk6:=lh (Hkp.o A5 c5 w6 (HTr.o.trans0 HT6.o) (d9.touch0 M5.o.own.rd t6));have HV6:=lh (d9.touch0 M5.o.own.rd t6);clear t6 Hn5;go_wp2_with fail;refine Hk6.o.mono ?_;rintro e w7 ⟨rfl,t7⟩;have HT7:=lh (HT6.o.trans0 t7);have Hk7:=lh (Hkp.o A5 c5 w7 (HTr.o.trans0 HT7.o) (d9.touch0 HV6.o t7));clear t7 Hk6;go_wp2_with fail;refine Hk7.o.mono ?_;rintro e w8 ⟨rfl,t8⟩;have HT8:=lh (HT7.o.trans0 t8);clear t8 Hk7;go_wp2_with (at_lookup;refine ez ?_);refine go ?_;refine fG rfl (.tmp 68) (.tmp 70) 191 false rfl _ _ _ rfl rfl (HMISS.o _ HT8.o) ?_;go_wp2_with (at_builtin;refine ez ?_);refine go ?_;have ta:=(Touch.refl [] w8).alloc (.cells #[.slice A9 n9 c9] 33);have hix8:=(HIX.o.touch0 HT8.o).touch0 ta;refine eb (enc:=eT) rfl (.tmp 71) (.tmp 73) 25 rfl 33 _ 1 24 gf bp rfl (by omega) eC ia none 0 0 [] rfl rfl (ep.nil _ _ _ _)
    (some ⟨w8.heap.size,0,none⟩) 1 1 [⟨A9,n9,c9⟩] rfl rfl (d9.one (enc:=eT) w8 33 ⟨A9,n9,c9⟩ _ rfl) (by omega) (by omega) ?_
   intro A' c' w' hown ht hf;have hsz8:w2.heap.size<=w8.heap.size:=(HTw.o.trans0 HT8.o).size;rw[cw,<- HSK.o] at hown;obtain⟨w'',hrun,hix2,t2⟩:=hix8.put_new K (by omega) HNO.o k A' c' hown ht (λa ha=>by
    rcases hf a ha with q|q
    ·simp[ed] at q
    rw[q];exact aL _) (by rw[ao];omega)
   have Hrun:=lh hrun;have HX:=Gc hix2 (((HTw.o.trans0 HT8.o).trans0 ta).trans0 ht) t2;clear hrun hix2 t2 hown ht hf ta hix8 hsz8;go_wp2_with (at_mapUpdate;refine ez ?_);refine go ?_;refine jb rfl (.tmp 65) (.tmp 67) (.tmp 74) 191 rfl _ _ _ rfl rfl rfl Hrun.o ?_;go_wp2_with fail;go_roundw
   case rel=>exact⟨k+1,_,by omega,by go_num,lh HX.o.1,lh (by have:=HIS.o.put_new (by rw[Hok0.o];rfl) (by rw[<- HK.o];exact HNO.o) A' c';rw[<- HK.o] at this;exact this),lh (HX.o.2.1.trans HX.o.2.2 (λb hb=>.inr (by simp at hb;omega)))⟩
   case measure=>simp[intOf];omega
  go_wp2_with fail;refine Hpk.o.mono ?_;rintro e w5 ⟨A5,c5,rfl,m5⟩;have M5:=lh m5;have Hn5:=lh (Hnl.o A5 c5 w5 m5.own.rd);clear m5 Hpk Hnl;go_wp2_with fail;refine Hn5.o.mono ?_;rintro e w6 ⟨rfl,t6⟩;have HT6:=lh (M5.o.t.trans0 t6);clear t6 Hn5;go_wp2_with fail;go_roundw
  case rel=>exact⟨k+1,es,by omega,by go_num,lh (HIX.o.touch0 HT6.o),lh (HIS.o.skip (by rw[Hok0.o];rfl)),lh (HTw.o.trans0 HT6.o)⟩
  case measure=>simp[intOf];omega
 obtain rfl:k=un:=by omega
 obtain⟨W3,hW3⟩:∃W3,W3=wr:=⟨_,rfl⟩;subst hW3;have hra1:=(HT2.o.trans0 HTw.o).cell (eL HBP.o.2.1).2.1 (by simp);have HP16:=lh (fg ((HT2.o.trans0 HTw.o).blk HBP.o.1 (by simp)));have hIS:IdxIs (iC rowsB bt) (eF rowsB bt) rowsB.length es:=by rw[<- HBS.o.2.2.1];exact HIS.o
 have HISB:=lh hIS;clear hIS HIS hlt hk;go_wp2_with fail;clear hra1;go_loopw [18,79] (λo i w4=>∃(k q:Nat)(B:Option Addr)(c:Nat),k<=rn/\q<=4096/\i=.int .i64 k/\o=.slice B q c/\Ga (fl 33 0 w4 B c (fq left csB.length (rowsA.take k) rowsB at_ bt))/\Ga (q=(fq left csB.length (rowsA.take k) rowsB at_ bt).length)/\Ga (∀b∈ed B,W3.heap.size<=b)/\Ga (Touch [] W3 w4)) (λ_ i _=>rn-(intOf i).toNat)
 case atStart=>exact⟨0,0,none,0,by omega,by omega,rfl,rfl,lh (fl.nil _ _ _),lh rfl,lh (by simp[ed]),lh (Touch.refl _ _)⟩
 case round =>
 obtain⟨k,q,B,c,hk,hq,rfl,rfl,HOR,HPQ,HBF,HTq⟩:=hrel;by_cases hlt:k<rn
 ·have hkA:k<rowsA.length:=by rw[<- HAS.o.2.2.1];exact hlt
  have hkS:k<slA.length:=by rw[HAS.o.2.2.2.1.1];exact hkA
  have HT3r:=lh (HT2.o.trans0 HTw.o);have HTr:=lh (HT3r.o.trans0 HTq.o);obtain⟨bd,b1,o1,rfl,hadd,hc⟩:=d9.cells (d9.touch0 HAS.o.2.2.2.2 HTr.o) 1 eC (by omega) k hkS;rw[bO] at hadd;have e0:=hc 0 _ rfl;rw[aM] at e0;have hsl:=HAS.o.2.2.2.1.2 k hkS hkA;have hgr:=HGA.o _ (am hkA);have hjn0:=yB left csB.length rowsA rowsB at_ bt k hkA;obtain⟨s,hs⟩:∃s,s=slA[k]:=⟨_,rfl⟩;obtain⟨r,hr⟩:∃r,r=rowsA[k]:=⟨_,rfl⟩;rw[<- hs] at e0 hsl;rw[<- hr] at hsl hgr hjn0;obtain⟨A6,n6,c6⟩:=s;dsimp only at e0 hsl;obtain⟨hn9,hv9⟩:=hsl;have HR6:=lh (aa hn9.symm (aa (show n6<=16 by rw[hn9,hgr.1];exact HLN.o.2.2.1) λw'(t:Touch [] W3 w')=>(d9.touch0 hv9 (HT3r.o.trans0 t):eu w' A6 r)));have hpl:(eE r at_).length=on.length:=by unfold eE;rw[ay];exact HATL.o.1
  have Hpk:=lh (oT A6 c6 n6 r hn9.symm (by have:=HR6.o.2.1;omega) A1 m1 on.length at_ HATL.o.1 (by omega) (by rw[hn9,hgr.1];exact HATL.o.2) wr (d9.touch0 hv9 HTr.o) (d9.touch0 HRA.o (HTw.o.trans0 HTq.o)));have Hnl:=lh λA c w'(hv:eu w' A (eE r at_))=>wv A c on.length (eE r at_) hpl w' hv (by omega);have hkp:=λA c w'(ht:Touch [] W w')(hv:eu w' A (eE r at_))=>rD (w:=W) (at_:=at_) hgr.1 HATL.o.2 (by rw[HATL.o.1];omega) hgr.2 A c w' ht hv;rw[HATL.o.1] at hkp;have hkl:(fY (eE r at_)).length<=1000000:=by have:=rQ (eE r at_) λv hv=>(hgr.2 v (mQ (by rw[hgr.1];exact HATL.o.2) v hv)).2;omega
  have Hkp:=lh hkp;obtain⟨K,hK⟩:∃K,K=fY (eE r at_):=⟨_,rfl⟩;rw[<- hK] at Hkp hkl;obtain⟨nb,hnb⟩:∃nb,nb=iQ (eE r at_):=⟨_,rfl⟩;rw[<- hnb] at Hnl;have hfi:jp rowsB bt at_ r=if nb=true then [] else iG (iC rowsB bt) (eF rowsB bt) rowsB.length K:=by unfold jp;rw[hnb,hK]
  have HFI:=lh hfi;have HJN0:=lh hjn0;obtain⟨PR,hPR⟩:∃PR,PR=fq left csB.length (rowsA.take k) rowsB at_ bt:=⟨_,rfl⟩;rw[<- hPR] at HOR HPQ HJN0;have HPR:Ga (PR.length=q):=lh HPQ.o.symm;have hkn:(k:Int)<(rn:Int):=by omega
  clear hc hgr hs hr hn9 hv9 hpl hkp hK hnb hfi hjn0 hPR;cases nb
  ·by_cases hex:∃e∈es,e.key=K
   ·obtain⟨e0',hem,hek⟩:=hex;subst hek;have HHIT:=lh λw'(t:Touch [] W3 w')=>(HIX.o.touch0 t).hit e0' hem (by omega) false;have hix:=HISB.o.ix e0' hem;have hne:=HISB.o.some e0' hem;have hlow:=HIX.o.own e0' hem;obtain⟨ek,eA,ec,eix⟩:=e0';dsimp only at HHIT Hkp hkl hix hne hlow HFI;have hfx:jp rowsB bt at_ r=eix:=by rw[HFI.o,ab (by simp),<- hix]
    have hxl:eix.length<=4096:=by rw[hix];unfold iG;refine bm (bP _ _) ?_;rw[cH];omega
    obtain⟨fn,hfn⟩:∃fn,fn=eix.length:=⟨_,rfl⟩;rw[<- hfn] at HHIT hxl;have hfnz:fn≠0:=by rw[hfn];intro z;exact hne (aV z)
    have hxlt:∀i∈eix,i<rowsB.length:=by rw[hix];exact sR
    obtain⟨Fsx,hFS⟩:∃Fsx,Fsx=eix.map (ig slB):=⟨_,rfl⟩;obtain⟨FR,hFR⟩:∃FR,FR=eix.map λi=>rowsB.getD i []:=⟨_,rfl⟩;have HFS:=lh (show Fsx.length=fn/\Fsx.length=FR.length/\(∀w',Touch [] W3 w'->∀i(h1:i<Fsx.length)(h2:i<FR.length),Fsx[i].n=FR[i].length/\eu w' Fsx[i].A FR[i])/\(∀w',Touch [] W3 w'->d9 eT w' eA Fsx)/\∀o∈FR,o.length<=1000 from
     ⟨by rw[hFS,hfn,ay],by rw[hFS,hFR,ay,ay],λw' t=>by rw[hFS,hFR];exact((HBS.o.2.2.2.1.touch (HT3r.o.trans0 t) (by simp)).pick eix hxlt).2,λw' t=>by rw[hFS];exact d9.touch0 hlow.rd t,λo ho=>by rw[hFR] at ho;obtain⟨i,hi,rfl⟩:=aJ.1 ho;have hib:=hxlt i hi;have:=(HGB.o _ (am hib)).1;have:=HLN.o.2.2.2;simp[hib];omega⟩)
    have HJN:=lh (show fq left csB.length (rowsA.take (k+1)) rowsB at_ bt=PR++FR.map λo=>r++o by rw[HJN0.o];congr 2;unfold jc;rw[hfx,ab (λz=>hne z.1),hFR])
    have hfb:((fn:Int)==0)=false:=by rw[aw];omega
    clear hem hix hne hlow hfx hfn hFS hFR hxlt HJN0 HFI;go_wp2_with fail;refine Hpk.o.mono ?_;rintro e w5 ⟨A5,c5,rfl,m5⟩;have M5:=lh m5;have Hn5:=lh (Hnl.o A5 c5 w5 m5.own.rd);clear m5 Hpk Hnl;go_wp2_with fail;refine Hn5.o.mono ?_;rintro e w6 ⟨rfl,t6⟩;have HT6:=lh (M5.o.t.trans0 t6);have Hk6:=lh (Hkp.o A5 c5 w6 (HTr.o.trans0 HT6.o) (d9.touch0 M5.o.own.rd t6));clear t6 Hn5;go_wp2_with fail;refine Hk6.o.mono ?_;rintro e w7 ⟨rfl,t7⟩;have HT4:=lh (HT6.o.trans0 t7);clear t7 Hk6;go_wp2_with (at_lookup;refine ez ?_);refine go ?_;refine fG rfl (.tmp 89) (.tmp 91) 191 false rfl _ _ _ rfl rfl (HHIT.o _ (HTq.o.trans0 HT4.o)) ?_;go_wp2_with fail;go_loopw [18,108] (λo i w4=>∃(j q2:Nat)(B:Option Addr)(c:Nat),j<=fn/\q2<=9000/\i=.int .i64 j/\o=.slice B q2 c/\Ga (fl 33 0 w4 B c (PR++(FR.take j).map λo=>r++o))/\Ga (q2=q+j)/\Ga (∀b∈ed B,W3.heap.size<=b)/\Ga (Touch [] W3 w4)) (λ_ i _=>fn-(intOf i).toNat)
    case atStart=>exact⟨0,q,B,c,by omega,by omega,rfl,rfl,lh (by rw[List.take_zero,dh,bN];exact HOR.o.touch0 HT4.o),lh (by omega),HBF,lh (HTq.o.trans0 HT4.o)⟩
    case round =>
    obtain⟨j,q2,B,c,hj,hq2,rfl,rfl,HOQ,HQ2,HBQ,HT5⟩:=hrel;by_cases hlj:j<fn
    ·have hjS:j<Fsx.length:=by rw[HFS.o.1];exact hlj
     have hjR:j<FR.length:=by rw[<- HFS.o.2.1];exact hjS
     obtain⟨ad,b1,o1,rfl,hadd,hc⟩:=d9.cells (HFS.o.2.2.2.1 wr (by exact HT5.o)) 1 eC (by omega) j hjS;rw[bO] at hadd;have e0:=hc 0 _ rfl;rw[aM] at e0;have hsl:=HFS.o.2.2.1 wr (by exact HT5.o) j hjS hjR;have hol:=HFS.o.2.2.2.2 _ (am hjR);have htk:=au hjR;obtain⟨s,hs⟩:∃s,s=Fsx[j]:=⟨_,rfl⟩;obtain⟨o,ho⟩:∃o,o=FR[j]:=⟨_,rfl⟩;rw[<- hs] at e0 hsl;rw[<- ho] at hsl hol htk;obtain⟨A7,n7,c7⟩:=s;dsimp only at e0 hsl;have hcc:=nN A6 A7 n6 n7 c6 c7 r o HR6.o.1 hsl.1.symm (by have:=HR6.o.2.1;omega) (by omega) wr (HR6.o.2.2 wr HT5.o) hsl.2;obtain⟨M,hM⟩:∃M,M=(r++o).length:=⟨_,rfl⟩;rw[<- hM] at hcc;have Hcc:=lh hcc;have HM:=lh hM;have Htk:=lh htk;have hjn:(j:Int)<(fn:Int):=by omega
     clear hcc hM htk hsl hs ho hc;go_wp2_with fail;refine Hcc.o.mono ?_;rintro e w7 ⟨A8,c8,rfl,m8⟩;have M8:=lh m8;clear m8 Hcc;go_wp2_with (at_builtin;refine ez ?_);refine go ?_;have hBlt:=HOQ.o.lt;have hs7:=M8.o.t.size;have HML:=lh (show (PR++(FR.take j).map λo=>r++o).length=q2 by rw[az,ay,aO,HPR.o,HQ2.o];omega);refine gF rfl (.tmp 112) (.tmp 117) 25 rfl 33 gf bp 0 B q2 c _ HML.o rfl (HOQ.o.touch0 M8.o.t) A8 c8 (r++o) M8.o.own.rd
      (λb hb=>⟨λz=>by have:=hBlt b z;have:=M8.o.f b hb;omega,M8.o.own.lt b hb,aY _⟩) 1 rfl (by omega) (by rw[HM.o]) ?_
     intro B' c' w' hown ht hf;have HX:=Gc hown (((HT5.o.trans0 M8.o.t).alloc _).trans ht (λb hb=>.inr (HBQ.o b hb))) hf;clear hown ht hf hBlt hs7;go_wp2_with fail;go_roundw
     case rel =>
      obtain⟨hown,ht,hf⟩:=HX.o;refine⟨j+1,q2+1,B',c',by omega,by have:=HQ2.o;omega,by go_num,by rfl,lh (by rw[Htk.o,aT,<- cA];exact hown),lh (by have:=HQ2.o;omega),lh (λb hb=> ?_),lh ht⟩;rcases hf b hb with z|z
      ·exact HBQ.o b z
      have:=HT5.o.size;have:=M8.o.t.size;omega
     case measure=>simp[intOf];omega
    obtain rfl:j=fn:=by omega
    have HOE:Ga (fl 33 0 wr B c (fq left csB.length (rowsA.take (k+1)) rowsB at_ bt)):=lh (by have:=HOQ.o;rwa[<- HFS.o.1,HFS.o.2.1,aH,<- HJN.o] at this)
    have HQE:Ga (q2=(fq left csB.length (rowsA.take (k+1)) rowsB at_ bt).length):=lh (by rw[HJN.o,az,ay,<- HFS.o.2.1,HFS.o.1,HPR.o,HQ2.o])
    by_cases hbig:4096<q2
    ·have hbg:4096<(q2:Int):=by omega
     have HB:=lh (show 4096<(fq left csB.length rowsA rowsB at_ bt).length by have:=nj left csB.length rowsA rowsB at_ bt (k+1);have:=HQE.o;omega)
     go_wp2_with fail;rw[HPE.o];refine⟨((HT0.o.trans0 HT2.o).trans0 HTw.o).trans0 HT5.o, ?_⟩;rw[ae HB.o];rfl
    have hbg:(4096<(q2:Int))=False:=by simp;omega
    go_wp2_with fail;go_roundw
    case rel=>exact⟨k+1,q2,B,c,by omega,by omega,by go_num,rfl,HOE,HQE,HBQ,HT5⟩
    case measure=>simp[intOf];omega
   have hno:∀e∈es,e.key≠K:=λe he h=>hex ⟨e,he,h⟩;have HMISS:=lh λw'(t:Touch [] W3 w')=>(HIX.o.touch0 t).miss K (by omega) hno false;have hfx:jp rowsB bt at_ r=[]:=by rw[HFI.o,ab (by simp)];exact HISB.o.none_ hno
   clear hex hno;by_cases hkk:kk=5
   ·have hf1:jc left csB.length rowsB bt at_ r=[List.replicate csB.length (⟨0,0,⟨#[]⟩⟩:VD)]:=by unfold jc;rw[hfx,HLF.o,aF hkk,ae ⟨rfl,rfl⟩]
    have hkq:(kk==5)=true:=by rw[hkk];rfl
    have HJN:=lh (show fq left csB.length (rowsA.take (k+1)) rowsB at_ bt=PR++[r++List.replicate csB.length (⟨0,0,⟨#[]⟩⟩:VD)] by rw[HJN0.o,hf1];rfl)
    clear hfx hf1 hkk HJN0 HFI;go_wp2_with fail;refine Hpk.o.mono ?_;rintro e w5 ⟨A5,c5,rfl,m5⟩;have M5:=lh m5;have Hn5:=lh (Hnl.o A5 c5 w5 m5.own.rd);clear m5 Hpk Hnl;go_wp2_with fail;refine Hn5.o.mono ?_;rintro e w6 ⟨rfl,t6⟩;have HT6:=lh (M5.o.t.trans0 t6);have Hk6:=lh (Hkp.o A5 c5 w6 (HTr.o.trans0 HT6.o) (d9.touch0 M5.o.own.rd t6));clear t6 Hn5;go_wp2_with fail;refine Hk6.o.mono ?_;rintro e w7 ⟨rfl,t7⟩;have HT4:=lh (HT6.o.trans0 t7);clear t7 Hk6;have hp0:=(HTq.o.trans0 HT4.o).cell HP16.o.1 (by simp);have hqb:=(eL ((HT3r.o.trans0 (HTq.o.trans0 HT4.o)).blk HBP.o.2.2 (by simp))).1;have hmk:=λw'=>yd tn (by have:=HBS.o.1;have:=HLN.o.2.2.2;omega) w';go_wp2_with (at_lookup;refine ez ?_);refine go ?_;refine fG rfl (.tmp 89) (.tmp 91) 191 false rfl _ _ _ rfl rfl (HMISS.o _ (HTq.o.trans0 HT4.o)) ?_;obtain⟨W8,hW8⟩:∃W8,W8=w7.alloc (.cells (madeCells #[.int .i64 0,.int .i64 0,.string ⟨#[]⟩] (tn*3)) 31):=⟨_,rfl⟩;have hv8:=tP tn w7;have t8:=(Touch.refl [] w7).alloc (.cells (madeCells #[.int .i64 0,.int .i64 0,.string ⟨#[]⟩] (tn*3)) 31);rw[<- hW8] at hv8 t8;have hs8:W8.heap.size=w7.heap.size+1:=by rw[hW8,ao]
    have ta:=(Touch.refl [] W8).alloc (.cells #[.slice (some ⟨w7.heap.size,0,none⟩) tn tn] 33);have hrow:=d_ (i:=0) (v:=.slice (some ⟨w7.heap.size,0,none⟩) tn tn) (ah W8 (.cells #[.slice (some ⟨w7.heap.size,0,none⟩) tn tn] 33)) rfl;obtain⟨W9,hW9⟩:∃W9,W9=W8.alloc (.cells #[.slice (some ⟨w7.heap.size,0,none⟩) tn tn] 33):=⟨_,rfl⟩;rw[<- hW9] at ta hrow;rw[hs8] at hrow;have HT9:=lh (HTq.o.trans0 (HT4.o.trans0 (t8.trans0 ta)));have HV9:=lh (d9.touch0 hv8 ta:eu W9 (some ⟨w7.heap.size,0,none⟩) (List.replicate tn (⟨0,0,⟨#[]⟩⟩:VD)));have HT79:=lh (HT4.o.trans0 (t8.trans0 ta));have HW9:=Gb hW8 hW9;have hcc:=nN A6 (some ⟨w7.heap.size,0,none⟩) n6 tn c6 tn r (List.replicate tn (⟨0,0,⟨#[]⟩⟩:VD)) HR6.o.1 (by rw[dY]) (by have:=HR6.o.2.1;omega) (by have:=HBS.o.1;have:=HLN.o.2.2.2;omega) W9 (HR6.o.2.2 W9 HT9.o) HV9.o;obtain⟨M,hM⟩:∃M,M=(r++List.replicate tn (⟨0,0,⟨#[]⟩⟩:VD)).length:=⟨_,rfl⟩;rw[<- hM] at hcc;have Hcc:=lh hcc;have HM:=lh hM;clear hv8 t8 ta hcc hM hW8 hW9;go_wp2_with fail;rw[<- HW9.o.1,<- HW9.o.2];clear hmk hs8;refine b8 2 ?_;rw[bx];go_wp2_with fail;refine Hcc.o.mono ?_;rintro e w10 ⟨A8,c8,rfl,m8⟩;have M8:=lh m8;clear m8 Hcc;go_wp2_with (at_builtin;refine ez ?_);refine go ?_;have hBlt:=HOR.o.lt;have hs7:=HT79.o.size;refine gF rfl (.tmp 112) (.tmp 117) 25 rfl 33 gf bp 0 B q c PR HPR.o rfl (HOR.o.touch0 (HT79.o.trans0 M8.o.t)) A8 c8 (r++List.replicate tn (⟨0,0,⟨#[]⟩⟩:VD)) M8.o.own.rd
     (λb hb=>⟨λz=>by have:=hBlt b z;have:=M8.o.f b hb;omega,M8.o.own.lt b hb,aY _⟩) 1 rfl (by omega) (by rw[HM.o]) ?_
    intro B' c' w' hown ht hf;have hsz:=M8.o.t.size;have hsq:=HTq.o.size;have HX:=Gc (show fl 33 0 w' B' c' (fq left csB.length (rowsA.take (k+1)) rowsB at_ bt) by rw[HJN.o,<- HBS.o.1];exact hown) (((HTq.o.trans0 (HT79.o.trans0 M8.o.t)).alloc _).trans ht (λb hb=>.inr (HBF.o b hb))) (λb(hb:b∈ed B')=>show W3.heap.size<=b by
     rcases hf b hb with z|z
     ·exact HBF.o b z
     omega)
    have HQE:Ga (q+1=(fq left csB.length (rowsA.take (k+1)) rowsB at_ bt).length):=lh (by rw[HJN.o,az,HPR.o];rfl);clear hown ht hf hBlt hs7 hsz hsq hrow;by_cases hbig:4096<q+1
    ·have hbg:4096<((q:Int)+1):=by omega
     have HB:=lh (show 4096<(fq left csB.length rowsA rowsB at_ bt).length by have:=nj left csB.length rowsA rowsB at_ bt (k+1);have:=HQE.o;omega)
     go_wp2_with fail;rw[bx];go_wp2_with fail;rw[HPE.o];refine⟨((HT0.o.trans0 HT2.o).trans0 HTw.o).trans0 HX.o.2.1, ?_⟩;rw[ae HB.o];rfl
    have hbg:(4096<((q:Int)+1))=False:=by simp;omega
    go_wp2_with fail;rw[bx];go_wp2_with fail;go_roundw
    case rel=>exact⟨k+1,q+1,B',c',by omega,by omega,by go_num,rfl,lh HX.o.1,HQE,lh HX.o.2.2,lh HX.o.2.1⟩
    case measure=>simp[intOf];omega
   have HLF2:=lh (HLF.o.trans (aC hkk));have hkq:(kk==5)=false:=by rw[aw];exact hkk
   clear hkk;obtain⟨Fsx,hFS⟩:∃Fsx:List SL,Fsx=[]:=⟨_,rfl⟩;obtain⟨FR,hFR⟩:∃FR:List (List VD),FR=[]:=⟨_,rfl⟩;have HJN:=lh (show fq left csB.length (rowsA.take (k+1)) rowsB at_ bt=PR++FR.map λo=>r++o by rw[HJN0.o,hFR];congr 1;unfold jc;rw[hfx,HLF2.o,ab (λz=>by cases z.2)];rfl)
   have HFS:=lh (show Fsx.length=0/\Fsx.length=FR.length/\(∀w',Touch [] W3 w'->∀i(h1:i<Fsx.length)(h2:i<FR.length),Fsx[i].n=FR[i].length/\eu w' Fsx[i].A FR[i])/\(∀w',Touch [] W3 w'->d9 eT w' none Fsx)/\∀o∈FR,o.length<=1000 from
    ⟨by rw[hFS];rfl,by rw[hFS,hFR];rfl,λw' t i h1=>absurd h1 (by rw[hFS];simp),λw' t=>by rw[hFS];exact d9.nil _ _ _,λo ho=>by rw[hFR] at ho;simp at ho⟩)
   clear hfx hFS hFR HJN0 HFI;go_wp2_with fail;refine Hpk.o.mono ?_;rintro e w5 ⟨A5,c5,rfl,m5⟩;have M5:=lh m5;have Hn5:=lh (Hnl.o A5 c5 w5 m5.own.rd);clear m5 Hpk Hnl;go_wp2_with fail;refine Hn5.o.mono ?_;rintro e w6 ⟨rfl,t6⟩;have HT6:=lh (M5.o.t.trans0 t6);have Hk6:=lh (Hkp.o A5 c5 w6 (HTr.o.trans0 HT6.o) (d9.touch0 M5.o.own.rd t6));clear t6 Hn5;go_wp2_with fail;refine Hk6.o.mono ?_;rintro e w7 ⟨rfl,t7⟩;have HT4:=lh (HT6.o.trans0 t7);have hp0:=(HTq.o.trans0 HT4.o).cell HP16.o.1 (by simp);clear t7 Hk6;go_wp2_with (at_lookup;refine ez ?_);refine go ?_;refine fG rfl (.tmp 89) (.tmp 91) 191 false rfl _ _ _ rfl rfl (HMISS.o _ (HTq.o.trans0 HT4.o)) ?_;go_wp2_with fail;go_loopw [18,108] (λo i w4=>∃(j q2:Nat)(B:Option Addr)(c:Nat),j<=0/\q2<=9000/\i=.int .i64 j/\o=.slice B q2 c/\Ga (fl 33 0 w4 B c (PR++(FR.take j).map λo=>r++o))/\Ga (q2=q+j)/\Ga (∀b∈ed B,W3.heap.size<=b)/\Ga (Touch [] W3 w4)) (λ_ i _=>0-(intOf i).toNat)
   case atStart=>exact⟨0,q,B,c,by omega,by omega,rfl,rfl,lh (by rw[List.take_zero,dh,bN];exact HOR.o.touch0 HT4.o),lh (by omega),HBF,lh (HTq.o.trans0 HT4.o)⟩
   case round =>
   obtain⟨j,q2,B,c,hj,hq2,rfl,rfl,HOQ,HQ2,HBQ,HT5⟩:=hrel;by_cases hlj:j<0
   ·exact absurd hlj (by omega)
   obtain rfl:j=0:=by omega
   have HOE:Ga (fl 33 0 wr B c (fq left csB.length (rowsA.take (k+1)) rowsB at_ bt)):=lh (by have hfr:FR=[]:=aV (by rw[<- HFS.o.2.1];exact HFS.o.1);have:=HOQ.o;rw[HJN.o];rw[hfr] at this ⊢;exact this)
   have HQE:Ga (q2=(fq left csB.length (rowsA.take (k+1)) rowsB at_ bt).length):=lh (by rw[HJN.o,az,ay,<- HFS.o.2.1,HFS.o.1,HPR.o,HQ2.o])
   by_cases hbig:4096<q2
   ·have hbg:4096<(q2:Int):=by omega
    have HB:=lh (show 4096<(fq left csB.length rowsA rowsB at_ bt).length by have:=nj left csB.length rowsA rowsB at_ bt (k+1);have:=HQE.o;omega)
    go_wp2_with fail;rw[HPE.o];refine⟨((HT0.o.trans0 HT2.o).trans0 HTw.o).trans0 HT5.o, ?_⟩;rw[ae HB.o];rfl
   have hbg:(4096<(q2:Int))=False:=by simp;omega
   go_wp2_with fail;go_roundw
   case rel=>exact⟨k+1,q2,B,c,by omega,by omega,by go_num,rfl,HOE,HQE,HBQ,HT5⟩
   case measure=>simp[intOf];omega
  have hfx:jp rowsB bt at_ r=[]:=by rw[HFI.o,ae rfl]
  by_cases hkk:kk=5
  ·have hf1:jc left csB.length rowsB bt at_ r=[List.replicate csB.length (⟨0,0,⟨#[]⟩⟩:VD)]:=by unfold jc;rw[hfx,HLF.o,aF hkk,ae ⟨rfl,rfl⟩]
   have hkq:(kk==5)=true:=by rw[hkk];rfl
   have HJN:=lh (show fq left csB.length (rowsA.take (k+1)) rowsB at_ bt=PR++[r++List.replicate csB.length (⟨0,0,⟨#[]⟩⟩:VD)] by rw[HJN0.o,hf1];rfl)
   clear hfx hf1 hkk HJN0 HFI;go_wp2_with fail;refine Hpk.o.mono ?_;rintro e w5 ⟨A5,c5,rfl,m5⟩;have M5:=lh m5;have Hn5:=lh (Hnl.o A5 c5 w5 m5.own.rd);clear m5 Hpk Hnl;go_wp2_with fail;refine Hn5.o.mono ?_;rintro e w6 ⟨rfl,t6⟩;have HT4:=lh (M5.o.t.trans0 t6);obtain⟨w7,hw7⟩:∃w7,w7=w6:=⟨_,rfl⟩;subst hw7;clear t6 Hn5;have hp0:=(HTq.o.trans0 HT4.o).cell HP16.o.1 (by simp);have hqb:=(eL ((HT3r.o.trans0 (HTq.o.trans0 HT4.o)).blk HBP.o.2.2 (by simp))).1;have hmk:=λw'=>yd tn (by have:=HBS.o.1;have:=HLN.o.2.2.2;omega) w';obtain⟨W8,hW8⟩:∃W8,W8=w7.alloc (.cells (madeCells #[.int .i64 0,.int .i64 0,.string ⟨#[]⟩] (tn*3)) 31):=⟨_,rfl⟩;have hv8:=tP tn w7;have t8:=(Touch.refl [] w7).alloc (.cells (madeCells #[.int .i64 0,.int .i64 0,.string ⟨#[]⟩] (tn*3)) 31);rw[<- hW8] at hv8 t8;have hs8:W8.heap.size=w7.heap.size+1:=by rw[hW8,ao]
   have ta:=(Touch.refl [] W8).alloc (.cells #[.slice (some ⟨w7.heap.size,0,none⟩) tn tn] 33);have hrow:=d_ (i:=0) (v:=.slice (some ⟨w7.heap.size,0,none⟩) tn tn) (ah W8 (.cells #[.slice (some ⟨w7.heap.size,0,none⟩) tn tn] 33)) rfl;obtain⟨W9,hW9⟩:∃W9,W9=W8.alloc (.cells #[.slice (some ⟨w7.heap.size,0,none⟩) tn tn] 33):=⟨_,rfl⟩;rw[<- hW9] at ta hrow;rw[hs8] at hrow;have HT9:=lh (HTq.o.trans0 (HT4.o.trans0 (t8.trans0 ta)));have HV9:=lh (d9.touch0 hv8 ta:eu W9 (some ⟨w7.heap.size,0,none⟩) (List.replicate tn (⟨0,0,⟨#[]⟩⟩:VD)));have HT79:=lh (HT4.o.trans0 (t8.trans0 ta));have HW9:=Gb hW8 hW9;have hcc:=nN A6 (some ⟨w7.heap.size,0,none⟩) n6 tn c6 tn r (List.replicate tn (⟨0,0,⟨#[]⟩⟩:VD)) HR6.o.1 (by rw[dY]) (by have:=HR6.o.2.1;omega) (by have:=HBS.o.1;have:=HLN.o.2.2.2;omega) W9 (HR6.o.2.2 W9 HT9.o) HV9.o;obtain⟨M,hM⟩:∃M,M=(r++List.replicate tn (⟨0,0,⟨#[]⟩⟩:VD)).length:=⟨_,rfl⟩;rw[<- hM] at hcc;have Hcc:=lh hcc;have HM:=lh hM;clear hv8 t8 ta hcc hM hW8 hW9;go_wp2_with fail;rw[<- HW9.o.1,<- HW9.o.2];clear hmk hs8;refine b8 2 ?_;rw[bx];go_wp2_with fail;refine Hcc.o.mono ?_;rintro e w10 ⟨A8,c8,rfl,m8⟩;have M8:=lh m8;clear m8 Hcc;go_wp2_with (at_builtin;refine ez ?_);refine go ?_;have hBlt:=HOR.o.lt;have hs7:=HT79.o.size;refine gF rfl (.tmp 112) (.tmp 117) 25 rfl 33 gf bp 0 B q c PR HPR.o rfl (HOR.o.touch0 (HT79.o.trans0 M8.o.t)) A8 c8 (r++List.replicate tn (⟨0,0,⟨#[]⟩⟩:VD)) M8.o.own.rd
    (λb hb=>⟨λz=>by have:=hBlt b z;have:=M8.o.f b hb;omega,M8.o.own.lt b hb,aY _⟩) 1 rfl (by omega) (by rw[HM.o]) ?_
   intro B' c' w' hown ht hf;have hsz:=M8.o.t.size;have hsq:=HTq.o.size;have HX:=Gc (show fl 33 0 w' B' c' (fq left csB.length (rowsA.take (k+1)) rowsB at_ bt) by rw[HJN.o,<- HBS.o.1];exact hown) (((HTq.o.trans0 (HT79.o.trans0 M8.o.t)).alloc _).trans ht (λb hb=>.inr (HBF.o b hb))) (λb(hb:b∈ed B')=>show W3.heap.size<=b by
    rcases hf b hb with z|z
    ·exact HBF.o b z
    omega)
   have HQE:Ga (q+1=(fq left csB.length (rowsA.take (k+1)) rowsB at_ bt).length):=lh (by rw[HJN.o,az,HPR.o];rfl);clear hown ht hf hBlt hs7 hsz hsq hrow;by_cases hbig:4096<q+1
   ·have hbg:4096<((q:Int)+1):=by omega
    have HB:=lh (show 4096<(fq left csB.length rowsA rowsB at_ bt).length by have:=nj left csB.length rowsA rowsB at_ bt (k+1);have:=HQE.o;omega)
    go_wp2_with fail;rw[bx];go_wp2_with fail;rw[HPE.o];refine⟨((HT0.o.trans0 HT2.o).trans0 HTw.o).trans0 HX.o.2.1, ?_⟩;rw[ae HB.o];rfl
   have hbg:(4096<((q:Int)+1))=False:=by simp;omega
   go_wp2_with fail;rw[bx];go_wp2_with fail;go_roundw
   case rel=>exact⟨k+1,q+1,B',c',by omega,by omega,by go_num,rfl,lh HX.o.1,HQE,lh HX.o.2.2,lh HX.o.2.1⟩
   case measure=>simp[intOf];omega
  have HLF2:=lh (HLF.o.trans (aC hkk));have hkq:(kk==5)=false:=by rw[aw];exact hkk
  clear hkk;obtain⟨Fsx,hFS⟩:∃Fsx:List SL,Fsx=[]:=⟨_,rfl⟩;obtain⟨FR,hFR⟩:∃FR:List (List VD),FR=[]:=⟨_,rfl⟩;have HJN:=lh (show fq left csB.length (rowsA.take (k+1)) rowsB at_ bt=PR++FR.map λo=>r++o by rw[HJN0.o,hFR];congr 1;unfold jc;rw[hfx,HLF2.o,ab (λz=>by cases z.2)];rfl)
  have HFS:=lh (show Fsx.length=0/\Fsx.length=FR.length/\(∀w',Touch [] W3 w'->∀i(h1:i<Fsx.length)(h2:i<FR.length),Fsx[i].n=FR[i].length/\eu w' Fsx[i].A FR[i])/\(∀w',Touch [] W3 w'->d9 eT w' none Fsx)/\∀o∈FR,o.length<=1000 from
   ⟨by rw[hFS];rfl,by rw[hFS,hFR];rfl,λw' t i h1=>absurd h1 (by rw[hFS];simp),λw' t=>by rw[hFS];exact d9.nil _ _ _,λo ho=>by rw[hFR] at ho;simp at ho⟩)
  clear hfx hFS hFR HJN0 HFI;go_wp2_with fail;refine Hpk.o.mono ?_;rintro e w5 ⟨A5,c5,rfl,m5⟩;have M5:=lh m5;have Hn5:=lh (Hnl.o A5 c5 w5 m5.own.rd);clear m5 Hpk Hnl;go_wp2_with fail;refine Hn5.o.mono ?_;rintro e w6 ⟨rfl,t6⟩;have HT4:=lh (M5.o.t.trans0 t6);have hp0:=(HTq.o.trans0 HT4.o).cell HP16.o.1 (by simp);clear t6 Hn5;go_wp2_with fail;go_loopw [18,108] (λo i w4=>∃(j q2:Nat)(B:Option Addr)(c:Nat),j<=0/\q2<=9000/\i=.int .i64 j/\o=.slice B q2 c/\Ga (fl 33 0 w4 B c (PR++(FR.take j).map λo=>r++o))/\Ga (q2=q+j)/\Ga (∀b∈ed B,W3.heap.size<=b)/\Ga (Touch [] W3 w4)) (λ_ i _=>0-(intOf i).toNat)
  case atStart=>exact⟨0,q,B,c,by omega,by omega,rfl,rfl,lh (by rw[List.take_zero,dh,bN];exact HOR.o.touch0 HT4.o),lh (by omega),HBF,lh (HTq.o.trans0 HT4.o)⟩
  case round =>
  obtain⟨j,q2,B,c,hj,hq2,rfl,rfl,HOQ,HQ2,HBQ,HT5⟩:=hrel;by_cases hlj:j<0
  ·exact absurd hlj (by omega)
  obtain rfl:j=0:=by omega
  have HOE:Ga (fl 33 0 wr B c (fq left csB.length (rowsA.take (k+1)) rowsB at_ bt)):=lh (by have hfr:FR=[]:=aV (by rw[<- HFS.o.2.1];exact HFS.o.1);have:=HOQ.o;rw[HJN.o];rw[hfr] at this ⊢;exact this)
  have HQE:Ga (q2=(fq left csB.length (rowsA.take (k+1)) rowsB at_ bt).length):=lh (by rw[HJN.o,az,ay,<- HFS.o.2.1,HFS.o.1,HPR.o,HQ2.o])
  by_cases hbig:4096<q2
  ·have hbg:4096<(q2:Int):=by omega
   have HB:=lh (show 4096<(fq left csB.length rowsA rowsB at_ bt).length by have:=nj left csB.length rowsA rowsB at_ bt (k+1);have:=HQE.o;omega)
   go_wp2_with fail;rw[HPE.o];refine⟨((HT0.o.trans0 HT2.o).trans0 HTw.o).trans0 HT5.o, ?_⟩;rw[ae HB.o];rfl
  have hbg:(4096<(q2:Int))=False:=by simp;omega
  go_wp2_with fail;go_roundw
  case rel=>exact⟨k+1,q2,B,c,by omega,by omega,by go_num,rfl,HOE,HQE,HBQ,HT5⟩
  case measure=>simp[intOf];omega
 obtain rfl:k=rn:=by omega
 have hO:=HOR.o;have hQ:=HPQ.o;rw[HAS.o.2.2.1,aH] at hO hQ;have HB:=lh (show ¬4096<(fq left csB.length rowsA rowsB at_ bt).length by omega);have HOR2:=lh hO;have HPQ2:=lh hQ;clear hO hQ HOR HPQ;go_wp2_with fail;rw[HPE.o];refine⟨((HT0.o.trans0 HT2.o).trans0 HTw.o).trans0 HTq.o, ?_⟩;rw[ab HB.o];exact⟨B,c,by rw[<- HPQ2.o];rfl,HOR2.o.rowsAt⟩
end
end Go.Proofs.YtafoklilkdnepaaGreatDoor
