/- Part 18 of the texts of this proof, one behind the other. No condition beyond those that its theorems state. -/
import Derived.Test.YtafoklilkdnepaaGreatDoorRe17
set_option linter.all false
set_option maxRecDepth 40000
set_option maxHeartbeats 25600000
namespace Go.Proofs.YtafoklilkdnepaaGreatDoor
section
open Go.RowKit Go.Maps Go.ChangeMaps
theorem Dx(A:Option Addr)(c:Nat)(fv:Value)(w:World):Calls Tryz.prog 177 #[.slice A 0 c,.int .i64 0,.int .i64 0,fv] w λe w'=>e=.returned (.tuple #[])/\w'=w:=by
 go_enter Tryz.func177,Tryz.ntmps177;go_wp2_with fail;go_loop [8] (λy=>y=.int .i64 1) (λ_=>0)
 case atStart=>rfl
 case round =>obtain rfl:=hrel;go_wp2;go_end0;exact⟨rfl,rfl⟩
theorem Cb(A:Option Addr)(c:Nat)(lim:Int)(fv:Value)(w:World):Calls Tryz.prog 172 #[.slice A 0 c,.int .i64 0,.int .i64 0,.int .i64 lim,fv] w λe w'=>e=.returned (.tuple #[])/\w'=w:=by have Hi:=lh (Dx A c fv);go_enter Tryz.func172,Tryz.ntmps172;go_wp2_with fail;refine b8 1 ?_;rw[bx];go_wp2_with fail;refine(Hi.o _).mono ?_;rintro e w1 ⟨rfl,hw⟩;have HW:=lh hw;clear hw;go_wp2_with fail;refine aG (results_none rfl _ _ _) rfl ?_;exact⟨rfl,HW.o⟩
theorem qB(A:Option Addr)(c:Nat)(fv:Value)(w:World):Calls Tryz.prog 138 #[.slice A 0 c,fv] w λe w'=>e=.returned (.tuple #[])/\w'=w:=by have Hi:=lh λlim w'=>Cb A c lim fv w';have Hb:=lh λw'=>Tryz.bits_Len 0 w' (by omega) (by omega);go_enter Tryz.func138,Tryz.ntmps138;go_wp2_with fail;refine(Hb.o _).mono ?_;rintro e w1 ⟨rfl,hw⟩;have HW:=lh hw;clear hw;go_wp2_with fail;refine(Hi.o _ _).mono ?_;rintro e w2 ⟨rfl,hw⟩;have HW2:=lh hw;clear hw;go_wp2_with fail;go_end0;exact⟨rfl,by rw[HW2.o,HW.o]⟩
theorem BH(B:Option Addr)(c:Nat)(sl:List SL)(ks:List (List VD))(n:Nat)(hn:sl.length=n)(hbig:n<=1000000)(w:World)(h:fX w sl ks)(hown:ep 33 1 eT w B c sl)(hG:∀ s∈sl,∀ x∈ed s.A,x∉ed B)(hrl:∀ r∈ks,r.length<=140737000000000): Calls Tryz.prog 138 #[.slice B n c,.func (.func 81) #[] #[]] w λe w'=>e=.returned (.tuple #[])/\Touch (ed B) w w'/\∃T,s7 ks T sl/\d9 eT w' B (T.map (·.1)):=by
 subst hn;rcases hown.head with ⟨rfl,h1,h2⟩|⟨G,rfl⟩
 ·subst h1;have hk:ks=[]:=aV h.1.symm;subst hk;refine(qB none c _ w).mono ?_;rintro e w' ⟨rfl,rfl⟩;exact⟨rfl,Touch.refl _ _,[],⟨.refl _,.nil⟩,d9.nil _ _ _⟩
 by_cases h0:sl.length=0
 ·have h1:=aV h0;subst h1;have hk:ks=[]:=aV h.1.symm;subst hk;refine(qB (some ⟨G,0,none⟩) c _ w).mono ?_;rintro e w' ⟨rfl,rfl⟩;exact⟨rfl,Touch.refl _ _,[],⟨.refl _,.nil⟩,d9.nil _ _ _⟩
 refine(Bd G c sl ks sl.length rfl (by omega) hbig w h hown (λs hs hm=>hG s hs G hm (by simp[ed])) hrl).mono ?_;rintro e w' ⟨he,ht,T,h1,h2⟩;exact⟨he,by simpa [ed] using ht,T,h1,h2⟩
theorem BS{PO:Ending->World->Prop}{e:Ending}{w:World}(h:∀ W,W=w->PO e W):PO e w:=h w rfl
theorem Al(x:PC)(names:List ByteArray)(aggs:List AG)(hnn:x.names.n=names.length)(han:x.aggs.n=aggs.length)(hln:names.length<=1000)(hla:aggs.length<=1000)(s r:SL)(cs:List CD)(rows:List (List VD))(w:World) (hT:TabAt w s r cs rows) (hN:d9 gD w x.names.A names) (hA:d9 lK w x.aggs.A aggs) (hg:kQ w rows cs.length) (hc0:0<cs.length) (hc1:cs.length<=16) (hr2:rows.length<=4096) : Calls Tryz.prog 97 #[x.val,.agg #[.slice s.A s.n s.c,.slice r.A r.n r.c]] w (eX (li cs names aggs rows) w):=by
 obtain⟨PO,hPO⟩:∃PO,PO=eX (li cs names aggs rows) w:=⟨_,rfl⟩;rw[<- hPO];have HPO:=lh hPO;obtain⟨SA,sn,sc⟩:=s;obtain⟨RA,rn,rc⟩:=r;obtain⟨k0,k1,⟨A2,n2,c2'⟩,⟨⟨ck,cn,⟨cvk,cvn,cvt⟩,cop⟩,CA,cnn,cc⟩,⟨NA,nn,nc⟩,⟨EA,en,ec⟩,⟨OA,ol,oc⟩,⟨GA,gn,gc⟩,⟨BA,bn,bc⟩,count⟩:=x;dsimp only at hnn han hN hA ⊢;simp only[PC.val];obtain⟨h3,h4,h5,h6,slR,h7,h8⟩:=hT;dsimp only at h3 h4 h5 h6 h7 h8;subst hnn han;obtain⟨W,hW⟩:∃W,W=(w.alloc (.cells #[.int .i64 k0,.string k1,.slice A2 n2 c2',.int .i64 ck,.string cn,.int .i64 cvk,.int .i64 cvn,.string cvt,.string cop,.slice CA cnn cc,.slice NA names.length nc,.slice EA en ec,.slice OA ol oc,.slice GA aggs.length gc,.slice BA bn bc,.int .i64 count] 49)).alloc (.cells #[.slice SA sn sc,.slice RA rn rc] 27):=⟨_,rfl⟩;have t0:Touch [] w W:=hW ▸ ((Touch.refl [] w).alloc _).alloc _;have hbp:=hW ▸ ((Touch.refl [] (w.alloc (.cells #[.int .i64 k0,.string k1,.slice A2 n2 c2',.int .i64 ck,.string cn,.int .i64 cvk,.int .i64 cvn,.string cvt,.string cop,.slice CA cnn cc,.slice NA names.length nc,.slice EA en ec,.slice OA ol oc,.slice GA aggs.length gc,.slice BA bn bc,.int .i64 count] 49))).alloc (.cells #[.slice SA sn sc,.slice RA rn rc] 27)).blk (ah w _) (by simp);have hbt:W.heap[w.heap.size+1]?=some (.cells #[.slice SA sn sc,.slice RA rn rc] 27 (0,0)):=by
  have:=ah (w.alloc (.cells #[.int .i64 k0,.string k1,.slice A2 n2 c2',.int .i64 ck,.string cn,.int .i64 cvk,.int .i64 cvn,.string cvt,.string cop,.slice CA cnn cc,.slice NA names.length nc,.slice EA en ec,.slice OA ol oc,.slice GA aggs.length gc,.slice BA bn bc,.int .i64 count] 49)) (.cells #[.slice SA sn sc,.slice RA rn rc] 27);rw[ao] at this;exact hW ▸ this
 have q10:W.cell? ⟨w.heap.size,10,none⟩=some (.slice NA names.length nc):=d_ hbp rfl;have q13:W.cell? ⟨w.heap.size,13,none⟩=some (.slice GA aggs.length gc):=d_ hbp rfl;have HW:=lh hW;have HT0:=lh t0;have HB:=Gc hbt q10 q13;have HRS:=Ge h3 (h5.touch0 t0) h6 (h7.touch t0 (by simp)) (d9.touch0 h8 t0);have HG:=lh (hg.touch0 t0);have HAG:=lh (d9.touch0 hA t0);have Hpl:=lh (mH SA sc sn cs h3.symm (by omega) NA nc names.length names rfl (by omega) W (h5.touch0 t0) (d9.touch0 hN t0));have hmm:=@run_makeMap Tryz.prog;have HCN:=Gb hc0 hc1;clear hW t0 hbp hbt h3 h4 h5 h6 h7 h8 hN hA hg hPO hc0;go_enter Tryz.func97,Tryz.ntmps97;go_wp2_with fail;rw[<- HW.o];refine Hpl.o.mono ?_;rintro e w1 ⟨A1,m1,rfl,M1'⟩;have HT1:=lh M1'.t;obtain⟨at_,hat⟩:∃at_,at_=ea cs names:=⟨_,rfl⟩;have HAT:=lh (show at_.length=names.length/\∀i∈at_,i<cs.length from ⟨by rw[hat];unfold ea;rw[ay],by rw[hat];exact l_ HCN.o.1⟩);have HRA:=lh (hat ▸ M1'.own.rd:d9 qG w1 A1 at_);have HPE:=lh (show PO=eX (if fH (jg cs aggs rows at_) (fF (gY names.length rows at_))=0 then (0,(fF (gY names.length rows at_)).map (kA cs aggs rows at_)) else (fH (jg cs aggs rows at_) (fF (gY names.length rows at_)),[])) w by rw[HPO.o,hat];rfl);have tm:=(HT1.o.alloc (.map #[] 0));obtain⟨b0,b1,_,_⟩:=eL (tm.blk HB.o.1 (by simp));have HMP:=lh (IdxAt.made slR w1);clear M1' Hpl tm q10 q13 hat HPO;go_wp2_with fail;clear hmm b0 b1
 go_loopw [7,31] (λo i wr=>∃(k q:Nat)(B:Option Addr)(c:Nat)(es:List EN)(so:List SL),k<=rn/\i=.int .i64 k/\o=.slice B q c/\Ga ((iB rows at_ k).length=q/\q<=k)/\Ga (IdxAt slR w1.heap.size wr w1.heap.size es)/\Ga (IdxIs ju (eF rows at_) k es)/\Ga (OrdAt wr w1.heap.size B c (iB rows at_ k) es so)/\Ga (Touch [] w1 wr)) (λ_ i _=>rn-(intOf i).toNat)
 case atStart=>exact⟨0,0,none,0,[],[],by omega,rfl,rfl,lh ⟨rfl,aL _⟩,HMP,lh (IdxIs.zero _ _),lh (OrdAt.nil _ _),lh ((Touch.refl _ _).alloc _)⟩
 case round =>
 obtain⟨k,q,B,c,es,so,hk,rfl,rfl,HQ,HIX,HIS,HOR,HTw⟩:=hrel;by_cases hlt:k<rn
 ·have hkR:k<rows.length:=by rw[<- HRS.o.2.2.1];exact hlt
  have hkS:k<slR.length:=by rw[HRS.o.2.2.2.1.1];exact hkR
  have HTr:=lh (HT1.o.trans0 HTw.o);obtain⟨bd,b1,o1,rfl,hadd,hc⟩:=d9.cells (d9.touch0 HRS.o.2.2.2.2 HTr.o) 1 eC (by omega) k hkS;rw[bO] at hadd;have e0:=hc 0 _ rfl;rw[aM] at e0;have hsl:=HRS.o.2.2.2.1.2 k hkS hkR;have hgr:=HG.o _ (am hkR);have hsk:ig slR k=slR[k]:=by unfold ig;simp[hkS]
  have hrk:rows.getD k []=rows[k]:=by simp[hkR]
  have hky0:eF rows at_ k=fY (eE rows[k] at_):=by unfold eF;rw[hrk]
  have hpk0:eE (rows.getD k []) at_=eE rows[k] at_:=by rw[hrk]
  obtain⟨s,hs⟩:∃s,s=slR[k]:=⟨_,rfl⟩;obtain⟨r,hr⟩:∃r,r=rows[k]:=⟨_,rfl⟩;rw[<- hs] at e0 hsl hsk;rw[<- hr] at hsl hgr hky0 hpk0;obtain⟨A9,n9,c9⟩:=s;dsimp only at e0 hsl;obtain⟨hn9,hv9⟩:=hsl;have hpl:(eE r at_).length=names.length:=by unfold eE;rw[ay];exact HAT.o.1
  have Hpk:=lh (oT A9 c9 n9 r hn9.symm (by rw[hn9,hgr.1];have:=HCN.o.2;omega) A1 m1 names.length at_ HAT.o.1 (by omega) (by rw[hn9,hgr.1];exact HAT.o.2) wr (d9.touch0 hv9 HTr.o) (d9.touch0 HRA.o HTw.o));have hkp:=λA c w'(ht:Touch [] W w')(hv:eu w' A (eE r at_))=>rD (w:=W) (at_:=at_) hgr.1 HAT.o.2 (by rw[HAT.o.1];omega) hgr.2 A c w' ht hv;rw[HAT.o.1,<- hky0] at hkp;have hkl:(eF rows at_ k).length<=1000000:=by rw[hky0];have:=rQ (eE r at_) λv hv=>(hgr.2 v (mQ (by rw[hgr.1];exact HAT.o.2) v hv)).2;omega
  have Hkp:=lh hkp;have HSK:=lh hsk;obtain⟨K,hK⟩:∃K,K=eF rows at_ k:=⟨_,rfl⟩;rw[<- hK] at Hkp hkl;have HK:=lh hK;have Hpk0:=Gb hpk0 hpl;have hkn:(k:Int)<(rn:Int):=by omega
  clear hc hgr hsk hrk hky0 hs hr hn9 hv9 hpl hkp hK hpk0;by_cases hex:∃e∈es,e.key=K
  ·obtain⟨e0',hem,hek⟩:=hex;have HLD:=lh (BE HIS.o hem (hek.trans HK.o));obtain⟨l1,l2,rfl⟩:=List.append_of_mem hem;subst hek;have HHITt:=lh λw'(t:Touch [] wr w')=>(HIX.o.touch0 t).hit e0' hem (by omega) true;have HHIT:=lh λw'(t:Touch [] wr w')=>(HIX.o.touch0 t).hit e0' hem (by omega) false;clear hem;obtain⟨ek,eA,ec,eix⟩:=e0';dsimp only at HHIT HHITt Hkp HK hkl;go_wp2_with fail;refine Hpk.o.mono ?_;rintro e w5 ⟨A5,c5,rfl,m5⟩;have M5:=lh m5;have Hk5:=lh (Hkp.o A5 c5 w5 (HTr.o.trans0 m5.t) m5.own.rd);clear m5 Hpk;go_wp2_with fail;refine Hk5.o.mono ?_;rintro e w6 ⟨rfl,t6⟩;have HT6:=lh (M5.o.t.trans0 t6);have HV6:=lh (d9.touch0 M5.o.own.rd t6);have Hk6:=lh (Hkp.o A5 c5 w6 (HTr.o.trans0 HT6.o) HV6.o);clear t6 Hk5;go_wp2_with (at_lookup;refine ez ?_);refine go ?_;refine fG rfl (.tmp 39) (.tmp 41) 191 true rfl _ _ _ rfl rfl (HHITt.o _ HT6.o) ?_;go_wp2_with fail;refine Hk6.o.mono ?_;rintro e w7 ⟨rfl,t7⟩;have HT7:=lh (HT6.o.trans0 t7);have Hk7:=lh (Hkp.o A5 c5 w7 (HTr.o.trans0 HT7.o) (d9.touch0 HV6.o t7));clear t7 Hk6;go_wp2_with fail;refine Hk7.o.mono ?_;rintro e w8 ⟨rfl,t8⟩;have HT8:=lh (HT7.o.trans0 t8);clear t8 Hk7;go_wp2_with (at_lookup;refine ez ?_);refine go ?_;refine fG rfl (.tmp 54) (.tmp 56) 191 false rfl _ _ _ rfl rfl (HHIT.o _ HT8.o) ?_;go_wp2_with (at_builtin;refine ez ?_);refine go ?_;have ta:=(Touch.refl [] w8).alloc (.cells #[.slice A9 n9 c9] 33);have hix8:=(HIX.o.touch0 HT8.o).touch0 ta;have hor8:=(HOR.o.touch0 HT8.o).touch0 ta
   have hmem0:(⟨ek,eA,ec,eix⟩:EN)∈l1++⟨ek,eA,ec,eix⟩:: l2:=by simp
   have hxl:eix.length<=4096:=by have:=HIS.o.ix _ hmem0;dsimp only at this;rw[this];unfold iG;refine bm (bP _ _) ?_;rw[cH];omega
   refine eb (enc:=eT) rfl (.tmp 57) (.tmp 59) 25 rfl 33 _ 1 24 gf bp rfl (by omega) eC ia eA eix.length ec (eix.map (ig slR)) (by rw[ay]) rfl (hix8.own _ hmem0)
    (some ⟨w8.heap.size,0,none⟩) 1 1 [⟨A9,n9,c9⟩] rfl rfl (d9.one (enc:=eT) w8 33 ⟨A9,n9,c9⟩ _ rfl) (by omega) (by omega) ?_
   intro A' c' w' hown ht hf;have hsz8:w1.heap.size<=w8.heap.size:=(HTw.o.trans0 HT8.o).size;rw[<- HSK.o,show (eix.map (ig slR))++[ig slR k]=(eix++[k]).map (ig slR) by rw[aT];rfl] at hown;obtain⟨w'',hrun,hix2,t2⟩:=hix8.put_old (by dsimp only;omega) k A' c' hown ht (λa ha=>by
    rcases hf a ha with q|q
    ·exact .inl q
    exact .inr (by rw[q];exact aL _)) (by rw[ao];omega)
   have hor2:=hor8.turn (es':=l1++⟨ek,A',c',eix++[k]⟩:: l2) ht t2 (λx hx=>⟨_,hmem0,hx⟩) (λe he x hx=>by
    rcases aZ.1 he with q|q
    ·exact .inl ⟨e,by simp[q],hx⟩
    rcases aR.1 q with rfl | q
    ·rcases hf x hx with z | z
     ·exact .inl ⟨_,hmem0,z⟩
     exact .inr (by rw[z];exact aL _)
    exact .inl ⟨e,by simp[q],hx⟩)
   have Hrun:=lh hrun;have HX:=Gd hix2 ((HTw.o.trans0 HT8.o).trans0 ta |>.trans ht (λb hb=>.inr ((HIX.o.low _ hmem0 b hb).1))) t2 hor2;clear hrun hix2 t2 hown ht hf ta hix8 hmem0 hsz8 hor2 hor8;go_wp2_with (at_mapUpdate;refine ez ?_);refine go ?_;refine jb rfl (.tmp 51) (.tmp 53) (.tmp 60) 191 rfl _ _ _ rfl rfl rfl Hrun.o ?_;go_wp2_with fail;go_roundw
   case rel =>
    have ho:iB rows at_ (k+1)=iB rows at_ k:=by unfold iB;rw[HLD.o]
    exact⟨k+1,q,B,c,_,so,by omega,by go_num,rfl,lh ⟨by rw[ho];exact HQ.o.1,by have:=HQ.o.2;omega⟩,lh HX.o.1,lh (HIS.o.put_old rfl HK.o A' c'),lh (by rw[ho];exact HX.o.2.2.2),lh (HX.o.2.1.trans HX.o.2.2.1 (λb hb=>.inr (by simp at hb;omega)))⟩
   case measure=>simp[intOf];omega
  have hno:∀e∈es,e.key≠K:=λe he h=>hex ⟨e,he,h⟩;have HLD:=lh (Bi HIS.o (HK.o ▸ hno));have HMISSt:=lh λw'(t:Touch [] wr w')=>(HIX.o.touch0 t).miss K (by omega) hno true;have HNO:=lh hno;clear hex hno;go_wp2_with fail;refine Hpk.o.mono ?_;rintro e w5 ⟨A5,c5,rfl,m5⟩;have M5:=lh m5;have Hk5:=lh (Hkp.o A5 c5 w5 (HTr.o.trans0 m5.t) m5.own.rd);clear m5 Hpk;go_wp2_with fail;refine Hk5.o.mono ?_;rintro e w6 ⟨rfl,t6⟩;have HT6:=lh (M5.o.t.trans0 t6);have HV6:=lh (M5.o.own.touch0 t6);clear t6 Hk5;go_wp2_with (at_lookup;refine ez ?_);refine go ?_;refine fG rfl (.tmp 39) (.tmp 41) 191 true rfl _ _ _ rfl rfl (HMISSt.o _ HT6.o) ?_;go_wp2_with (at_builtin;refine ez ?_);refine go ?_;have ta:=(Touch.refl [] w6).alloc (.cells #[.slice A5 names.length c5] 33);have hix6:=(HIX.o.touch0 HT6.o).touch0 ta;have hor6:=(HOR.o.touch0 HT6.o).touch0 ta;refine eb (enc:=eT) rfl (.tmp 47) (.tmp 49) 25 rfl 33 _ 1 24 gf bp rfl (by omega) eC ia B q c so (by rw[HOR.o.sls.1,HQ.o.1]) rfl hor6.own
   (some ⟨w6.heap.size,0,none⟩) 1 1 [⟨A5,names.length,c5⟩] rfl rfl (d9.one (enc:=eT) w6 33 ⟨A5,names.length,c5⟩ _ rfl) (by have:=HQ.o.2;omega) (by have:=HQ.o.2;omega) ?_
  intro B2 d2 w7 hown7 ht7 hf7;have hbr:w1.heap.size<wr.heap.size:=HIX.o.mp.lt;have hor7:=hor6.snoc ⟨A5,names.length,c5⟩ (eE r at_) Hpk0.o.2.symm (d9.touch0 HV6.o.rd ta) (λx hx=>by
   have h1:=M5.o.f x hx;refine⟨by omega,(HV6.o.touch0 ta).lt x hx,λhm=> ?_,λe he hm=> ?_⟩
   ·have:=HOR.o.own.lt x hm;omega
   ·have:=(HIX.o.own e he).lt x hm;omega) (λe he x hx=>(hix6.own e he).lt x hx) (by rw[ao];have:=HT6.o.size;omega) hown7 ht7 (λx hx=>by
   rcases hf7 x hx with q|q
   ·exact .inl q
   exact .inr (by rw[q];exact aL _))
  have hix7:=hix6.touch ht7 (λhm=>by have:=(HOR.o.b0 _ hm).1;omega) (λe he a ha hm=>(HOR.o.b0 a hm).2 e he ha);have HT7:=lh ((HTw.o.trans0 (HT6.o.trans0 ta)).trans ht7 (λb hb=>.inr (by have:=(HOR.o.b0 b hb).1;omega)));have HV7:=lh (d9.touch (d9.touch0 HV6.o.rd ta) ht7 (λx hx hm=>by have:=M5.o.f x hx;have:=HOR.o.own.lt x hm;omega));have HOX:=Gb hor7 hix7;have Hk7:=lh (Hkp.o A5 c5 w7 (HT1.o.trans0 HT7.o) HV7.o);clear ta hix6 hor6 hown7 ht7 hf7 hor7 hix7 HMISSt;go_wp2_with fail;refine Hk7.o.mono ?_;rintro e w8 ⟨rfl,t8⟩;have HT8:=lh t8;have Hk8:=lh (Hkp.o A5 c5 w8 (HT1.o.trans0 (HT7.o.trans0 t8)) (d9.touch0 HV7.o t8));clear t8 Hk7;go_wp2_with fail;refine Hk8.o.mono ?_;rintro e w9 ⟨rfl,t9⟩;have HT9:=lh (HT8.o.trans0 t9);have HMISS:=lh ((HOX.o.2.touch0 HT9.o).miss K (by omega) HNO.o false);clear t9 Hk8;go_wp2_with (at_lookup;refine ez ?_);refine go ?_;refine fG rfl (.tmp 54) (.tmp 56) 191 false rfl _ _ _ rfl rfl HMISS.o ?_;go_wp2_with (at_builtin;refine ez ?_);refine go ?_;have ta:=(Touch.refl [] w9).alloc (.cells #[.slice A9 n9 c9] 33);have hix8:=(HOX.o.2.touch0 HT9.o).touch0 ta;have hor8:=(HOX.o.1.touch0 HT9.o).touch0 ta;refine eb (enc:=eT) rfl (.tmp 57) (.tmp 59) 25 rfl 33 _ 1 24 gf bp rfl (by omega) eC ia none 0 0 [] rfl rfl (ep.nil _ _ _ _)
   (some ⟨w9.heap.size,0,none⟩) 1 1 [⟨A9,n9,c9⟩] rfl rfl (d9.one (enc:=eT) w9 33 ⟨A9,n9,c9⟩ _ rfl) (by omega) (by omega) ?_
  intro A' c' w' hown ht hf;have hsz8:w1.heap.size<=w9.heap.size:=(HT7.o.trans0 HT9.o).size;rw[cw,<- HSK.o] at hown;have hfn:∀a∈ed A',(w9.alloc (.cells #[.slice A9 n9 c9] 33)).heap.size<=a:=λa ha=>by
   rcases hf a ha with q|q
   ·simp[ed] at q
   rw[q];exact aL _
  obtain⟨w'',hrun,hix2,t2⟩:=hix8.put_new K (by omega) HNO.o k A' c' hown ht hfn (by rw[ao];omega);have hor2:=hor8.turn (es':=es++[⟨K,A',c',[k]⟩]) ht t2 (λx hx=>by simp[ed] at hx) (λe he x hx=>by
   rcases aZ.1 he with q|q
   ·exact .inl ⟨e,q,hx⟩
   rw[aI.1 q] at hx;exact .inr (hfn x hx))
  have Hrun:=lh hrun;have HX:=Gd hix2 (((HT7.o.trans0 HT9.o).trans0 ta).trans0 ht) t2 hor2;clear hrun hix2 t2 hown ht hf ta hix8 hsz8 hfn hor2 hor8;go_wp2_with (at_mapUpdate;refine ez ?_);refine go ?_;refine jb rfl (.tmp 51) (.tmp 53) (.tmp 60) 191 rfl _ _ _ rfl rfl rfl Hrun.o ?_;go_wp2_with fail;go_roundw
  case rel =>
   have ho:iB rows at_ (k+1)=iB rows at_ k++[eE r at_]:=by unfold iB;rw[HLD.o,aT,List.map_singleton,Hpk0.o.1]
   have hi:=HIS.o.put_new rfl (HK.o ▸ HNO.o) A' c';rw[<- HK.o] at hi;exact⟨k+1,q+1,B2,d2,_,_,by omega,by go_num,rfl,lh ⟨by rw[ho,az,HQ.o.1];rfl,by have:=HQ.o.2;omega⟩,lh HX.o.1,lh hi,lh (by rw[ho];exact HX.o.2.2.2),lh (HX.o.2.1.trans HX.o.2.2.1 (λb hb=>.inr (by simp at hb;omega)))⟩
  case measure=>simp[intOf];omega
 obtain rfl:k=rn:=by omega
 have hkr:k=rows.length:=HRS.o.2.2.1;have HQK:=lh (show (iB rows at_ rows.length).length=q/\q<=rows.length by rw[<- hkr];exact HQ.o);have HORK:=lh (hkr ▸ HOR.o:OrdAt wr w1.heap.size B c (iB rows at_ rows.length) es so);have HISK:=lh (hkr ▸ HIS.o:IdxIs ju (eF rows at_) rows.length es);have p10:=(HT1.o.trans0 HTw.o).cell HB.o.2.1 (by simp);obtain⟨wa,hwa⟩:∃wa,wa=wr:=⟨_,rfl⟩;subst hwa;have HBLT:=lh (show w1.heap.size<wa.heap.size from HIX.o.mp.lt);obtain⟨bz,hbz⟩:∃bz,bz=decide (names.length=0/\q=0):=⟨_,rfl⟩;have HBZ:=lh hbz;clear HQ HOR HIS hkr HMP hlt hbz;go_upto_region 13 with fail;go_cut [70] (λc wx=>c=.bool bz/\wx=wa)
 case first =>
  by_cases h1:names.length=0
  ·by_cases h2:q=0
   ·have HD:=lh (HBZ.o.trans (aF (aa h1 h2)));have z1:((names.length:Int)==0)=true:=by rw[h1];rfl
    have z2:((q:Int)==0)=true:=by rw[h2];rfl
    clear h1 h2;go_wp2_with fail;go_meet;exact⟨by rw[HD.o],rfl⟩
   have HD:=lh (HBZ.o.trans (aC (fun h:names.length=0/\q=0=>h2 h.2)));have z1:((names.length:Int)==0)=true:=by rw[h1];rfl
   have z2:((q:Int)==0)=false:=by rw[aw];omega
   clear h1 h2;go_wp2_with fail;go_meet;exact⟨by rw[HD.o],rfl⟩
  have HD:=lh (HBZ.o.trans (aC (fun h:names.length=0/\q=0=>h1 h.1)));have z1:((names.length:Int)==0)=false:=by rw[aw];omega
  clear h1;go_wp2_with fail;go_meet;exact⟨by rw[HD.o],rfl⟩
 case rest =>
 obtain⟨rfl,hwc⟩:=hcut;subst hwc;clear p10;go_step;go_cut [7] (λo wx=>∃(B2:Option Addr)(q2 c2:Nat)(s2:List SL),o=.slice B2 q2 c2/\Ga (s2.length=q2/\q2<=5000/\OrdAt wx w1.heap.size B2 c2 (gY names.length rows at_) es s2/\IdxAt slR w1.heap.size wx w1.heap.size es/\Touch [] w1 wx))
 case first =>
  cases bz
  ·have hz:¬(names.length=0/\q=0):=of_decide_eq_false HBZ.o.symm;have ho:gY names.length rows at_=iB rows at_ rows.length:=by unfold gY;rw[ab λh=>hz ⟨h.1,by rw[<- HQK.o.1,h.2];rfl⟩]
   have HO:=lh ho;clear hz ho;go_wp2_with fail;go_meet;exact⟨B,q,c,so,rfl,lh ⟨by rw[HORK.o.sls.1,HQK.o.1],by have:=HQK.o.2;omega,by rw[HO.o];exact HORK.o,HIX.o,HTw.o⟩⟩
  have hz:names.length=0/\q=0:=aN HBZ.o.symm;have hk0:iB rows at_ rows.length=[]:=aV (by rw[HQK.o.1];exact hz.2);have ho:gY names.length rows at_=iB rows at_ rows.length++[[]]:=by unfold gY;rw[ae ⟨hz.1,hk0⟩,hk0];rfl
  have HO:=Gb ho hz.2;clear hz ho hk0;go_wp2_with (at_builtin;refine ez ?_);refine go ?_;have ta:=(Touch.refl [] wc).alloc (.cells #[.slice none 0 0] 33);have hor6:=HORK.o.touch0 ta;have hix6:=HIX.o.touch0 ta;refine eb (enc:=eT) rfl (.tmp 71) (.tmp 72) 25 rfl 33 _ 1 24 gf bp rfl (by omega) eC ia B q c so (by rw[HORK.o.sls.1,HQK.o.1]) rfl hor6.own
   (some ⟨wc.heap.size,0,none⟩) 1 1 [⟨none,0,0⟩] rfl rfl (d9.one (enc:=eT) wc 33 ⟨none,0,0⟩ _ rfl) (by have:=HQK.o.2;omega) (by have:=HQK.o.2;omega) ?_
  intro B2 d2 w7 hown7 ht7 hf7;have hor7:=hor6.snoc ⟨none,0,0⟩ [] rfl (d9.nil _ _ _) (by simp[ed]) (λe he x hx=>(hix6.own e he).lt x hx) (by rw[ao];have:=HBLT.o;omega) hown7 ht7 (λx hx=>by
   rcases hf7 x hx with q|q
   ·exact .inl q
   exact .inr (by rw[q];exact aL _))
  have hix7:=hix6.touch ht7 (λhm=>by have:=(HORK.o.b0 _ hm).1;omega) (λe he a ha hm=>(HORK.o.b0 a hm).2 e he ha);have HT7:=lh ((HTw.o.trans0 ta).trans ht7 (λb hb=>.inr (by have:=(HORK.o.b0 b hb).1;omega)));have HOX:=Gb hor7 hix7;clear ta hor6 hix6 hown7 ht7 hf7 hor7 hix7;go_wp2_with fail;go_meet;exact⟨B2,q+1,d2,so++[⟨none,0,0⟩],rfl,lh ⟨by rw[az,HORK.o.sls.1,HQK.o.1];rfl,by have:=HQK.o.2;omega,by rw[HO.o.1];exact HOX.o.1,HOX.o.2,HT7.o⟩⟩
 case rest =>
 obtain⟨B2,q2,c2,s2,rfl,H2⟩:=hcut;obtain⟨w2,hw2⟩:∃w2,w2=wc:=⟨_,rfl⟩;subst hw2;obtain⟨KS,hKS⟩:∃KS,KS=gY names.length rows at_:=⟨_,rfl⟩;have HKL:=lh (show ∀K∈KS,K.length<=1000/\∀v∈K,∃r∈rows,v∈r from λK hK=>by rw[hKS] at hK;have:=uX (at_:=at_) (rows:=rows) (nn:=names.length) (n:=cs.length) (λr hr=>(HG.o r hr).1) HAT.o.2 hK;exact⟨by have:=HAT.o.1;omega,this.2⟩)
 rw[<- hKS] at H2 HPE;clear hKS HORK HQK HBZ HTw HIX;go_upto_region 15 with fail;go_cut [75] (λv wx=>v=.tuple #[]/\∃T,Ga (s7 KS T s2/\d9 eT wx B2 (T.map (·.1))/\Touch (ed B2) w2 wx))
 case first =>have Hso:=lh (BH B2 c2 s2 KS q2 H2.o.1 (by have:=H2.o.2.1;omega) w2 H2.o.2.2.1.sls H2.o.2.2.1.own (λs hs x hx=>(H2.o.2.2.1.s0 s hs x hx).2.2.1) (λK hK=>by have:=(HKL.o K hK).1;omega));go_wp2_with fail;refine Hso.o.mono ?_;rintro e w3 ⟨rfl,t3,T,h1,h2⟩;have H3:=Gc h1 h2 t3;clear h1 h2 t3;go_wp2_with fail;go_meet;exact⟨rfl,T,H3⟩
 case rest =>
 obtain⟨rfl,T,H3⟩:=hcut;obtain⟨w3,hw3⟩:∃w3,w3=wc:=⟨_,rfl⟩;subst hw3;have HIX:=lh (H2.o.2.2.2.1.touch H3.o.2.2 (λhm=>by have:=(H2.o.2.2.1.b0 _ hm).1;omega) (λe he a ha hm=>(H2.o.2.2.1.b0 a hm).2 e he ha));have HT3:=lh (H2.o.2.2.2.2.trans H3.o.2.2 (λb hb=>.inr (by have:=(H2.o.2.2.1.b0 b hb).1;omega)));have HTM:=lh (show ∀x∈T,x.1.n=x.2.length/\eu w3 x.1.A x.2/\x.2.length<=1000/\∀v∈x.2,∃r∈rows,v∈r from λx hx=>by obtain⟨i,hi,e⟩:=aU.1 (H3.o.1.1.mem_iff.1 hx);rw[dI] at hi;rw[List.getElem_zip] at e;subst e;have h1:=H2.o.2.2.1.sls.2 i (by omega) (by omega);have h2:=HKL.o KS[i] (am _);exact⟨h1.1,d9.touch h1.2 H3.o.2.2 (λy hy=>(H2.o.2.2.1.s0 _ (am _) y hy).2.2.1),h2.1,h2.2⟩)
 have hTl:T.length=q2:=by have h1:=H3.o.1.1.length_eq;rw[dI,H2.o.2.2.1.sls.1] at h1;have:=H2.o.1;have:=H2.o.2.2.1.sls.1;omega
 have HS:=lh (show T.map (·.2)=fF KS from m_ ⟨by
  have h1:=H3.o.1.1.map (fun x:SL × List VD=>x.2)
  rwa[List.map_snd_zip (by rw[H2.o.2.2.1.sls.1];exact aL _)] at h1,H3.o.1.2⟩)
 have HRT:=lh H3.o.2.1;have HTL:=Gb hTl H2.o.2.1;clear H2 H3 HKL hTl;have HER:=lh (show PO=eX (if fH (jg cs aggs rows at_) (T.map (·.2))=0 then (0,(T.map (·.2)).map (kA cs aggs rows at_)) else (fH (jg cs aggs rows at_) (T.map (·.2)),[])) w by rw[HPE.o,HS.o]);clear HPE HS;go_wp2_with fail;go_loopw [14,78] (λo i wr=>∃(k:Nat)(B:Option Addr)(c:Nat),k<=q2/\i=.int .i64 k/\o=.slice B k c/\Ga (fl 33 w3.heap.size wr B c (((T.map (·.2)).take k).map (kA cs aggs rows at_)))/\Ga (∀b∈ed B,w3.heap.size<=b)/\Ga (∀j(_:j<k)(h2:j<(T.map (·.2)).length),jg cs aggs rows at_ (T.map (·.2))[j]=0)/\Ga (Touch [] w3 wr)) (λ_ i _=>q2-(intOf i).toNat)
 case atStart=>exact⟨0,none,0,by omega,rfl,rfl,lh (fl.nil _ _ _),lh (by simp[ed]),lh (λj h=>absurd h (by omega)),lh (Touch.refl _ _)⟩
 case round =>
 obtain⟨k,B,c,hk,rfl,rfl,HO,HF,HZ,HTw⟩:=hrel;obtain⟨wo,hwo⟩:∃wo,wo=wr:=⟨_,rfl⟩;subst hwo;by_cases hlt:k<q2
 ·have hkT:k<T.length:=by rw[HTL.o.1];exact hlt
  obtain⟨bd,b1,o1,rfl,hadd,hc⟩:=d9.cells (d9.touch0 HRT.o HTw.o) 1 eC (by omega) k (by rw[ay];exact hkT);rw[bO] at hadd;have e0:=hc 0 _ rfl;rw[aM,aW] at e0;have htm:=HTM.o _ (am hkT);have hSk:(T.map (·.2)).take (k+1)=(T.map (·.2)).take k++[T[k].2]:=by rw[au (by rw[ay];exact hkT),aW]
  have hEr:∀z:Int,jg cs aggs rows at_ T[k].2=z->z≠0->fH (jg cs aggs rows at_) (T.map (·.2))=z:=λz hz h0=>by
   have h1:k<(T.map (·.2)).length:=by rw[ay];exact hkT
   have:=jG (g:=jg cs aggs rows at_) (l:=T.map (·.2)) (j:=k) h1 (λj hj=>HZ.o j hj (by omega)) (by rw[aW,hz];exact h0);rw[this,aW,hz]
  have hZ2:jg cs aggs rows at_ T[k].2=0->∀j(_:j<k+1)(h2:j<(T.map (·.2)).length),jg cs aggs rows at_ (T.map (·.2))[j]=0:=λhz j hj h2=>by
   by_cases hjk:j<k
   ·exact HZ.o j hjk h2
   obtain rfl:j=k:=by omega
   rw[aW];exact hz
  obtain⟨x,hx⟩:∃x,x=T[k]:=⟨_,rfl⟩;rw[<- hx] at e0 htm hSk hEr hZ2;obtain⟨⟨A9,n9,c9⟩,K⟩:=x;dsimp only at e0 htm hSk hEr hZ2;obtain⟨hn9,hv9,hKl,hKm⟩:=htm;subst hn9;have HSk:=Gc hSk hEr hZ2;have HV9:=Gb hv9 hKm;have Hcl:=lh (oU A9 c9 K.length K rfl (by omega) wo (d9.touch0 hv9 HTw.o));have hkn:(k:Int)<(q2:Int):=by omega
  -- what stands under the key
  obtain⟨G,hG⟩:∃G,G=kX rows at_ (fY K):=⟨_,rfl⟩;have hKb:(fY K).length<=1000000:=by
   have:=rQ K λv hv=>by obtain⟨r,hr,hm⟩:=hKm v hv;exact((HG.o r hr).2 v hm).2
   omega
  have hGm:∀r∈G,r∈rows:=λr hr=>ri (hG ▸ hr);have hGl:G.length<=4096:=by rw[hG];exact bm (xD _ _ _) hr2
  have hlk:∃(gA:Option Addr)(gc:Nat),∀w',Touch [] w3 w'->(Instr.lookup 191 (.map (some w1.heap.size)) (.string (S (fY K))) false).run Tryz.prog w'=.ok (.slice gA G.length gc) w'/\eW w' gA G:=by
   by_cases hex:∃e∈es,e.key=fY K
   ·obtain⟨e,he,hek⟩:=hex;have hix:e.ix=iG ju (eF rows at_) rows.length (fY K):=by rw[HISK.o.ix e he,hek]
    refine⟨e.A,e.c,λw' t=> ?_⟩;have hi:=HIX.o.touch0 t;have h1:=hi.hit e he (by rw[hek];omega) false;rw[hek] at h1;have hgl:G.length=e.ix.length:=by rw[hG,hix];unfold kX;rw[ay]
    rw[hgl];refine⟨h1,e.ix.map (ig slR), ?_,(hi.own e he).rd⟩;have hp:=(HRS.o.2.2.2.1.touch (HT1.o.trans0 (HT3.o.trans0 t)) (by simp)).pick e.ix (λi hi=>by rw[hix] at hi;exact sR i hi);rw[hix] at hp;rw[hG,hix];exact hp
   have hno:∀e∈es,e.key≠fY K:=λe he h=>hex ⟨e,he,h⟩;have hg0:G=[]:=by rw[hG];unfold kX;rw[HISK.o.none_ hno];rfl
   refine⟨none,0,λw' t=> ?_⟩;have h1:=(HIX.o.touch0 t).miss (fY K) (by omega) hno false;rw[hg0];exact⟨h1,[],⟨rfl,λi h=>absurd h (by simp)⟩,d9.nil _ _ _⟩
  obtain⟨gA,gc,hlk⟩:=hlk;have HLK:=lh hlk;have HGG:=Gc hGm hGl hKb;have Hag:=lh (show oF cs aggs rows at_ K=aggs.map λa=>eY cs a G by unfold oF;rw[hG]);clear hc hx hSk hEr hZ2 hv9 hKm hlk hGm hGl hKb hG;go_wp2_with fail;refine Hcl.o.mono ?_;rintro e w4 ⟨A4,c4,rfl,m4⟩;have M4:=lh m4;have p13:=(HT1.o.trans0 (HT3.o.trans0 (HTw.o.trans0 m4.t))).cell HB.o.2.2 (by simp);clear m4 Hcl e0;go_wp2_with fail;clear p13;go_loopw [17,87] (λo j wq=>∃(i m:Nat)(A:Option Addr)(d:Nat),i<=aggs.length/\j=.int .i64 i/\o=.slice A m d/\Ga ((K++((aggs.take i).map λa=>(eY cs a G).2)).length=m/\m<=1000+i)/\Ga (Made 31 3 ff (K++((aggs.take i).map λa=>(eY cs a G).2)) A d wo wq)/\Ga (∀y(_:y<i)(h2:y<aggs.length),(eY cs aggs[y] G).1=0)) (λ_ j _=>aggs.length-(intOf j).toNat)
  case atStart=>exact⟨0,K.length,A4,c4,by omega,rfl,rfl,lh ⟨by simp,by omega⟩,lh (by simpa using M4.o),lh (λy h=>absurd h (by omega))⟩
  case round =>
  obtain⟨i,m,A,d,hi,rfl,rfl,HM,HW2,HY⟩:=hrel;obtain⟨wq,hwq⟩:∃wq,wq=wr:=⟨_,rfl⟩;subst hwq;by_cases hli:i<aggs.length
  ·have HT4:=lh (HTw.o.trans0 HW2.o.t);obtain⟨ad,gb,go_,rfl,hadd,hc⟩:=d9.cells (d9.touch0 HAG.o (HT1.o.trans0 (HT3.o.trans0 HT4.o))) 3 kq (by omega) i hli;have hlen:=au hli;obtain⟨a,ha⟩:∃a,a=aggs[i]:=⟨_,rfl⟩;rw[<- ha] at hc hlen;have hnx:K++((aggs.take (i+1)).map λa=>(eY cs a G).2)=(K++((aggs.take i).map λa=>(eY cs a G).2))++[(eY cs a G).2]:=by rw[hlen,aT,cA];rfl
   have hY2:(eY cs a G).1=0->∀y(_:y<i+1)(h2:y<aggs.length),(eY cs aggs[y] G).1=0:=λhz y hy h2=>by
    by_cases hyi:y<i
    ·exact HY.o y hyi h2
    obtain rfl:y=i:=by omega
    rw[<- ha];exact hz
   have hEa:∀z:Int,(eY cs a G).1=z->z≠0->jg cs aggs rows at_ K=z:=λz hz h0=>by
    unfold jg;rw[Hag.o];have h1:i<(aggs.map λa=>eY cs a G).length:=by rw[ay];exact hli
    have:=jG (g:=fun x:Int × VD=>x.1) (l:=aggs.map λa=>eY cs a G) (j:=i) h1 (λy hy=>by rw[aW];exact HY.o y hy (by omega)) (by rw[aW,<- ha,hz];exact h0);rw[this,aW,<- ha,hz]
   have hkc:=λw'(t:Touch [] w3 w')=>pV A9 c9 K.length K rfl w' (d9.touch0 HV9.o.1 t) (by omega) (λv hv=>by obtain⟨r,hr,hm⟩:=HV9.o.2 v hv;exact(((HG.o r hr).2 v hm).1.touch0 (HT1.o.trans0 HT3.o)).touch0 t) (λv hv=>by obtain⟨r,hr,hm⟩:=HV9.o.2 v hv;exact((HG.o r hr).2 v hm).2)
   have hoc:=λw'(t:Touch [] w3 w')=>z_ a SA sn sc cs HRS.o.1.symm (by have:=HRS.o.1;omega) gA G.length gc G rfl (by have:=HGG.o.2.1;omega) (λ_ r hr=>by
    have h1:=HG.o r (HGG.o.1 r hr);refine⟨?_,by omega,λv hv=>(h1.2 v hv).2⟩;rw[h1.1];rcases hp:ef cs a.col with _|z
    ·exact HCN.o.1
    exact eS hp) w' (HRS.o.2.1.touch0 (HT1.o.trans0 (HT3.o.trans0 t))) (HLK.o w' t).2
   obtain⟨av,hav⟩:∃av,av=eY cs a G:=⟨_,rfl⟩;rw[<- hav] at hoc hnx hY2 hEa;obtain⟨er,⟨vk,vn,vt⟩⟩:=av;obtain⟨op,col,nm⟩:=a;obtain⟨KB,hKB⟩:∃KB,KB=S (fY K):=⟨_,rfl⟩;have hlk:=λw'(t:Touch [] w3 w')=>(HLK.o w' t).1;rw[<- hKB] at hkc hlk;simp only[VD.val] at hoc;dsimp only at hnx hY2 hEa;have e0:=hc 0 _ rfl;have e1:=hc 1 _ rfl;have e2:=hc 2 _ rfl;rw[aM] at e0;have ta:=(Touch.refl [] wq).alloc (.cells #[.string op,.string col,.string nm] 79);have hba:=ah wq (.cells #[.string op,.string col,.string nm] 79);have hb4:=(HT1.o.trans0 (HT3.o.trans0 HT4.o)).blk HB.o.1 (by simp);obtain⟨W5,hW5⟩:∃W5,W5=wq.alloc (.cells #[.string op,.string col,.string nm] 79):=⟨_,rfl⟩;have HW5:=lh hW5;rw[<- hW5] at ta hba;have T5:=HT4.o.trans0 ta;have HT5:=Gc ta hba (show W5.heap.size=wq.heap.size+1 by rw[hW5,ao]);have Hky:=lh λw'(t:Touch [] W5 w')=>hkc w' (T5.trans0 t);have Hof:=lh λw'(t:Touch [] W5 w')=>hoc w' (T5.trans0 t);obtain⟨a0,a1,a2,_,_,_⟩:=eJ hba;obtain⟨s0,_,_,_⟩:=eL (ta.blk hb4 (by simp));have HK:Ga (∀w',Touch [] W5 w'->w'.cell? ⟨wq.heap.size,0,none⟩=some (.string op)/\w'.cell? ⟨wq.heap.size,1,none⟩=some (.string col)/\w'.cell? ⟨wq.heap.size,2,none⟩=some (.string nm)/\w'.cell? ⟨w.heap.size+1,0,none⟩=some (.slice SA sn sc)/\(Instr.lookup 191 (.map (some w1.heap.size)) (.string KB) false).run Tryz.prog w'=.ok (.slice gA G.length gc) w'):=lh λw' t=>⟨t.cell a0 (by simp),t.cell a1 (by simp),t.cell a2 (by simp),t.cell s0 (by simp),hlk w' (T5.trans0 t)⟩
   have HTd:=lh (Touch.refl [] W5).drew;have HTe:Ga (Touch [] W5 (W5.alloc (.cells #[.int .i64 0,.int .i64 0,.string ⟨#[]⟩] 31)).drew):=lh ((Touch.refl [] W5).alloc _).drew;have HBe:=lh ((Touch.refl [] (W5.alloc (.cells #[.int .i64 0,.int .i64 0,.string ⟨#[]⟩] 31))).drew.blk (ah W5 (.cells #[.int .i64 0,.int .i64 0,.string ⟨#[]⟩] 31)) (by simp));have HNX:=Gc hnx hY2 hEa;have HT55:=lh T5;have hii:(i:Int)<(aggs.length:Int):=by omega
   clear hc hlen ha hnx hY2 hEa hkc hoc hav hKB hlk ta hba hb4 hW5 T5 a0 a1 a2 s0;go_wp2_with fail;rw[<- HW5.o];clear e0 e1 e2;by_cases hz:er=0
   ·subst hz;go_region_held3 (λw'=>w'.cell? ⟨wq.heap.size,0,none⟩=some (.string op)/\w'.cell? ⟨wq.heap.size,1,none⟩=some (.string col)/\w'.cell? ⟨wq.heap.size,2,none⟩=some (.string nm)/\w'.cell? ⟨w.heap.size+1,0,none⟩=some (.slice SA sn sc)/\(Instr.lookup 191 (.map (some w1.heap.size)) (.string KB) false).run Tryz.prog w'=.ok (.slice gA G.length gc) w')
     (first
      |with_reducible exact HK.o _ HTd.o
      |with_reducible exact HK.o _ HTe.o
      |with_reducible exact HK.o _ T6
      |with_reducible exact HK.o _ (T6.alloc _)
      |with_reducible exact HK.o _ T7
      |with_reducible exact HK.o _ (T7.alloc _)
      |exact HK.o _ (T7.trans (gC _ _ _ _ _) (λb hb=>.inr (by simp at hb;omega))))
     (first
      |(go_at_call 136;refine(Hky.o _ HTe.o).mono ?_;rintro e w6 ⟨rfl,t6⟩;have h6:Touch [] (W5.alloc (.cells #[.int .i64 0,.int .i64 0,.string ⟨#[]⟩] 31)).drew w6:=(by with_reducible exact t6);have hbv6:=h6.blk HBe.o (by simp);have T6:Touch [] W5 w6:=HTe.o.trans0 h6;have s6:=T6.size)
      |(go_at_call 136;refine(Hky.o _ HTd.o).mono ?_;rintro e w6 ⟨rfl,t6⟩;have h6:Touch [] W5.drew w6:=(by with_reducible exact t6);have T6:Touch [] W5 w6:=HTd.o.trans0 h6;have s6:=T6.size)
      |(go_at_call 139;refine(Hof.o _ (T6.alloc _)).mono ?_;rintro e w7 ⟨rfl,t7⟩;have h7:Touch [] (w6.alloc (.cells #[.int .i64 0,.int .i64 0,.string ⟨#[]⟩] 31)) w7:=(by with_reducible exact t7);have T7:Touch [] W5 w7:=(T6.alloc _).trans0 h7;have hbv:=h7.blk (ah w6 (.cells #[.int .i64 0,.int .i64 0,.string ⟨#[]⟩] 31)) (by simp);obtain⟨z0,z1,z2,y0,y1,y2⟩:=eJ hbv)
      |(go_at_call 139;refine(Hof.o _ T6).mono ?_;rintro e w7 ⟨rfl,t7⟩;have h7:Touch [] w6 w7:=(by with_reducible exact t7);have T7:Touch [] W5 w7:=T6.trans0 h7;have hbv:=h7.blk hbv6 (by simp);obtain⟨z0,z1,z2,y0,y1,y2⟩:=eJ hbv)
      |(go_at_call 139;refine(Hof.o _ T6).mono ?_;rintro e w7 ⟨rfl,t7⟩;have h7:Touch [] w6 w7:=(by with_reducible exact t7);have T7:Touch [] W5 w7:=T6.trans0 h7))
    all_goals (go_wp2_with (at_builtin;refine ez ?_))
    all_goals
    refine go ?_;refine qH ?_;intro W8 hW8;have T8:Touch [] W5 W8:=by
     rw[hW8];first
      |with_reducible exact(T7.alloc _).alloc _
      |exact(T7.trans (gC _ _ _ _ _) (λb hb=>.inr (by simp at hb;omega))).alloc _
    have hrd:∀g,g+1=W8.heap.size->d9 ff W8 (some ⟨g,0,none⟩) [⟨vk,vn,vt⟩]:=by
     obtain⟨X,hX⟩:∃X:World,W8=X.alloc (.cells #[.int .i64 vk,.int .i64 vn,.string vt] 31):=⟨_,hW8⟩;intro g hg;rw[hX] at hg ⊢;rw[ao] at hg;obtain rfl:g=X.heap.size:=by omega
     exact d9.one (enc:=ff) X 31 ⟨vk,vn,vt⟩ _ rfl
    have hMb:=HM.o.2;refine eb (enc:=ff) rfl (.tmp 105) (.tmp 107) 33 rfl 31 _ 3 32 jI cj rfl (by omega) eO f8 A m d _ HM.o.1 rfl (HW2.o.own.touch0 (HT5.o.1.trans0 T8))
     _ 1 _ [⟨vk,vn,vt⟩] rfl rfl (hrd _ (by rw[hW8];simp)) (by omega) (by omega) ?_
    intro A8 c8 w9 hown ht hf;have HX:=lh ((HW2.o.touch0 (HT5.o.1.trans0 T8)).step hown ht hf);clear hown ht hf hrd T8 hW8;go_wp2_with fail;go_roundw
    case rel=>exact⟨i+1,m+1,A8,c8,by omega,by go_num,rfl,lh ⟨by rw[HNX.o.1,az,HM.o.1];rfl,by omega⟩,lh (by rw[HNX.o.1];exact HX.o),lh (HNX.o.2.1 (by trivial))⟩
    case measure=>simp[intOf];omega
   have hq1:(er==0)=false:=by rw[aw];exact hz
   have hq2:(er != 0)=true:=by rw[bne,hq1];rfl
   have HFN:=lh (show ∀w',Touch [] W5 w'->PO (.returned (.tuple #[.slice none 0 0,.int .i64 er])) w' from λw' t=>by rw[HER.o,HSk.o.2.1 er (HNX.o.2.2 er rfl hz) hz,ab hz];exact⟨⟨none,0,0⟩,rfl,rfl,⟨[],⟨rfl,λi h=>absurd h (by simp)⟩,d9.nil _ _ _⟩,HT0.o.trans0 (HT1.o.trans0 (HT3.o.trans0 (HT55.o.trans0 t)))⟩)
   clear hz;go_region_held3 (λw'=>w'.cell? ⟨wq.heap.size,0,none⟩=some (.string op)/\w'.cell? ⟨wq.heap.size,1,none⟩=some (.string col)/\w'.cell? ⟨wq.heap.size,2,none⟩=some (.string nm)/\w'.cell? ⟨w.heap.size+1,0,none⟩=some (.slice SA sn sc)/\(Instr.lookup 191 (.map (some w1.heap.size)) (.string KB) false).run Tryz.prog w'=.ok (.slice gA G.length gc) w')
    (first
     |with_reducible exact HK.o _ HTd.o
     |with_reducible exact HK.o _ HTe.o
     |with_reducible exact HK.o _ T6
     |with_reducible exact HK.o _ (T6.alloc _)
     |with_reducible exact HK.o _ T7
     |with_reducible exact HK.o _ (T7.alloc _)
     |exact HK.o _ (T7.trans (gC _ _ _ _ _) (λb hb=>.inr (by simp at hb;omega))))
    (first
     |(go_at_call 136;refine(Hky.o _ HTe.o).mono ?_;rintro e w6 ⟨rfl,t6⟩;have h6:Touch [] (W5.alloc (.cells #[.int .i64 0,.int .i64 0,.string ⟨#[]⟩] 31)).drew w6:=(by with_reducible exact t6);have hbv6:=h6.blk HBe.o (by simp);have T6:Touch [] W5 w6:=HTe.o.trans0 h6;have s6:=T6.size)
     |(go_at_call 136;refine(Hky.o _ HTd.o).mono ?_;rintro e w6 ⟨rfl,t6⟩;have h6:Touch [] W5.drew w6:=(by with_reducible exact t6);have T6:Touch [] W5 w6:=HTd.o.trans0 h6;have s6:=T6.size)
     |(go_at_call 139;refine(Hof.o _ (T6.alloc _)).mono ?_;rintro e w7 ⟨rfl,t7⟩;have h7:Touch [] (w6.alloc (.cells #[.int .i64 0,.int .i64 0,.string ⟨#[]⟩] 31)) w7:=(by with_reducible exact t7);have T7:Touch [] W5 w7:=(T6.alloc _).trans0 h7;have hbv:=h7.blk (ah w6 (.cells #[.int .i64 0,.int .i64 0,.string ⟨#[]⟩] 31)) (by simp);obtain⟨z0,z1,z2,y0,y1,y2⟩:=eJ hbv)
     |(go_at_call 139;refine(Hof.o _ T6).mono ?_;rintro e w7 ⟨rfl,t7⟩;have h7:Touch [] w6 w7:=(by with_reducible exact t7);have T7:Touch [] W5 w7:=T6.trans0 h7;have hbv:=h7.blk hbv6 (by simp);obtain⟨z0,z1,z2,y0,y1,y2⟩:=eJ hbv)
     |(go_at_call 139;refine(Hof.o _ T6).mono ?_;rintro e w7 ⟨rfl,t7⟩;have h7:Touch [] w6 w7:=(by with_reducible exact t7);have T7:Touch [] W5 w7:=T6.trans0 h7))
   all_goals go_wp2_with fail
   all_goals
   refine BS ?_;intro W9 hW9;have T9:Touch [] W5 W9:=by
    rw[hW9];first
     |with_reducible exact T7.alloc _
     |exact T7.trans (gC _ _ _ _ _) (λb hb=>.inr (by simp at hb;omega))
   exact HFN.o _ T9
  obtain rfl:i=aggs.length:=by omega
  obtain rfl:m=(K++((aggs.take aggs.length).map λa=>(eY cs a G).2)).length:=HM.o.1.symm;have hrow:K++((aggs.take aggs.length).map λa=>(eY cs a G).2)=kA cs aggs rows at_ K:=by unfold kA;rw[Hag.o,aH,cC];rfl
  have her0:jg cs aggs rows at_ K=0:=by unfold jg;rw[Hag.o];refine iI λv hv=> ?_;obtain⟨a,ha,rfl⟩:=aJ.1 hv;obtain⟨y,hy,rfl⟩:=aU.1 ha;exact HY.o y hy hy
  have hmb:=HM.o.2;rw[hrow] at HW2 hmb ⊢;obtain⟨R,hR⟩:∃R,R=kA cs aggs rows at_ K:=⟨_,rfl⟩;rw[<- hR] at HW2 hmb ⊢;have hSk:=HSk.o.1;have hZ3:=HSk.o.2.2 her0;have hlB:=HO.o.lt;have hso:=HTw.o.size;have hlk:(((T.map (·.2)).take k).map (kA cs aggs rows at_)).length=k:=by rw[ay,aO,ay];omega
  have HX:=Gd hSk hZ3 hR hlk;have hq2b:=HTL.o.2;clear hrow her0 hSk hZ3 hR hlk;go_wp2_with (at_builtin;refine ez ?_);refine go ?_;refine gF rfl (.tmp 110) (.tmp 112) 25 rfl 33 gf bp w3.heap.size B k c _ HX.o.2.2.2 rfl (HO.o.touch0 HW2.o.t) A d R HW2.o.own.rd
   (λb hb=>⟨λhm=>by have:=hlB b hm;have:=HW2.o.f b hb;omega,HW2.o.own.lt b hb,by have:=HW2.o.f b hb;omega⟩) 1 rfl (by omega) rfl ?_
  intro B8 c8 w8 hown2 ht2 hf2;have hs2:=HW2.o.t.size;have HZZ:=Gc hown2 ((HTw.o.trans0 HW2.o.t).alloc _ |>.trans ht2 (λb hb=>.inr (HF.o b hb))) (λb(hb:b∈ed B8)=>show w3.heap.size<=b by
   rcases hf2 b hb with q|q
   ·exact HF.o b q
   omega)
  clear hown2 ht2 hf2 hlB hso hs2;go_wp2_with fail;go_roundw
  case rel=>exact⟨k+1,B8,c8,by omega,by go_num,rfl,lh (by rw[HX.o.1,aT,List.map_singleton,<- HX.o.2.2.1];exact HZZ.o.1),lh HZZ.o.2.2,lh HX.o.2.1,lh HZZ.o.2.1⟩
  case measure=>simp[intOf];omega
 obtain rfl:k=q2:=by omega
 have hlT:(T.map (·.2)).length=k:=by rw[ay];exact HTL.o.1
 have hO:=HO.o;rw[show (T.map (·.2)).take k=T.map (·.2) by rw[<- hlT,aH]] at hO;have hz:fH (jg cs aggs rows at_) (T.map (·.2))=0:=iI λv hv=>by obtain⟨j,hj,rfl⟩:=aU.1 hv;exact HZ.o j (by omega) hj
 have HFN:=lh (show PO (.returned (.tuple #[.slice B k c,.int .i64 0])) wo by rw[HER.o,hz,ae rfl];exact⟨⟨B,k,c⟩,rfl,by rw[ay,hlT],hO.rowsAt,HT0.o.trans0 (HT1.o.trans0 (HT3.o.trans0 HTw.o))⟩)
 clear hlT hO hz;go_wp2_with fail;exact HFN.o
end
section
open Go.RowKit
theorem yD{m:Nat}(x:PC)(hk0:x.kind=3)(es:List (TX m))(cs:List CD)(rows:List (List VD))(w:World)(hen:x.exprs.n=es.length)(hle:es.length<=1000000)(hex:ki iX jf m w x.exprs.A es)(hok:∀ c∈cs,c.Ok)(hl1:cs.length<=1000000)(hl2:rows.length<=1000000)(hrk:fe rows) (hs:∀e∈es,fj m e<=1000000) (hall:∀e∈es,gj (λq=>q.v.text.size<=140737000000000) m e):lS w x [(cs,rows)] (ja cs es rows):=by
 intro w' L lc tl t hs' hL;obtain⟨hs1,hs2⟩:=hs';match tl,hs1 with
 | [t1],_=>exact At x hk0 _ L lc t1 w' hL (λw2 t2=>Ci x es t1.1 t1.2 cs rows w2 hen hle (hex.touch0 (t.trans0 t2)) ((hs2 0 (by simp) (by simp)).touch0 t2) hok hl1 hl2 hrk hs hall)
theorem xz(x:PC)(hk0:x.kind=6)(names:List ByteArray)(aggs:List AG)(hnn:x.names.n=names.length)(han:x.aggs.n=aggs.length)(hln:names.length<=1000)(hla:aggs.length<=1000)(cs:List CD)(rows:List (List VD))(w:World) (hN:d9 gD w x.names.A names) (hA:d9 lK w x.aggs.A aggs) (hg:kQ w rows cs.length) (hc0:0<cs.length) (hc1:cs.length<=16) (hr2:rows.length<=4096):lS w x [(cs,rows)] (li cs names aggs rows):=by
 intro w' L lc tl t hs' hL;obtain⟨hs1,hs2⟩:=hs';match tl,hs1 with
 | [t1],_=>exact yE x hk0 _ L lc t1 w' hL (λw2 t2=>Al x names aggs hnn han hln hla t1.1 t1.2 cs rows w2 ((hs2 0 (by simp) (by simp)).touch0 t2) (d9.touch0 hN (t.trans0 t2)) (d9.touch0 hA (t.trans0 t2)) (hg.touch0 (t.trans0 t2)) hc0 hc1 hr2)
end
end Go.Proofs.YtafoklilkdnepaaGreatDoor
