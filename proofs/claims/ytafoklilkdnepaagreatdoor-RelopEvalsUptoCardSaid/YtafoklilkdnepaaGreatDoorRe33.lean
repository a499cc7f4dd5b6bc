/- Part 33 of the texts of this proof, one behind the other. No condition beyond those that its theorems state. -/
import Derived.Test.YtafoklilkdnepaaGreatDoorRe32
set_option linter.all false
set_option maxRecDepth 40000
set_option maxHeartbeats 25600000
namespace Go.Proofs.YtafoklilkdnepaaGreatDoor
section
open Go.RowKit
theorem ox{w W:World}{c1 c2:Array Value}{t1 t2:TypeId}(hW:W=(w.alloc (.cells c1 t1)).alloc (.cells c2 t2)):Touch [] w W/\W.heap[w.heap.size]?=some (.cells c1 t1 (0,0))/\W.heap[w.heap.size+1]?=some (.cells c2 t2 (0,0))/\W.heap.size=w.heap.size+2:=by subst hW;have h1:=ah (w.alloc (.cells c1 t1)) (.cells c2 t2);rw[ao] at h1;exact⟨((Touch.refl [] w).alloc _).alloc _,((Touch.refl [] (w.alloc (.cells c1 t1))).alloc (.cells c2 t2)).blk (ah w _) (by simp),h1,by simp⟩
def s8(at_:List Nat)(p:List VD)(g:List (List VD)):Bool:=match g with
 |q:: _=>kK at_ q p
 | []=>false
def pB(at_:List Nat)(p:List VD)(g:List (List VD)):List (List VD):=if s8 at_ p g=true then g++[p] else g
def qr(at_:List Nat)(G:List (List (List VD)))(p:List VD):List (List (List VD)):=if G.any (s8 at_ p)=true then G.map (pB at_ p) else G.map (pB at_ p)++[[p]]
def nK(at_:List Nat)(rows:List (List VD)):List (List (List VD)):=rows.foldl (qr at_) []
theorem xW(at_:List Nat)(p:RP)(g:List RP):s8 at_ p.2 (g.map (·.2))=rT at_ p g:=by cases g<;>rfl
theorem E5(at_:List Nat)(p:RP)(g:List RP):(ko at_ p g).map (·.2)=pB at_ p.2 (g.map (·.2)):=by
 unfold ko pB;rw[xW];split
 ·rw[aT];rfl
 rfl
theorem DJ(at_:List Nat)(G:List (List RP))(p:RP):(lP at_ G p).map (·.map (·.2))=qr at_ (G.map (·.map (·.2))) p.2:=by
 have h1:(G.map (·.map (·.2))).any (s8 at_ p.2)=G.any (rT at_ p):=by rw[List.any_map];congr 1;funext g;exact xW at_ p g
 have h2:(G.map (ko at_ p)).map (·.map (·.2))=(G.map (·.map (·.2))).map (pB at_ p.2):=by rw[cC,cC];refine List.map_congr_left λg _=> ?_;exact E5 at_ p g
 unfold lP qr;rw[h1];split
 ·exact h2
 rw[aT,h2];rfl
theorem zW(at_:List Nat)(P:List RP):(kt at_ P).map (·.map (·.2))=nK at_ (P.map (·.2)):=by
 have key:∀(P:List RP)(G:List (List RP)),(P.foldl (lP at_) G).map (·.map (·.2))=(P.map (·.2)).foldl (qr at_) (G.map (·.map (·.2))):=by
  intro P;induction P with
  |nil=>intro G;rfl
  |cons p P ih=>intro G;rw[bX,cx,bX,ih,DJ]
 exact key P []
def ly(cs:List CD)(aggs:List AG)(g:List (List VD)):Int:=fH (λa=>(eY cs a g).1) aggs
def lR(cs:List CD)(at_:List Nat)(aggs:List AG)(g:List (List VD)):List VD:=eE (g.headD []) at_++aggs.map λa=>(eY cs a g).2
def iF(cs:List CD)(names:List ByteArray)(rows:List (List VD)):List (List (List VD)):=if names.length=0/\nK (ea cs names) rows=[] then [[]] else nK (ea cs names) rows
def pe(cs:List CD)(names:List ByteArray)(aggs:List AG)(rows:List (List VD)):Int × List (List VD):=
 if fH (ly cs aggs) (iF cs names rows)=0 then (0,(iF cs names rows).map (lR cs (ea cs names) aggs)) else (fH (ly cs aggs) (iF cs names rows),[])
theorem wh(l:List VD):jV l=lN l:=by
 unfold lN;induction l with
 |nil=>rfl
 |cons a l ih=>rw[jV,ih,cx,cT]
theorem qI(P:List RP)(i:Nat):iO P i=jz i (P.map (·.2)):=by unfold iO jz;rw[cC];rfl
structure GsAt (w:World) (rows:List (List VD)) (nn:Nat) (O:Option Addr) (gs:List GP):Prop where
 rd:d9 gE w O gs
 g:∀g∈gs,RowP w g.A g.l/\(∀p∈g.l,p.2∈rows)/\g.l.length<=rows.length/\(nn≠0->g.l≠[])
theorem GsAt.touch0{w w':World}{rows:List (List VD)}{nn:Nat}{O:Option Addr}{gs:List GP}(h:GsAt w rows nn O gs)(t:Touch [] w w'):GsAt w' rows nn O gs:=⟨d9.touch0 h.rd t,λg hg=>⟨(h.g g hg).1.touch0 t,(h.g g hg).2⟩⟩
theorem GrpAt.gs{w:World}{base:Nat}{O:Option Addr}{oc nn:Nat}{gs:List GP}{at_:List Nat}{P:List RP}(h:GrpAt w base O oc gs)(hg:gs.map (·.l)=kt at_ P)(hv:∀ p∈P,pL w p):GsAt w (P.map (·.2)) nn O gs:=by have hI:=(yX at_ P P.length (aL _)).1;rw[aH,<- hg] at hI;refine⟨h.own.rd,λg hm=> ?_⟩;obtain⟨h1,h2,h3⟩:=hI g.l (aJ.2 ⟨g,hm,rfl⟩);exact⟨⟨(h.g g hm).1.rd,λp hp=>hv p (h3 p hp)⟩,λp hp=>aJ.2 ⟨p,h3 p hp,rfl⟩,by rw[ay];exact h2,λ_=>h1⟩
theorem yt(x:PC)(names:List ByteArray)(aggs:List AG)(s r:SL)(cs:List CD)(rows:List (List VD))(w:World)(hnn:x.names.n=names.length)(hgn:x.aggs.n=aggs.length)(hN:d9 gD w x.names.A names)(hG:d9 lK w x.aggs.A aggs)(hT:TabAt w s r cs rows) (hl1:cs.length<=1000000) (hl2:rows.length<=10000) (hln:names.length<=1000) (hlg:aggs.length<=1000) (hrk:fe rows) (hrl:gR rows) (hnm:∀n∈names,(ef cs n).isSome=true) (hat:∀i∈ea cs names,∀r∈rows,i<r.length) (hop:∀a∈aggs,a.op=iM\/a.op=iD\/a.op=gB\/a.op=gZ) (hcol:∀a∈aggs,a.col.toList.isEmpty=false->∃i,ef cs a.col=some i/\∀r∈rows,i<r.length) : Calls Tryz.prog 46 #[x.val,.agg #[.slice s.A s.n s.c,.slice r.A r.n r.c]] w (eX (pe cs names aggs rows) w):=by
 obtain⟨V,hV⟩:∃V,V=pe cs names aggs rows:=⟨_,rfl⟩;rw[<- hV];obtain⟨PO,hPO⟩:∃PO,PO=eX V w:=⟨_,rfl⟩;rw[<- hPO];have HV:=lh hV;have HPO:=lh hPO;have HRA:=lh hT.rws;obtain⟨tn, -,tcols,tm, -⟩:=hT;have HN:=Gc hN hnm hat;have HGG:=Gc hG hop hcol;have HC:=lh tcols;have HRK:=Gb hrk hrl;clear hV hPO tcols hrk hrl hN hnm hat hG hop hcol;obtain⟨k0,k1,⟨A2,n2,c2'⟩,⟨⟨ck,cn,⟨cvk,cvn,cvt⟩,cop⟩,CA,cnn,cc⟩,⟨NA,nn,nc⟩,⟨EA,en,ec⟩,⟨OA,ol,oc⟩,⟨GA,gn,gc⟩,⟨BA,bn,bc⟩,count⟩:=x;obtain⟨sA,sn,sc⟩:=s;obtain⟨rA,rn,rc⟩:=r;dsimp only at tn tm hnn hgn;subst tn tm hnn hgn;simp only[PC.val,XC.val] at *;obtain⟨W,hW⟩:∃W,W=(w.alloc (.cells #[.int .i64 k0,.string k1,.slice A2 n2 c2',.int .i64 ck,.string cn,.int .i64 cvk,.int .i64 cvn,.string cvt,.string cop,.slice CA cnn cc,.slice NA names.length nc,.slice EA en ec,.slice OA ol oc,.slice GA aggs.length gc,.slice BA bn bc,.int .i64 count] 49)).alloc (.cells #[.slice sA cs.length sc,.slice rA rows.length rc] 27):=⟨_,rfl⟩;obtain⟨t0,hb0,hb1,hWs⟩:=ox hW;have HW:=lh hW;have HT0:=Gd t0 hb0 hb1 hWs;obtain⟨p0,p1,p2,p3,p4,p5,p6,p7,p8,p9,p10,p11,p12,p13,p14,p15⟩:=fg hb0;clear p0 p1 p2 p3 p4 p5 p6 p7 p8 p9 p11 p12 p13 p14 p15 hW t0 hb0 hb1 hWs;go_enter Tryz.func46,Tryz.ntmps46;go_wp2_with fail;rw[<- HW.o];clear p10;go_loopw [6,25] (λv i wr=>∃(k:Nat)(A:Option Addr)(c:Nat),k<=names.length/\i=.int .i64 k/\v=.slice A k c/\Ga (Made 3 1 kH ((ea cs names).take k) A c W wr)) (λ_ i _=>names.length-(intOf i).toNat)
 case atStart=>exact⟨0,none,0,by omega,rfl,rfl,lh (Made.nil _ _ _ _)⟩
 case round =>
 obtain⟨k,A,c,hk,rfl,rfl,HM⟩:=hrel;have hpl:(ea cs names).length=names.length:=by unfold ea;rw[ay]
 by_cases hlt:k<names.length
 ·as_aux_lemma =>
  obtain⟨ad,b1,o1,rfl,hadd,hcell⟩:=d9.cells (d9.touch0 HN.o.1 (HT0.o.1.trans0 HM.o.t)) 1 (λ_=>rfl) (by omega) k hlt;have e0:=hcell 0 _ rfl;rw[aM] at e0;rw[bO] at hadd;have hs:=HN.o.2.1 _ (am hlt);have Hsn:=lh (show (ea cs names).take (k+1)=(ea cs names).take k++[(ef cs names[k]).getD 0] by rw[au (by omega)];unfold ea;rw[aW])
  obtain⟨nm,hnm⟩:∃nm,nm=names[k]:=⟨_,rfl⟩;rw[<- hnm] at e0 hs Hsn;obtain⟨i,hi⟩:=Option.isSome_iff_exists.1 hs;have hfi:=λw'(t:Touch [] W w')=>ip sA sc cs.length cs rfl nm w' (HC.o.touch0 (HT0.o.1.trans0 t)) (by omega);have hpi:eM cs nm=(i:Int):=by unfold eM;rw[hi]
  rw[hpi] at hfi;rw[hi,dO] at Hsn;have Hfi:=lh hfi;have Hlen:=lh (show ((ea cs names).take k).length=k by rw[aO];omega);have hkI:(k:Int)<(names.length:Int):=by omega
  obtain⟨y0,y1, -, -⟩:=eL (HM.o.t.blk HT0.o.2.2.1 (by simp));clear hcell hs hnm hi hfi hpi hpl;go_wp2_with fail;refine(Hfi.o _ HM.o.t).mono ?_;rintro e1 w1 ⟨rfl,t1⟩;have HM1:=lh (HM.o.touch0 t1);clear t1 e0 y0 y1;have Hrow:=lh (d9.one (enc:=kH) w1 3 i #[.int .i64 i] rfl);go_wp2_with (at_builtin;refine ez ?_);refine go ?_;refine eb (enc:=kH) rfl (.tmp 29) (.tmp 34) 97 rfl 3 _ 1 8 k9 db rfl (by omega) lj qq A k c _ Hlen.o rfl ((HM1.o.touch0 ((Touch.refl [] w1).alloc _)).own) (some ⟨w1.heap.size,0,none⟩) 1 1 [i] rfl rfl Hrow.o (by omega) (by omega) ?_;intro A3 c3 w3 hO t f;have HM3:=lh ((HM1.o.touch0 ((Touch.refl [] w1).alloc _)).step hO t f);clear hO t f;go_wp2_with fail;go_roundw
  case rel=>exact⟨k+1,A3,c3,by omega,by go_num,rfl,lh (by rw[Hsn.o];exact HM3.o)⟩
  case measure=>simp[intOf];omega
 obtain rfl:k=names.length:=by omega
 rw[<- hpl,aH] at HM;have HM:=HM;have q0:((names.length:Int)<(names.length:Int))=False:=bi (by omega);obtain⟨w1,hw1⟩:∃w1,w1=wr:=⟨_,rfl⟩;subst hw1;have TW1:=lh (HT0.o.1.trans0 HM.o.t);go_upto_region 7 with fail;clear q0;go_cut [9] (λv9 wx=>∃(O:Option Addr)(oc' n9:Nat)(gs:List GP),v9=.slice O n9 oc'/\n9=gs.length/\n9<=10000/\Ga (gs.map (λg=>g.l.map (·.2))=nK (ea cs names) rows/\(∃base,GrpAt wx base O oc' gs/\w1.heap.size<=base)/\GsAt wx rows names.length O gs/\Touch [] w1 wx))
 case first =>
  obtain⟨y0,y1, -, -⟩:=eL (HM.o.t.blk HT0.o.2.2.1 (by simp));have HRf:=lh (jw rA rc rows.length rows rfl (by omega) HRK.o.2 w1 (HRA.o.touch0 TW1.o));go_wp2_with fail;refine HRf.o.mono ?_;rintro e2 w2 ⟨B1,c1,rfl,ho,t2,hf⟩;obtain⟨P,hP,hRP⟩:=RowP.of ho.rowsAt;have hPl:P.length=rows.length:=by rw[<- hP,ay]
  have HGr:=lh (xw B1 A c1 rows.length c names.length P (ea cs names) hPl hpl (by omega) (by omega) (λp hp=>by have:=HRK.o.1 p.2 (hP ▸ aJ.2 ⟨p,hp,rfl⟩);exact this) (λi hi p hp=>HN.o.2.2 i hi _ (hP ▸ aJ.2 ⟨p,hp,rfl⟩)) w2 hRP (d9.touch0 HM.o.own.rd t2))
  have HPP:=Gd hP hRP t2 hPl;clear hP hRP hPl ho t2 hf y0 y1;go_wp2_with fail;refine HGr.o.mono ?_;rintro e3 w3 ⟨O,oc',n9,gs,rfl,hn9,hgs,hga,t3⟩;have H3:=Gd hn9 hgs hga t3;have hn9l:n9<=10000:=by have h1:=bf List.length hgs;rw[ay] at h1;have h2:=(yX (ea cs names) P P.length (aL _)).2;rw[aH] at h2;have h3:=HPP.o.2.2.2;omega
  clear hn9 hgs hga t3;go_wp2_with fail;go_meet;refine⟨O,oc',n9,gs,rfl,H3.o.1,hn9l,lh ⟨?_,⟨_,H3.o.2.2.1,HPP.o.2.2.1.size⟩, ?_,HPP.o.2.2.1.trans0 H3.o.2.2.2⟩⟩
  ·rw[<- HPP.o.1,<- zW,<- H3.o.2.1,cC];rfl
  have:=H3.o.2.2.1.gs (nn:=names.length) H3.o.2.1 (λp hp=>(HPP.o.2.1.vs p hp).touch0 H3.o.2.2.2);rw[HPP.o.1] at this;exact this
 case rest =>
 obtain⟨O,oc',n9,gs,rfl,hn9,hn9l,HR⟩:=hcut;obtain⟨w2,hw2⟩:∃w2,w2=wc:=⟨_,rfl⟩;subst hw2;go_upto_region 8 with fail;have Hn9:=lh hn9;clear hn9;go_cut [50] (λv wx=>v=.bool (decide (names.length=0/\n9=0))/\wx=w2)
 case first =>
  obtain⟨p0,p1,p2,p3,p4,p5,p6,p7,p8,p9,p10,p11,p12,p13,p14,p15⟩:=fg ((HM.o.t.trans0 HR.o.2.2.2).blk HT0.o.2.1 (by simp));clear p0 p1 p2 p3 p4 p5 p6 p7 p8 p9 p11 p12 p13 p14 p15;by_cases hz:names.length=0
  ·have hz1:((names.length:Int)==0)=true:=by rw[hz];rfl
   by_cases hg0:n9=0
   ·have hz2:((n9:Int)==0)=true:=by rw[hg0];rfl
    have Hd:=lh (show decide (names.length=0/\n9=0)=true from aF ⟨hz,hg0⟩);clear hz hg0;go_wp2_with fail;go_meet;exact⟨by rw[Hd.o],rfl⟩
   have hz2:((n9:Int)==0)=false:=by rw[aw];omega
   have Hd:=lh (show decide (names.length=0/\n9=0)=false from aC (λh=>hg0 h.2));clear hz hg0;go_wp2_with fail;go_meet;exact⟨by rw[Hd.o],rfl⟩
  have hz1:((names.length:Int)==0)=false:=by rw[aw];omega
  have Hd:=lh (show decide (names.length=0/\n9=0)=false from aC (λh=>hz h.1));clear hz;go_wp2_with fail;go_meet;exact⟨by rw[Hd.o],rfl⟩
 case rest =>
 obtain⟨rfl,hwc⟩:=hcut;obtain rfl:w2=wc:=hwc.symm;go_step;go_cut [9] (λv9 wx=>∃(O:Option Addr)(oc' n9:Nat)(gs:List GP),v9=.slice O n9 oc'/\n9=gs.length/\n9<=10001/\Ga (gs.map (λg=>g.l.map (·.2))=iF cs names rows/\GsAt wx rows names.length O gs/\Touch [] w1 wx))
 case first =>
  by_cases hz:names.length=0/\n9=0
  ·rw[aF hz];have hgs0:gs=[]:=aV (by rw[<- Hn9.o];exact hz.2);obtain⟨base,hga,hbs⟩:=HR.o.2.1;have Hal:=lh (show iF cs names rows=[[]] by unfold iF;rw[ae ⟨hz.1,by rw[<- HR.o.1,hgs0];rfl⟩]);have Hga:=Gb hga hbs;have Hgs0:=lh hgs0;have Hrow:=lh (d9.one (enc:=gE) w2 66 ⟨none,0,[]⟩ #[.slice none 0 0] rfl);have Hz:=lh hz.1;obtain⟨hz1,rfl⟩:=hz;clear hgs0 hga hz1 hbs;go_wp2_with (at_builtin;refine ez ?_);refine go ?_;refine eb (enc:=gE) rfl (.tmp 51) (.tmp 52) 134 rfl 66 _ 1 24 tZ Tryz.underlying134 rfl (by omega) ny Aq O 0 oc' gs Hn9.o.symm rfl (Hga.o.1.own.touch0 ((Touch.refl [] w2).alloc _)) (some ⟨w2.heap.size,0,none⟩) 1 1 [⟨none,0,[]⟩] rfl rfl Hrow.o (by omega) (by omega) ?_;intro O3 oc3 w3 hO t f;have H3:=Gb hO t;clear hO t f;go_wp2_with fail;go_meet;refine⟨O3,oc3,1,gs++[⟨none,0,[]⟩],rfl,by rw[Hgs0.o];rfl,by omega,lh ⟨by rw[Hgs0.o,Hal.o];rfl,⟨H3.o.1.rd,λg hg=> ?_⟩,(HR.o.2.2.2.trans0 ((Touch.refl [] w2).alloc _)).trans H3.o.2 (λb hb=>.inr (bm Hga.o.2 (Hga.o.1.fo b hb)))⟩⟩;rw[Hgs0.o] at hg;have hg:g=⟨none,0,[]⟩:=by simpa using hg
   subst hg;exact⟨⟨d9.nil _ _ _,by simp⟩,by simp,aY _,λh=>absurd Hz.o h⟩
  rw[aC hz];have Hal:=lh (show iF cs names rows=nK (ea cs names) rows by unfold iF;rw[ab];rintro⟨h0,h⟩;have h2:=HR.o.1;rw[h] at h2;have h3:=bf List.length h2;rw[ay] at h3;exact hz ⟨h0,Hn9.o.trans h3⟩)
  clear hz;go_wp2_with fail;go_meet;exact⟨O,oc',n9,gs,rfl,Hn9.o,by omega,lh ⟨HR.o.1.trans Hal.o.symm,HR.o.2.2.1,HR.o.2.2.2⟩⟩
 case rest =>
 clear HR Hn9;obtain⟨O,oc',n9,gs,rfl,hn9,hn9l,HR⟩:=hcut;obtain⟨w2,hw2⟩:∃w2,w2=wc:=⟨_,rfl⟩;subst hw2;have Hn9:=lh hn9;have Hml:=lh (show (iF cs names rows).length=n9 by rw[<- HR.o.1,ay];exact Hn9.o.symm);have TW2:=lh (TW1.o.trans0 HR.o.2.2);clear hn9;go_wp2_with fail;go_loopw [10,56] (λov iv wr=>∃(k:Nat)(B:Option Addr)(c2:Nat),k<=n9/\iv=.int .i64 k/\ov=.slice B k c2/\Ga (∀i(hi:i<k)(h2:i<(iF cs names rows).length),ly cs aggs (iF cs names rows)[i]=0)/\Ga (fl 105 w2.heap.size wr B c2 (((iF cs names rows).take k).map (lR cs (ea cs names) aggs))/\Touch [] w2 wr/\∀b∈ed B,w2.heap.size<=b)) (λ_ i _=>n9-(intOf i).toNat)
 case atStart=>exact⟨0,none,0,by omega,rfl,rfl,lh (λi h=>absurd h (by omega)),lh ⟨fl.nil _ _ _,Touch.refl _ _,by simp[ed]⟩⟩
 case round =>
 obtain⟨k,B,c2,hk,rfl,rfl,HZ,HO⟩:=hrel;by_cases hlt:k<n9
 ·have hkg:k<gs.length:=by have:=Hn9.o;omega
  have hkm:k<(iF cs names rows).length:=by have:=Hml.o;omega
  obtain⟨bg,rfl,e0⟩:=Fk (d9.touch0 HR.o.2.1.rd HO.o.2.1) k hkg;obtain⟨hrp,hmem,hlen,hne⟩:=HR.o.2.1.g _ (am hkg);have hgm:(gs[k].l).map (·.2)=(iF cs names rows)[k]:=by
   have h1:(gs.map (λg=>g.l.map (·.2)))[k]'(by rw[ay];exact hkg)=(iF cs names rows)[k]:=by simp only[HR.o.1]
   rw[aW] at h1;exact h1
  have her:=λh0=>jG (g:=ly cs aggs) hkm (λi hi=>HZ.o i hi (by omega)) h0;have htk:=au hkm;obtain⟨G,hG⟩:∃G,G=(iF cs names rows)[k]:=⟨_,rfl⟩;have HZ2:=lh (fun h0:ly cs aggs G=0=>λi(hi:i<k+1)(h2:i<(iF cs names rows).length)=>show ly cs aggs (iF cs names rows)[i]=0 by
   by_cases hik:i<k
   ·exact HZ.o i hik h2
   obtain rfl:i=k:=by omega
   rw[<- hG];exact h0)
  rw[<- hG] at hgm her htk;have Htk:=lh htk;have Her:=lh her;obtain⟨gg,hgg⟩:∃g,g=gs[k]:=⟨_,rfl⟩;rw[<- hgg] at e0 hrp hmem hlen hne hgm;obtain⟨gA,gcp,gl⟩:=gg;dsimp only at e0 hrp hmem hlen hne hgm;have HGP:=Gd hrp hmem hne hgm;obtain⟨gn,hgn⟩:∃n,n=gl.length:=⟨_,rfl⟩;rw[<- hgn] at e0 hlen;have Hgn:=lh hgn;have hgnb:gn<=10000:=by omega
  have hkI:(k:Int)<(n9:Int):=by omega
  obtain⟨wk,hwk⟩:∃wk,wk=wr:=⟨_,rfl⟩;subst hwk;have TWk:=lh (TW2.o.trans0 HO.o.2.1);have Hnb:=lh (show names.length=(ea cs names).length from hpl.symm);clear hrp hmem hlen hne hgm her htk hG hgg hgn;go_wp2_with fail;clear e0;go_loopw [13,62] (λv iv wx=>∃(j:Nat)(A':Option Addr)(c':Nat),j<=names.length/\iv=.int .i64 j/\v=.slice A' j c'/\Ga (Made 130 3 ff (eE (G.headD []) ((ea cs names).take j)) A' c' wk wx)) (λ_ i _=>names.length-(intOf i).toNat)
  case atStart=>exact⟨0,none,0,by omega,rfl,rfl,lh (Made.nil _ _ _ _)⟩
  case round =>
  obtain⟨j,A',c',hj,rfl,rfl,HMv⟩:=hrel;by_cases hltj:j<names.length
  ·as_aux_lemma =>
   obtain⟨ai,rfl,a0⟩:=rW (d9.touch0 HM.o.own.rd (HR.o.2.2.trans0 (HO.o.2.1.trans0 HMv.o.t))) j (by rw[hpl];exact hltj);have hne:=HGP.o.2.2.1 (by omega);cases gl with
   |nil=>exact absurd rfl hne
   |cons q gr =>
    obtain⟨bq,rfl,f0⟩:=ku (d9.touch0 HGP.o.1.rd (HO.o.2.1.trans0 HMv.o.t)) 0 (by simp)
    rw[tV] at f0
    have hqv:=(HGP.o.1.vs q aK).touch0 (HO.o.2.1.trans0 HMv.o.t)
    have hil:=HN.o.2.2 _ (am (show j<(ea cs names).length by rw[hpl];exact hltj)) _ (HGP.o.2.1 q aK)
    have Hhd:=lh (show G.headD []=q.2 by rw[<- HGP.o.2.2.2];rfl)
    have Hsn:=lh (show eE (G.headD []) ((ea cs names).take (j+1))=eE (G.headD []) ((ea cs names).take j)++[je q.2 ((ea cs names)[j]'(by rw[hpl];exact hltj))] by rw[au (by rw[hpl];exact hltj)];unfold eE;rw[aT,Hhd.o];rfl)
    obtain⟨i,hi⟩:∃i,i=(ea cs names)[j]'(by rw[hpl];exact hltj):=⟨_,rfl⟩
    rw[<- hi] at a0 hil Hsn
    obtain⟨⟨qA,qn,qc⟩,ql⟩:=q
    obtain rfl:qn=ql.length:=hqv.1
    dsimp only[List.getElem_cons_zero] at f0 hil Hsn
    obtain⟨aq,b1,o1,rfl,hadd1,c0,c1,c2'⟩:=hqv.2.at_ i hil
    rw[lJ hil] at Hsn
    obtain⟨v,hv⟩:∃v,v=ql[i]'hil:=⟨_,rfl⟩
    rw[<- hv] at c0 c1 c2' Hsn
    clear hv hi hqv
    obtain⟨vk,vn,vt⟩:=v
    dsimp only at c0 c1 c2' Hsn
    have hjI:(j:Int)<(names.length:Int):=by omega
    have hg0:(0:Int)<(gn:Int):=by have:=Hgn.o;rw[bK] at this;omega
    have hiI:(i:Int)<(ql.length:Int):=by omega
    have Hlen:=lh (show (eE (G.headD []) ((ea cs names).take j)).length=j by unfold eE;rw[ay,aO];omega)
    have Hrow:=lh (d9.one (enc:=ff) wr 130 ⟨vk,vn,vt⟩ #[.int .i64 vk,.int .i64 vn,.string vt] rfl)
    clear hne
    go_wp2_with (at_builtin;refine ez ?_)
    refine go ?_
    refine eb (enc:=ff) rfl (.tmp 66) (.tmp 73) 105 rfl 130 _ 3 32 gT cK rfl (by omega) eO f8 A' j c' _ Hlen.o rfl ((HMv.o.touch0 ((Touch.refl [] wr).alloc _)).own) (some ⟨wr.heap.size,0,none⟩) 1 1 [⟨vk,vn,vt⟩] rfl rfl Hrow.o (by omega) (by omega) ?_
    intro A3 c3 w3 hO t f
    have HM3:=lh ((HMv.o.touch0 ((Touch.refl [] wr).alloc _)).step hO t f)
    clear hO t f
    go_wp2_with fail
    go_roundw
    case rel=>exact⟨j+1,A3,c3,by omega,by go_num,rfl,lh (by rw[Hsn.o];exact HM3.o)⟩
    case measure=>simp[intOf];omega
  obtain rfl:j=names.length:=by omega
  rw[<- hpl,aH] at HMv;have q0:((names.length:Int)<(names.length:Int))=False:=bi (by omega);obtain⟨p0,p1,p2,p3,p4,p5,p6,p7,p8,p9,p10,p11,p12,p13,p14,p15⟩:=fg ((HM.o.t.trans0 (HR.o.2.2.trans0 (HO.o.2.1.trans0 HMv.o.t))).blk HT0.o.2.1 (by simp));clear p0 p1 p2 p3 p4 p5 p6 p7 p8 p9 p10 p11 p12 p14 p15;have HPK:=lh (show (eE (G.headD []) (ea cs names)).length=names.length by unfold eE;rw[ay];exact hpl);obtain⟨PK,hPK⟩:∃PK,PK=eE (G.headD []) (ea cs names):=⟨_,rfl⟩;rw[<- hPK] at HMv HPK;have HPK2:=lh hPK;clear hPK;go_wp2_with fail;clear p13 q0;go_loopw [13,79] (λv iv wx=>∃(j m':Nat)(A':Option Addr)(c':Nat),j<=aggs.length/\iv=.int .i64 j/\v=.slice A' m' c'/\m'=names.length+j/\Ga (∀i(hi:i<j)(h2:i<aggs.length),(eY cs aggs[i] G).1=0)/\Ga (Made 130 3 ff (PK++(aggs.take j).map λa=>(eY cs a G).2) A' c' wk wx)) (λ_ i _=>aggs.length-(intOf i).toNat)
  case atStart=>exact⟨0,names.length,A',c',by omega,rfl,rfl,by omega,lh (λi h=>absurd h (by omega)),lh (by simpa using HMv.o)⟩
  case round =>
  clear HMv;obtain⟨j,m',A',c',hj,rfl,rfl,hm',HZj,HMv⟩:=hrel;by_cases hltj:j<aggs.length
  ·have HTk:=lh (TWk.o.trans0 HMv.o.t);obtain⟨ad,b1,o1,rfl,hadd,hcell⟩:=d9.cells (d9.touch0 HGG.o.1 HTk.o) 3 kq (by omega) j hltj;have hsn:=au hltj;have hop:=HGG.o.2.1 _ (am hltj);have hcl:=HGG.o.2.2 _ (am hltj);have herj:=λh0=>jG (g:=λa=>(eY cs a G).1) hltj (λi hi=>HZj.o i hi (by omega)) h0;obtain⟨a,ha⟩:∃a,a=aggs[j]:=⟨_,rfl⟩;have HZ3:=lh (fun h0:(eY cs a G).1=0=>λi(hi:i<j+1)(h2:i<aggs.length)=>show (eY cs aggs[i] G).1=0 by
    by_cases hij:i<j
    ·exact HZj.o i hij h2
    obtain rfl:i=j:=by omega
    rw[<- ha];exact h0)
   rw[<- ha] at hcell hsn hop hcl herj;have Hmv:=lh (show PK++(aggs.take (j+1)).map (λa=>(eY cs a G).2)=(PK++(aggs.take j).map λa=>(eY cs a G).2)++[(eY cs a G).2] by rw[hsn,aT,cA];rfl);have Herj:=lh herj;obtain⟨op,col,nm⟩:=a;have f0:=hcell 0 _ rfl;have f1:=hcell 1 _ rfl;have f2:=hcell 2 _ rfl;rw[aM] at f0;dsimp only[lK] at f0 f1 f2;dsimp only at hop hcl;have Hop:=lh hop;obtain⟨X,hX⟩:∃X,X=(wr.alloc (.cells #[.string op,.string col,.string nm] 79)).alloc (.cells #[.int .i64 1,.int .i64 gn,.string ⟨#[]⟩] 130):=⟨_,rfl⟩;obtain⟨tX,hXa,hXv,hXs⟩:=ox hX;have HX:=lh hX;have HXX:=Gd tX hXa hXv hXs;have Hlen:=lh (show (PK++(aggs.take j).map λa=>(eY cs a G).2).length=m' by rw[az,ay,HPK.o,aO];omega);have hjI:(j:Int)<(aggs.length:Int):=by omega
   have hmb:m'<=3000:=by omega
   have Hm':=lh hm';have HGl:=lh (show (G.length:Int)=gn by rw[<- HGP.o.2.2.2,ay,<- Hgn.o]);clear hcell hsn hop herj ha hX tX hXa hXv hXs hm';by_cases hce:col.toList.isEmpty=true
   ·as_aux_lemma =>
    have Hag:=lh (show eY cs ⟨op,col,nm⟩ G=(0,⟨1,gn,⟨#[]⟩⟩) by unfold eY;rw[ae hce,HGl.o]);obtain⟨a0,a1,a2, -, -, -⟩:=eJ HXX.o.2.1;go_upto_region 36 with fail;rw[<- HX.o];clear f0 f1 f2;obtain⟨v0,v1,v2, -, -, -⟩:=eJ HXX.o.2.2.1;go_wp2_with (at_builtin;refine ez ?_);refine go ?_;have hrow:=d9.one (enc:=ff) (X) 130 ⟨1,gn,⟨#[]⟩⟩ #[.int .i64 1,.int .i64 (gn),.string ⟨#[]⟩] rfl;try simp only[World.size_setCell] at hrow
    refine eb (enc:=ff) rfl (.tmp 126) (.tmp 128) 105 rfl 130 _ 3 32 gT cK rfl (by omega) eO f8 A' m' c' _ Hlen.o rfl ((HMv.o.touch0 ((HXX.o.1).alloc _)).own) (some ⟨X.heap.size,0,none⟩) 1 1 [⟨1,gn,⟨#[]⟩⟩] rfl rfl hrow (by omega) (by omega) ?_;intro A3 c3 w9 hO9 t9 f9;have HM9:=lh ((HMv.o.touch0 ((HXX.o.1).alloc _)).step hO9 t9 f9);clear hO9 t9 f9 hrow;go_wp2_with fail;go_roundw
    case rel=>exact⟨j+1,m'+1,A3,c3,by omega,by go_num,rfl,by have:=Hm'.o;omega,lh (HZ3.o (by rw[Hag.o])),lh (by rw[Hmv.o,Hag.o];exact HM9.o)⟩
    case measure=>simp[intOf];omega
   have hce':col.toList.isEmpty=false:=by simpa using hce
   obtain⟨i,hi,hir⟩:=hcl hce';have hpi:eM cs col=(i:Int):=by unfold eM;rw[hi]
   have hfi:=λw'(t:Touch [] X w')=>ip sA sc cs.length cs rfl col w' (HC.o.touch0 (HTk.o.trans0 (HXX.o.1.trans0 t))) (by omega);rw[hpi] at hfi;have Hfi:=lh hfi;have Hva:=lh λw'(t:Touch [] X w')=>yQ gA gcp gn i gl Hgn.o.symm (by omega) (λp hp=>hir _ (HGP.o.2.1 p hp)) w' (HGP.o.1.touch0 (HO.o.2.1.trans0 (HMv.o.t.trans0 (HXX.o.1.trans0 t))));have Hag:=lh (show eY cs ⟨op,col,nm⟩ G=i8 op (iO gl i) by unfold eY;rw[ab hce,qI,HGP.o.2.2.2,hi];rfl)
   have HLo:=lh (show ∀v∈iO gl i,v.Ok 140737000000000 from λv hv=>by
    rw[qI,HGP.o.2.2.2] at hv;obtain⟨r,hr,rfl⟩:=oE hv;rw[<- HGP.o.2.2.2] at hr;obtain⟨p,hp,rfl⟩:=aJ.1 hr;have h1:=hir _ (HGP.o.2.1 p hp);have h2:p.2.getD i ⟨0,0,⟨#[]⟩⟩=p.2[i]:=by simp[List.getD,h1]
    rw[h2];exact(HRK.o.1 _ (HGP.o.2.1 p hp)).2 _ (am h1))
   have hLl:(iO gl i).length<=gn:=by unfold iO;refine bm (bP _ _) ?_;rw[ay,<- Hgn.o];exact aL _
   have HLl:=lh hLl;obtain⟨L,hL⟩:∃L,L=iO gl i:=⟨_,rfl⟩;rw[<- hL] at Hva Hag HLo HLl;obtain⟨a0,a1,a2, -, -, -⟩:=eJ HXX.o.2.1;obtain⟨y0,y1, -, -⟩:=eL ((HM.o.t.trans0 (HR.o.2.2.trans0 (HO.o.2.1.trans0 (HMv.o.t.trans0 HXX.o.1)))).blk HT0.o.2.2.1 (by simp));clear hce hi hir hpi hfi hcl hLl hL;go_upto_region 25 with fail;rw[<- HX.o];clear f0 f1 f2;go_wp2_with fail;refine(Hfi.o _ (Touch.refl _ _)).mono ?_;rintro e1 w4 ⟨rfl,t4⟩;have T4:=lh t4;clear t4;go_wp2_with fail;refine(Hva.o _ T4.o).mono ?_;rintro e2 w5 ⟨Bv,bc,q,rfl,hq,hmd⟩;have HL:=Gb hq.symm hmd;have T5:=lh (T4.o.trans0 hmd.t);have hqb:q<=10000:=by have:=HLl.o;omega
   have HA5:=lh (T5.o.blk HXX.o.2.1 (by simp));have HV5:=lh (T5.o.blk HXX.o.2.2.1 (by simp));have HTX:=lh (HXX.o.1.trans0 T5.o);obtain⟨a0,a1,a2, -, -, -⟩:=eJ HA5.o;obtain⟨v0,v1,v2,z0,z1,z2⟩:=eJ HV5.o;clear hq hmd hce' y0 y1;obtain⟨w6,hw6⟩:∃w6,w6=w5.setCell ⟨wr.heap.size+1,1,none⟩ (.int .i64 q):=⟨_,rfl⟩;have hV6:w6.heap[wr.heap.size+1]?=some (.cells #[.int .i64 1,.int .i64 q,.string ⟨#[]⟩] 130 (0,0)):=hw6 ▸ fD HV5.o 1 _;have t56:Touch [wr.heap.size+1] w5 w6:=hw6 ▸ (Touch.refl [wr.heap.size+1] w5).setCell (p:=⟨wr.heap.size+1,1,none⟩) (.inl (by simp)) _;have HV6:=lh hV6;have HT6:=lh (HTX.o.trans t56 (λb hb=>.inr (by simp at hb;omega)));have HA6:=lh (t56.blk HA5.o (by simp));have HL6:=lh (d9.touch HL.o.2.own.rd t56 (λb hb hm=>by have:=HL.o.2.f b hb;have:=T4.o.size;have:=HXX.o.2.2.2;simp at hm;omega));have H6:=lh hw6;clear hw6 hV6 t56;by_cases hC:op=iM
   ·as_aux_lemma =>
    have zC:(op.toList==[99,111,117,110,116])=true:=by rw[eK op [99,111,117,110,116] iM rfl];exact aF hC
    have Hag2:=lh (show eY cs ⟨op,col,nm⟩ G=(0,⟨1,q,⟨#[]⟩⟩) by rw[Hag.o];unfold i8;rw[ae hC,HL.o.1]);clear hC;go_upto_region 36 with fail;rw[<- H6.o];clear a0 a1 a2 v0 v1 v2 z0 z1 z2;obtain⟨v0,v1,v2, -, -, -⟩:=eJ HV6.o;go_wp2_with (at_builtin;refine ez ?_);refine go ?_;have hrow:=d9.one (enc:=ff) (w6) 130 ⟨1,q,⟨#[]⟩⟩ #[.int .i64 1,.int .i64 (q),.string ⟨#[]⟩] rfl;try simp only[World.size_setCell] at hrow
    refine eb (enc:=ff) rfl (.tmp 126) (.tmp 128) 105 rfl 130 _ 3 32 gT cK rfl (by omega) eO f8 A' m' c' _ Hlen.o rfl ((HMv.o.touch0 ((HT6.o).alloc _)).own) (some ⟨w6.heap.size,0,none⟩) 1 1 [⟨1,q,⟨#[]⟩⟩] rfl rfl hrow (by omega) (by omega) ?_;intro A3 c3 w9 hO9 t9 f9;have HM9:=lh ((HMv.o.touch0 ((HT6.o).alloc _)).step hO9 t9 f9);clear hO9 t9 f9 hrow;go_wp2_with fail;go_roundw
    case rel=>exact⟨j+1,m'+1,A3,c3,by omega,by go_num,rfl,by have:=Hm'.o;omega,lh (HZ3.o (by rw[Hag2.o])),lh (by rw[Hmv.o,Hag2.o];exact HM9.o)⟩
    case measure=>simp[intOf];omega
   have zC:(op.toList==[99,111,117,110,116])=false:=by rw[eK op [99,111,117,110,116] iM rfl];exact aC hC
   have HCn:=lh hC;clear hC;by_cases hq0:q=0
   ·as_aux_lemma =>
    have hqz:((q:Int)==0)=true:=by rw[hq0];rfl
    have Hag2:=lh (show eY cs ⟨op,col,nm⟩ G=(0,⟨0,0,⟨#[]⟩⟩) by rw[Hag.o];unfold i8;rw[ab HCn.o,ae (HL.o.1.trans hq0)]);clear hq0;go_upto_region 30 with fail;rw[<- H6.o];clear a0 a1 a2 v0 v1 v2 z0 z1 z2;obtain⟨v0,v1,v2,z0,z1,z2⟩:=eJ HV6.o;obtain⟨w7,hw7⟩:∃w7,w7=((w6.setCell ⟨wr.heap.size+1,0,none⟩ (.int .i64 0)).setCell ⟨wr.heap.size+1,1,none⟩ (.int .i64 0)).setCell ⟨wr.heap.size+1,2,none⟩ (.string ⟨#[]⟩):=⟨_,rfl⟩;have HV7:=lh (hw7 ▸ kj HV6.o rfl _ _ _:w7.heap[wr.heap.size+1]?=some (.cells #[.int .i64 0,.int .i64 0,.string ⟨#[]⟩] 130 (0,0)));have HT7:=lh (HT6.o.trans (hw7 ▸ gC w6 (wr.heap.size+1) _ _ _:Touch [wr.heap.size+1] w6 w7) (λb hb=>.inr (by simp at hb;omega)));have H7:=lh hw7;clear hw7;go_upto_region 36 with fail;rw[<- H7.o];clear v0 v1 v2 z0 z1 z2;obtain⟨v0,v1,v2, -, -, -⟩:=eJ HV7.o;go_wp2_with (at_builtin;refine ez ?_);refine go ?_;have hrow:=d9.one (enc:=ff) (w7) 130 ⟨0,0,⟨#[]⟩⟩ #[.int .i64 0,.int .i64 (0),.string ⟨#[]⟩] rfl;try simp only[World.size_setCell] at hrow
    refine eb (enc:=ff) rfl (.tmp 126) (.tmp 128) 105 rfl 130 _ 3 32 gT cK rfl (by omega) eO f8 A' m' c' _ Hlen.o rfl ((HMv.o.touch0 ((HT7.o).alloc _)).own) (some ⟨w7.heap.size,0,none⟩) 1 1 [⟨0,0,⟨#[]⟩⟩] rfl rfl hrow (by omega) (by omega) ?_;intro A3 c3 w9 hO9 t9 f9;have HM9:=lh ((HMv.o.touch0 ((HT7.o).alloc _)).step hO9 t9 f9);clear hO9 t9 f9 hrow;go_wp2_with fail;go_roundw
    case rel=>exact⟨j+1,m'+1,A3,c3,by omega,by go_num,rfl,by have:=Hm'.o;omega,lh (HZ3.o (by rw[Hag2.o])),lh (by rw[Hmv.o,Hag2.o];exact HM9.o)⟩
    case measure=>simp[intOf];omega
   have hqz:((q:Int)==0)=false:=by rw[aw];omega
   by_cases hS:op=iD
   ·have zS:(op.toList==[115,117,109])=true:=by rw[eK op [115,117,109] iD rfl];exact aF hS
    have Hag2:=lh (show eY cs ⟨op,col,nm⟩ G=j9 L by rw[Hag.o];unfold i8;rw[ab HCn.o,ab (by rw[HL.o.1];exact hq0),ae hS]);have Hsm:=lh (CO Bv bc q L HL.o.1 (by omega) (λv hv=>(HLo.o v hv).n) w6 HL6.o);clear hS hq0;by_cases hin : -9223372036854775808<=lN L/\lN L<=9223372036854775807
    ·as_aux_lemma =>
     rw[show j9 L=(0,⟨1,lN L,⟨#[]⟩⟩) by unfold j9;rw[wh,ae hin]] at Hag2;rw[show nR L=(lN L,true) from ae hin] at Hsm;obtain⟨tt,htt⟩:∃t,t=lN L:=⟨_,rfl⟩;rw[<- htt] at Hag2 Hsm;clear htt hin;go_upto_region 32 with fail;rw[<- H6.o];clear a0 a1 a2 v0 v1 v2 z0 z1 z2;go_wp2_with fail;refine Hsm.o.mono ?_;rintro e7 w7 ⟨rfl,t7⟩;have HV7:=lh (t7.blk HV6.o (by simp));have HT7:=lh (HT6.o.trans0 t7);clear t7;obtain⟨v0,v1,v2,z0,z1,z2⟩:=eJ HV7.o;obtain⟨w8,hw8⟩:∃w8,w8=w7.setCell ⟨wr.heap.size+1,1,none⟩ (.int .i64 tt):=⟨_,rfl⟩;have HV8:=lh (hw8 ▸ fD HV7.o 1 _:w8.heap[wr.heap.size+1]?=some (.cells #[.int .i64 1,.int .i64 tt,.string ⟨#[]⟩] 130 (0,0)));have HT8:=lh (HT7.o.trans (hw8 ▸ (Touch.refl [wr.heap.size+1] w7).setCell (p:=⟨wr.heap.size+1,1,none⟩) (.inl (by simp)) _:Touch [wr.heap.size+1] w7 w8) (λb hb=>.inr (by simp at hb;omega)));have H8:=lh hw8;clear hw8;go_upto_region 36 with fail;rw[<- H8.o];clear v0 v1 v2 z0 z1 z2;obtain⟨v0,v1,v2, -, -, -⟩:=eJ HV8.o;go_wp2_with (at_builtin;refine ez ?_);refine go ?_;have hrow:=d9.one (enc:=ff) (w8) 130 ⟨1,tt,⟨#[]⟩⟩ #[.int .i64 1,.int .i64 (tt),.string ⟨#[]⟩] rfl;try simp only[World.size_setCell] at hrow
     refine eb (enc:=ff) rfl (.tmp 126) (.tmp 128) 105 rfl 130 _ 3 32 gT cK rfl (by omega) eO f8 A' m' c' _ Hlen.o rfl ((HMv.o.touch0 ((HT8.o).alloc _)).own) (some ⟨w8.heap.size,0,none⟩) 1 1 [⟨1,tt,⟨#[]⟩⟩] rfl rfl hrow (by omega) (by omega) ?_;intro A3 c3 w9 hO9 t9 f9;have HM9:=lh ((HMv.o.touch0 ((HT8.o).alloc _)).step hO9 t9 f9);clear hO9 t9 f9 hrow;go_wp2_with fail;go_roundw
     case rel=>exact⟨j+1,m'+1,A3,c3,by omega,by go_num,rfl,by have:=Hm'.o;omega,lh (HZ3.o (by rw[Hag2.o])),lh (by rw[Hmv.o,Hag2.o];exact HM9.o)⟩
     case measure=>simp[intOf];omega
    as_aux_lemma =>
    rw[show j9 L=(10,⟨0,0,⟨#[]⟩⟩) by unfold j9;rw[wh,ab hin]] at Hag2;rw[show nR L=(0,false) from ab hin] at Hsm;have HVe:=lh (show V=(10,[]) by have h1:ly cs aggs G=10:=(Herj.o (by rw[Hag2.o];decide)).trans (by rw[Hag2.o]);rw[HV.o];unfold pe;rw[Her.o (by rw[h1];decide),h1,ab (by decide)])
    clear hin;go_upto_region 32 with fail;rw[<- H6.o];clear a0 a1 a2 v0 v1 v2 z0 z1 z2;go_wp2_with fail;refine Hsm.o.mono ?_;rintro e7 w7 ⟨rfl,t7⟩;have HT7:=lh (HT6.o.trans0 t7);clear t7;go_wp2_with fail;rw[HPO.o,HVe.o];exact⟨⟨none,0,0⟩,rfl,rfl,⟨[],⟨rfl,λi h=>absurd h (by simp)⟩,d9.nil _ _ _⟩,HTk.o.trans0 HT7.o⟩
   have zS:(op.toList==[115,117,109])=false:=by rw[eK op [115,117,109] iD rfl];exact aC hS
   obtain⟨up,hup⟩:∃up,up=decide (op=gZ):=⟨_,rfl⟩;have zM:(op.toList==[109,97,120])=up:=by rw[eK op [109,97,120] gZ rfl,hup]
   have Hag2:=lh (show eY cs ⟨op,col,nm⟩ G=(0,gX up L) by
    rw[Hag.o];unfold i8;rw[ab HCn.o,ab (by rw[HL.o.1];exact hq0),ab hS];have:(!decide (op=gB))=up:=by
     rw[hup];rcases Hop.o with h|h|h|h
     ·exact absurd h HCn.o
     ·exact absurd h hS
     ·rw[h];decide
     rw[h];decide
    rw[this])
   have Hbs:=lh (zX up Bv bc q L HL.o.1 (by omega) (by omega) (λv hv=>by have:=(HLo.o v hv).t;omega) w6 HL6.o);obtain⟨bv,hbv⟩:∃bv,bv=gX up L:=⟨_,rfl⟩;rw[<- hbv] at Hag2 Hbs;obtain⟨bk,bn',bt⟩:=bv;simp only[VD.val] at Hbs;clear hS hq0 hup hbv;as_aux_lemma =>
   go_upto_region 27 with fail;rw[<- H6.o];clear a0 a1 a2 v0 v1 v2 z0 z1 z2;obtain⟨a0,a1,a2, -, -, -⟩:=eJ HA6.o;go_wp2_with fail;refine Hbs.o.mono ?_;rintro e7 w7 ⟨rfl,t7⟩;have HV7:=lh (t7.blk HV6.o (by simp));have HT7:=lh (HT6.o.trans0 t7);clear t7 a0 a1 a2;obtain⟨v0,v1,v2,z0,z1,z2⟩:=eJ HV7.o;obtain⟨w8,hw8⟩:∃w8,w8=((w7.setCell ⟨wr.heap.size+1,0,none⟩ (.int .i64 bk)).setCell ⟨wr.heap.size+1,1,none⟩ (.int .i64 bn')).setCell ⟨wr.heap.size+1,2,none⟩ (.string bt):=⟨_,rfl⟩;have HV8:=lh (hw8 ▸ kj HV7.o rfl _ _ _:w8.heap[wr.heap.size+1]?=some (.cells #[.int .i64 bk,.int .i64 bn',.string bt] 130 (0,0)));have HT8:=lh (HT7.o.trans (hw8 ▸ gC w7 (wr.heap.size+1) _ _ _:Touch [wr.heap.size+1] w7 w8) (λb hb=>.inr (by simp at hb;omega)));have H8:=lh hw8;clear hw8;go_upto_region 36 with fail;rw[<- H8.o];clear v0 v1 v2 z0 z1 z2;obtain⟨v0,v1,v2, -, -, -⟩:=eJ HV8.o;go_wp2_with (at_builtin;refine ez ?_);refine go ?_;have hrow:=d9.one (enc:=ff) (w8) 130 ⟨bk,bn',bt⟩ #[.int .i64 bk,.int .i64 (bn'),.string bt] rfl;try simp only[World.size_setCell] at hrow
   refine eb (enc:=ff) rfl (.tmp 126) (.tmp 128) 105 rfl 130 _ 3 32 gT cK rfl (by omega) eO f8 A' m' c' _ Hlen.o rfl ((HMv.o.touch0 ((HT8.o).alloc _)).own) (some ⟨w8.heap.size,0,none⟩) 1 1 [⟨bk,bn',bt⟩] rfl rfl hrow (by omega) (by omega) ?_;intro A3 c3 w9 hO9 t9 f9;have HM9:=lh ((HMv.o.touch0 ((HT8.o).alloc _)).step hO9 t9 f9);clear hO9 t9 f9 hrow;go_wp2_with fail;go_roundw
   case rel=>exact⟨j+1,m'+1,A3,c3,by omega,by go_num,rfl,by have:=Hm'.o;omega,lh (HZ3.o (by rw[Hag2.o])),lh (by rw[Hmv.o,Hag2.o];exact HM9.o)⟩
   case measure=>simp[intOf];omega
  obtain rfl:j=aggs.length:=by omega
  rw[aH] at HMv;have Hrw:=lh (show PK++(aggs.map λa=>(eY cs a G).2)=lR cs (ea cs names) aggs G by unfold lR;rw[HPK2.o]);rw[Hrw.o] at HMv;have hz:ly cs aggs G=0:=iI λe he=>by obtain⟨i,hi,rfl⟩:=aU.1 he;exact HZj.o i hi hi
  have HZ4:=lh (HZ2.o hz);have Hrl:=lh (show (lR cs (ea cs names) aggs G).length=m' by rw[<- Hrw.o,az,ay,HPK.o];omega);obtain⟨RO,hRO⟩:∃RO,RO=lR cs (ea cs names) aggs G:=⟨_,rfl⟩;have Htk2:=lh (show ((iF cs names rows).take (k+1)).map (lR cs (ea cs names) aggs)=((iF cs names rows).take k).map (lR cs (ea cs names) aggs)++[RO] by rw[Htk.o,aT,hRO];rfl);rw[<- hRO] at HMv Hrl;have q0:((aggs.length:Int)<(aggs.length:Int))=False:=bi (by omega);clear hz hRO hm';go_wp2_with (at_builtin;refine ez ?_);refine go ?_;have hB:=HO.o.1.lt;have hsz:=HMv.o.t.size;have hlk:(((iF cs names rows).take k).map (lR cs (ea cs names) aggs)).length=k:=by rw[ay,aO];omega
  have hownr:=HO.o.1.touch0 HMv.o.t;refine gF rfl (.tmp 131) (.tmp 133) 66 rfl 105 gh cl w2.heap.size B k c2 _ hlk rfl hownr A' c' RO HMv.o.own.rd (λb hb=>⟨λq=>by have:=hB b q;have:=HMv.o.f b hb;omega,HMv.o.own.lt b hb,by have:=HMv.o.f b hb;have:=HO.o.2.1.size;omega⟩) 1 rfl (by omega) (by rw[Hrl.o]) ?_;intro B' c3 w' hown' ht hf;have HX9:=Gc hown' ht hf;clear hown' ht hf hB hsz hownr hlk;go_wp2_with fail;go_roundw
  case rel =>
   refine⟨k+1,B',c3,by omega,by go_num,rfl,HZ4,lh ⟨by rw[Htk2.o];exact HX9.o.1,(((HO.o.2.1.trans0 HMv.o.t).alloc _).trans HX9.o.2.1 (λb hb=>.inr (HO.o.2.2 b hb))),λb hb=> ?_⟩⟩;rcases HX9.o.2.2 b hb with q|q
   ·exact HO.o.2.2 b q
   have h1:=HO.o.2.1.size;have h2:=HMv.o.t.size;omega
  case measure=>simp[intOf];omega
 obtain rfl:k=n9:=by omega
 have HVe:=lh (show V=(0,(iF cs names rows).map (lR cs (ea cs names) aggs)) by rw[HV.o];unfold pe;rw[ae (iI λr hr=>by obtain⟨i,hi,rfl⟩:=aU.1 hr;exact HZ.o i (by have:=Hml.o;omega) hi)])
 have hO:=HO.o.1;rw[bR (by have:=Hml.o;omega)] at hO;have HO2:=lh hO;have q0:((k:Int)<(k:Int))=False:=bi (by omega);clear hO;go_wp2_with fail;rw[HPO.o,HVe.o];exact⟨⟨B,_,c2⟩,rfl,by rw[ay];exact Hml.o.symm,HO2.o.rowsAt,TW2.o.trans0 HO.o.2.1⟩
end
end Go.Proofs.YtafoklilkdnepaaGreatDoor
