/- Part 34 of the texts of this proof, one behind the other. No condition beyond those that its theorems state. -/
import Derived.Test.YtafoklilkdnepaaGreatDoorRe33
set_option linter.all false
set_option maxRecDepth 40000
set_option maxHeartbeats 25600000
namespace Go.Proofs.YtafoklilkdnepaaGreatDoor
section
open Go.RowKit
theorem zK{m:Nat}(x:PC)(hk2:x.kind=2)(e:TX m)(s r:SL)(cs:List CD)(rows:List (List VD))(w:World)(hc:iJ iX jf m w x.cond e)(hT:TabAt w s r cs rows)(hok:∀ c∈cs,c.Ok)(hl1:cs.length<=1000000)(hl2:rows.length<=1000000)(hrk:fe rows)(hre:gR rows) (hs:fj m e<=1000000) (hall:gj (λq=>q.v.text.size<=140737000000000) m e) : Calls Tryz.prog 43 #[x.val,.agg #[.slice s.A s.n s.c,.slice r.A r.n r.c]] w (eX (gP cs e rows) w):=by
 obtain⟨V,hV⟩:∃V,V=gP cs e rows:=⟨_,rfl⟩;rw[<- hV];obtain⟨PO,hPO⟩:∃PO,PO=eX V w:=⟨_,rfl⟩;rw[<- hPO];have HV:=lh hV;have HPO:=lh hPO;obtain⟨tn, -,tcols,tm,sl,hsl,hrd⟩:=hT;have Hev:=lh λ(row:List VD)(B:Option Addr)(rc:Nat)w'(t:Touch [] w w')(hm:row∈rows)(hr:eu w' B row)=>oO m e x.cond s.A s.c cs.length cs rfl hok B rc row.length row rfl (λv hv=>(hrk row hm).2 v hv) w' (hc.touch0 t) (tcols.touch0 t) hr (by omega) (by have:=(hrk row hm).1;omega) hs hall;have HSL:=lh hsl;have HRD:=lh hrd;have Hlr:=lh (show ∀i(h:i<rows.length),rows[i].length<=140737000000000 from λi h=>(hrk _ (am h)).1);have HRE:=lh hre;clear hre hV hPO hc tcols hsl hrd hok hrk hs hall;obtain⟨k0,k1,⟨A2,n2,c2'⟩,⟨⟨ck,cn,⟨cvk,cvn,cvt⟩,cop⟩,CA,cnn,cc⟩,⟨NA,nn,nc⟩,⟨EA,en,ec⟩,⟨OA,ol,oc⟩,⟨GA,gn,gc⟩,⟨BA,bn,bc⟩,count⟩:=x;obtain⟨sA,sn,sc⟩:=s;obtain⟨rA,rn,rc⟩:=r;dsimp only at tn tm hk2;subst hk2;subst tn tm;simp only[PC.val,XC.val] at *;obtain⟨W,hW⟩:∃W,W=(w.alloc (.cells #[.int .i64 2,.string k1,.slice A2 n2 c2',.int .i64 ck,.string cn,.int .i64 cvk,.int .i64 cvn,.string cvt,.string cop,.slice CA cnn cc,.slice NA nn nc,.slice EA en ec,.slice OA ol oc,.slice GA gn gc,.slice BA bn bc,.int .i64 count] 49)).alloc (.cells #[.slice sA cs.length sc,.slice rA rows.length rc] 27):=⟨_,rfl⟩;have t0:Touch [] w W:=hW ▸ ((Touch.refl [] w).alloc _).alloc _
 have hb0:=hW ▸ ((Touch.refl [] (w.alloc (.cells #[.int .i64 2,.string k1,.slice A2 n2 c2',.int .i64 ck,.string cn,.int .i64 cvk,.int .i64 cvn,.string cvt,.string cop,.slice CA cnn cc,.slice NA nn nc,.slice EA en ec,.slice OA ol oc,.slice GA gn gc,.slice BA bn bc,.int .i64 count] 49))).alloc (.cells #[.slice sA cs.length sc,.slice rA rows.length rc] 27)).blk (ah w _) (by simp);have hb1:W.heap[w.heap.size+1]?=some (.cells #[.slice sA cs.length sc,.slice rA rows.length rc] 27 (0,0)):=by have h1:=ah (w.alloc (.cells #[.int .i64 2,.string k1,.slice A2 n2 c2',.int .i64 ck,.string cn,.int .i64 cvk,.int .i64 cvn,.string cvt,.string cop,.slice CA cnn cc,.slice NA nn nc,.slice EA en ec,.slice OA ol oc,.slice GA gn gc,.slice BA bn bc,.int .i64 count] 49)) (.cells #[.slice sA cs.length sc,.slice rA rows.length rc] 27);rw[ao] at h1;exact hW ▸ h1
 have HW:=lh hW;have HT0:=Gc t0 hb0 hb1;have z1:W.cell? ⟨w.heap.size+1,1,none⟩=some (.slice rA rows.length rc):=d_ hb1 rfl;clear hW t0 hb0 hb1;go_enter Tryz.func43,Tryz.ntmps43;go_wp2_with fail;rw[<- HW.o];go_loopw [6,19] (λo i wr=>∃(k:Nat)(B:Option Addr)(c:Nat),k<=rows.length/\i=.int .i64 k/\o=.slice B (iA (λr=>(eP cs r m e).1.tru) sl rows k).length c/\Ga (∀i(hi:i<k)(h2:i<rows.length),(eP cs rows[i] m e).2=0)/\Ga (ep 33 1 eT wr B c ((iA (λr=>(eP cs r m e).1.tru) sl rows k).map (·.1)))/\Ga (∀b∈ed B,W.heap.size<=b)/\Ga (Touch [] W wr)) (λ_ i _=>rows.length-(intOf i).toNat)
 case atStart=>exact⟨0,none,0,by omega,rfl,by rw[nF];rfl,lh (λi h=>absurd h (by omega)),lh (by rw[nF];exact ep.nil _ _ _ _),lh (by simp[ed]),lh (Touch.refl _ _)⟩
 case round =>
 obtain⟨k,B,c,hk,rfl,rfl,HZ,HO,HF,HT⟩:=hrel;by_cases hlt:k<rows.length
 ·have hks:k<sl.length:=by rw[HSL.o.1];exact hlt
  obtain⟨ad,b1,o1,rfl,hadd,hcell⟩:=d9.cells (d9.touch0 HRD.o (HT0.o.1.trans0 HT.o)) 1 eC (by omega) k hks;have hsn:=(HSL.o.2 k hks hlt).1;have hva:=eu.touch0 (HSL.o.2 k hks hlt).2 (HT0.o.1.trans0 HT.o);have hKs:=tT (λr=>(eP cs r m e).1.tru) sl rows HSL.o.1 k hks hlt;have hev:=Hev.o rows[k] sl[k].A sl[k].c wr (HT0.o.1.trans0 HT.o) (am hlt) hva;have her:=λh0=>jG (g:=λr=>(eP cs r m e).2) hlt (λi hi=>HZ.o i hi (by omega)) h0;obtain⟨u,hu⟩:∃u,u=sl[k]:=⟨_,rfl⟩;obtain⟨row,hrow⟩:∃row,row=rows[k]:=⟨_,rfl⟩;rw[<- hu] at hcell hsn hev hKs;rw[<- hrow] at hsn hev hKs her;have HZ2:=lh (fun h0:(eP cs row m e).2=0=>λi(hi:i<k+1)(h2:i<rows.length)=>show (eP cs rows[i] m e).2=0 by
   by_cases hik:i<k
   ·exact HZ.o i hik h2
   obtain rfl:i=k:=by omega
   rw[<- hrow];exact h0)
  obtain⟨uA,un,uc⟩:=u;have e0:=hcell 0 _ rfl;rw[bO] at hadd;rw[aM] at e0;dsimp only at e0 hsn hev;subst hsn;obtain⟨tv,htv⟩:∃tv,tv=eP cs row m e:=⟨_,rfl⟩;rw[<- htv] at hev hKs her HZ2;obtain⟨v,er⟩:=tv;dsimp only at hev hKs her HZ2;obtain⟨p0,p1,p2,p3,p4,p5,p6,p7,p8,p9,p10,p11,p12,p13,p14,p15⟩:=fg (HT.o.blk HT0.o.2.1 (by simp));obtain⟨y0,y1,_,_⟩:=eL (HT.o.blk HT0.o.2.2 (by simp));have Hev2:=lh hev;have HKs:=lh hKs;have Her:=lh her;have hkI:(k:Int)<(rows.length:Int):=by omega
  obtain⟨K,hK⟩:∃K,K=iA (λr=>(eP cs r m e).1.tru) sl rows k:=⟨_,rfl⟩;have hKl:Ga (K.length<=k):=lh (by rw[hK];unfold iA;exact bm (bP _ _) (by rw[aO];omega))
  rw[<- hK] at HKs HO ⊢;have HKK:=lh hK;clear hcell hu hrow htv hev hKs her hva hK;obtain⟨vk,vn,vt⟩:=v;simp only[VD.val] at Hev2;by_cases h0:er=0
  ·subst h0;clear Her;by_cases hv:VD.tru ⟨vk,vn,vt⟩=true
   ·as_aux_lemma =>
    have HK1:=lh (show iA (λr=>(eP cs r m e).1.tru) sl rows (k+1)=K++[(⟨uA,row.length,uc⟩,row)] by rw[HKs.o,ae hv]);obtain⟨hv1,hv2⟩:vk=1/\vn≠0:=by simpa [VD.tru] using hv
    subst hv1;have hz1:(vn==0)=false:=by rw[aw];exact hv2
    have hz2:(vn != 0)=true:=by rw[bne,hz1];rfl
    clear hv hv2;go_wp2_with fail;refine Hev2.o.mono ?_;rintro e1 w1 ⟨rfl,t1⟩;have U2:=lh (t1.alloc (.cells #[.int .i64 1,.int .i64 vn,.string vt] 31));clear t1 Hev2;go_wp2_with (at_builtin;refine ez ?_);refine go ?_;have tc:=(Touch.refl [] (w1.alloc (.cells #[.int .i64 1,.int .i64 vn,.string vt] 31))).alloc (.cells #[.slice uA row.length uc] 33);have hrd1:=d9.one (enc:=eT) (w1.alloc (.cells #[.int .i64 1,.int .i64 vn,.string vt] 31)) 33 ⟨uA,row.length,uc⟩ #[.slice uA row.length uc] rfl;rw[ao] at hrd1;refine eb (enc:=eT) rfl (.tmp 46) (.tmp 48) 25 rfl 33 _ 1 24 gf bp rfl (by omega) eC ia B K.length c (K.map (·.1)) (by simp) rfl (HO.o.touch0 (U2.o.trans0 tc))
     (some ⟨w1.heap.size+1,0,none⟩) 1 1 [⟨uA,row.length,uc⟩] rfl rfl hrd1 (by have:=hKl.o;omega) (by omega) ?_
    intro B' c' w' hown ht hf;have HN2:=Gd hown ht hf tc;clear hown ht hf tc hrd1;go_wp2_with fail;go_roundw
    case rel =>
     obtain⟨hown,ht,hf,tc⟩:=HN2.o;refine⟨k+1,B',c',by omega,by go_num,by rw[HK1.o,az];rfl,lh (HZ2.o (by first | trivial | rfl)),lh (by rw[HK1.o,aT];exact hown),lh (λb hb=> ?_),lh (((HT.o.trans0 U2.o).trans0 tc).trans ht (λb hb=>.inr (HF.o b hb)))⟩;rcases hf b hb with q|q
     ·exact HF.o b q
     have h1:=HT.o.size;have h2:=U2.o.size;rw[ao] at q;omega
    case measure=>simp[intOf];omega
   have HK1:=lh (show iA (λr=>(eP cs r m e).1.tru) sl rows (k+1)=K by rw[HKs.o,ab hv,bN]);by_cases hv1:vk=1
   ·as_aux_lemma =>
    subst hv1;obtain rfl:vn=0:=by simpa [VD.tru] using hv
    clear hv;go_wp2_with fail;refine Hev2.o.mono ?_;rintro e1 w1 ⟨rfl,t1⟩;have U1:=lh (t1.alloc (.cells #[.int .i64 1,.int .i64 0,.string vt] 31));clear t1 Hev2;go_wp2_with fail;go_roundw
    case rel=>exact⟨k+1,B,c,by omega,by go_num,by rw[HK1.o],lh (HZ2.o (by first | trivial | rfl)),lh (by rw[HK1.o];exact HO.o.touch0 U1.o),HF,lh (HT.o.trans0 U1.o)⟩
    case measure=>simp[intOf];omega
   as_aux_lemma =>
   have hz1:(vk==1)=false:=by rw[aw];exact hv1
   clear hv hv1;go_wp2_with fail;refine Hev2.o.mono ?_;rintro e1 w1 ⟨rfl,t1⟩;have U1:=lh (t1.alloc (.cells #[.int .i64 vk,.int .i64 vn,.string vt] 31));clear t1 Hev2;go_wp2_with fail;go_roundw
   case rel=>exact⟨k+1,B,c,by omega,by go_num,by rw[HK1.o],lh (HZ2.o (by first | trivial | rfl)),lh (by rw[HK1.o];exact HO.o.touch0 U1.o),HF,lh (HT.o.trans0 U1.o)⟩
   case measure=>simp[intOf];omega
  as_aux_lemma =>
  have HVe:=lh (show V=(er,[]) by rw[HV.o];unfold gP;rw[Her.o h0,ab h0]);have hq:(er==0)=false:=by rw[aw];exact h0
  have hq':(er != 0)=true:=by rw[bne,hq];rfl
  clear h0 Her;go_wp2_with fail;refine Hev2.o.mono ?_;rintro e1 w1 ⟨rfl,t1⟩;have U1:=lh t1;clear t1 Hev2;go_wp2_with fail;rw[HPO.o,HVe.o];exact⟨⟨none,0,0⟩,rfl,rfl,⟨[],⟨rfl,λi h=>absurd h (by simp)⟩,d9.nil _ _ _⟩,(HT0.o.1.trans0 HT.o).trans0 (U1.o.trans0 ((Touch.refl [] w1).alloc _))⟩
 as_aux_lemma =>
 obtain rfl:k=rows.length:=by omega
 have HVe:=lh (show V=(0,(iA (λr=>(eP cs r m e).1.tru) sl rows rows.length).map (·.2)) by rw[HV.o];unfold gP;rw[ae (iI λr hr=>by obtain⟨i,hi,rfl⟩:=aU.1 hr;exact HZ.o i hi hi),ro _ _ _ HSL.o.1])
 have hka:=ro (λr=>(eP cs r m e).1.tru) sl rows HSL.o.1;have hra:eW wr B ((iA (λr=>(eP cs r m e).1.tru) sl rows rows.length).map (·.2)):=⟨_,(vJ HSL.o _).touch0 (HT0.o.1.trans0 HT.o),HO.o.rd⟩;have HRf:=lh (jw B c (iA (λr=>(eP cs r m e).1.tru) sl rows rows.length).length _ (by simp) (by have h1:=bf List.length hka;rw[ay] at h1;rw[h1];exact bm (bP _ _) hl2) (by rw[hka];exact λr hr=>HRE.o r (bE.1 hr).1) wr hra)
 clear hka hra;go_wp2_with fail;refine HRf.o.mono ?_;rintro e1 w1 ⟨B1,c1,rfl,ho,t1,hf⟩;have H1:=Gb ho.rowsAt t1;clear ho t1 hf;go_wp2_with fail;rw[HPO.o,HVe.o];exact⟨⟨B1,_,c1⟩,rfl,by simp,H1.o.1,(HT0.o.1.trans0 HT.o).trans0 H1.o.2⟩
theorem Bt{m:Nat}(x:PC)(hk3:x.kind=3)(es:List (TX m))(s r:SL)(cs:List CD)(rows:List (List VD))(w:World)(hen:x.exprs.n=es.length)(hle:es.length<=1000000)(hex:ki iX jf m w x.exprs.A es)(hT:TabAt w s r cs rows)(hok:∀ c∈cs,c.Ok)(hl1:cs.length<=1000000)(hl2:rows.length<=1000000)(hrk:fe rows) (hs:∀e∈es,fj m e<=1000000) (hall:∀e∈es,gj (λq=>q.v.text.size<=140737000000000) m e) : Calls Tryz.prog 43 #[x.val,.agg #[.slice s.A s.n s.c,.slice r.A r.n r.c]] w (eX (ja cs es rows) w):=by
 obtain⟨V,hV⟩:∃V,V=ja cs es rows:=⟨_,rfl⟩;rw[<- hV];obtain⟨PO,hPO⟩:∃PO,PO=eX V w:=⟨_,rfl⟩;rw[<- hPO];have HV:=lh hV;have HPO:=lh hPO;have HRA:=lh hT.rws;obtain⟨tn, -,tcols,tm, -⟩:=hT;have Hev:=lh λ(row:List VD)(B:Option Addr)(rc:Nat)(e:TX m)(y:XC)w'(t:Touch [] w w')(hm:row∈rows)(he:e∈es)(hr:eu w' B row)(hy:iJ iX jf m w' y e)=>oO m e y s.A s.c cs.length cs rfl hok B rc row.length row rfl (λv hv=>(hrk row hm).2 v hv) w' hy (tcols.touch0 t) hr (by omega) (by have:=(hrk row hm).1;omega) (hs e he) (hall e he);have HEX:=lh hex;have Hlr:=lh (show ∀i(h:i<rows.length),rows[i].length<=140737000000000 from λi h=>(hrk _ (am h)).1);clear hV hPO hex tcols hok hrk hs hall;obtain⟨k0,k1,⟨A2,n2,c2'⟩,⟨⟨ck,cn,⟨cvk,cvn,cvt⟩,cop⟩,CA,cnn,cc⟩,⟨NA,nn,nc⟩,⟨EA,en,ec⟩,⟨OA,ol,oc⟩,⟨GA,gn,gc⟩,⟨BA,bn,bc⟩,count⟩:=x;obtain⟨sA,sn,sc⟩:=s;obtain⟨rA,rn,rc⟩:=r;dsimp only at tn tm hen hk3;subst hk3;subst tn tm hen;simp only[PC.val,XC.val] at *;obtain⟨W,hW⟩:∃W,W=(w.alloc (.cells #[.int .i64 3,.string k1,.slice A2 n2 c2',.int .i64 ck,.string cn,.int .i64 cvk,.int .i64 cvn,.string cvt,.string cop,.slice CA cnn cc,.slice NA nn nc,.slice EA es.length ec,.slice OA ol oc,.slice GA gn gc,.slice BA bn bc,.int .i64 count] 49)).alloc (.cells #[.slice sA cs.length sc,.slice rA rows.length rc] 27):=⟨_,rfl⟩;have t0:Touch [] w W:=hW ▸ ((Touch.refl [] w).alloc _).alloc _
 have hb0:=hW ▸ ((Touch.refl [] (w.alloc (.cells #[.int .i64 3,.string k1,.slice A2 n2 c2',.int .i64 ck,.string cn,.int .i64 cvk,.int .i64 cvn,.string cvt,.string cop,.slice CA cnn cc,.slice NA nn nc,.slice EA es.length ec,.slice OA ol oc,.slice GA gn gc,.slice BA bn bc,.int .i64 count] 49))).alloc (.cells #[.slice sA cs.length sc,.slice rA rows.length rc] 27)).blk (ah w _) (by simp);have hb1:W.heap[w.heap.size+1]?=some (.cells #[.slice sA cs.length sc,.slice rA rows.length rc] 27 (0,0)):=by have h1:=ah (w.alloc (.cells #[.int .i64 3,.string k1,.slice A2 n2 c2',.int .i64 ck,.string cn,.int .i64 cvk,.int .i64 cvn,.string cvt,.string cop,.slice CA cnn cc,.slice NA nn nc,.slice EA es.length ec,.slice OA ol oc,.slice GA gn gc,.slice BA bn bc,.int .i64 count] 49)) (.cells #[.slice sA cs.length sc,.slice rA rows.length rc] 27);rw[ao] at h1;exact hW ▸ h1
 have HW:=lh hW;have HT0:=Gc t0 hb0 hb1;have z1:W.cell? ⟨w.heap.size+1,1,none⟩=some (.slice rA rows.length rc):=d_ hb1 rfl;clear hW t0 hb0 hb1;go_enter Tryz.func43,Tryz.ntmps43;go_wp2_with fail;rw[<- HW.o];go_loopw [6,19] (λo i wr=>∃(k:Nat)(B:Option Addr)(c:Nat),k<=rows.length/\i=.int .i64 k/\o=.slice B k c/\Ga (∀i(hi:i<k)(h2:i<rows.length),io cs es rows[i]=0)/\Ga (fl 33 W.heap.size wr B c ((rows.take k).map (f_ cs es)))/\Ga (∀b∈ed B,W.heap.size<=b)/\Ga (Touch [] W wr)) (λ_ i _=>rows.length-(intOf i).toNat)
 case atStart=>exact⟨0,none,0,by omega,rfl,rfl,lh (λi h=>absurd h (by omega)),lh (fl.nil _ _ _),lh (by simp[ed]),lh (Touch.refl _ _)⟩
 case round =>
 obtain⟨k,B,c,hk,rfl,rfl,HZ,HO,HF,HT⟩:=hrel;by_cases hlt:k<rows.length
 ·obtain⟨bd,A1,c1,rfl,e0,hr1⟩:=(HRA.o.touch0 (HT0.o.1.trans0 HT.o)).at_ k hlt;have htk:=au hlt;have hmem:=am hlt;have her:=λh0=>jG (g:=io cs es) hlt (λi hi=>HZ.o i hi (by omega)) h0;obtain⟨row,hre⟩:∃row,row=rows[k]:=⟨_,rfl⟩;rw[<- hre] at e0 hr1 htk hmem her;have HZ2:=lh (fun h0:io cs es row=0=>λi(hi:i<k+1)(h2:i<rows.length)=>show io cs es rows[i]=0 by
   by_cases hik:i<k
   ·exact HZ.o i hik h2
   obtain rfl:i=k:=by omega
   rw[<- hre];exact h0)
  have Htk:=lh htk;have Hmem:=lh hmem;have Her:=lh her;have HR1:=lh hr1;have hkn:(k:Int)<(rows.length:Int):=by omega
  obtain⟨p0,p1,p2,p3,p4,p5,p6,p7,p8,p9,p10,p11,p12,p13,p14,p15⟩:=fg (HT.o.blk HT0.o.2.1 (by simp));clear hre htk hr1 hmem her p1 p2 p3 p4 p5 p6 p7 p8 p9 p10 p12 p13 p14 p15;go_wp2_with fail;clear p0 p11;go_loopw [11,53] (λv i wx=>∃(j:Nat)(A':Option Addr)(c':Nat),j<=es.length/\i=.int .i64 j/\v=.slice A' j c'/\Ga (∀i(hi:i<j)(h2:i<es.length),(eP cs row m es[i]).2=0)/\Ga (Made 31 3 ff ((es.take j).map λe=>(eP cs row m e).1) A' c' wr wx)) (λ_ i _=>es.length-(intOf i).toNat)
  case atStart=>exact⟨0,none,0,by omega,rfl,rfl,lh (λi h=>absurd h (by omega)),lh (Made.nil _ _ _ _)⟩
  case round =>
  obtain⟨j,A',c',hj,rfl,rfl,HZj,HM⟩:=hrel;by_cases hltj:j<es.length
  ·obtain⟨ad,b,off,y,rfl,hadd,hy,hcell⟩:=(HEX.o.touch0 ((HT0.o.1.trans0 HT.o).trans0 HM.o.t)).at_ gW j hltj;have hsn:=au hltj;have hej:=am hltj;have herj:=λh0=>jG (g:=λe=>(eP cs row m e).2) hltj (λi hi=>HZj.o i hi (by omega)) h0;obtain⟨e,he⟩:∃e,e=es[j]:=⟨_,rfl⟩;rw[<- he] at hy hsn hej herj;have HZ3:=lh (fun h0:(eP cs row m e).2=0=>λi(hi:i<j+1)(h2:i<es.length)=>show (eP cs row m es[i]).2=0 by
    by_cases hij:i<j
    ·exact HZj.o i hij h2
    obtain rfl:i=j:=by omega
    rw[<- he];exact h0)
   have f0:=hcell 0 _ rfl;have f1:=hcell 1 _ rfl;have f2:=hcell 2 _ rfl;have f3:=hcell 3 _ rfl;have f4:=hcell 4 _ rfl;have f5:=hcell 5 _ rfl;have f6:=hcell 6 _ rfl;rw[aM] at f0;obtain⟨⟨yk,yn,⟨yvk,yvn,yvt⟩,yop⟩,yA,yl,yc⟩:=y;dsimp only at f0 f1 f2 f3 f4 f5 f6;have ta:=(Touch.refl [] wr).alloc (.cells #[.int .i64 yk,.string yn,.int .i64 yvk,.int .i64 yvn,.string yvt,.string yop,.slice yA yl yc] 44);have hev:=Hev.o row A1 c1 e _ _ (((HT0.o.1.trans0 HT.o).trans0 HM.o.t).trans0 ta) Hmem.o hej (HR1.o.touch0 (HM.o.t.trans0 ta)) (hy.touch0 ta);obtain⟨tv,htv⟩:∃tv,tv=eP cs row m e:=⟨_,rfl⟩;have hmv:(es.take (j+1)).map (λe=>(eP cs row m e).1)=(es.take j).map (λe=>(eP cs row m e).1)++[tv.1]:=by rw[hsn,aT,htv];rfl
   rw[<- htv] at hev herj HZ3;obtain⟨⟨vk,vn,vt⟩,er⟩:=tv;simp only[XC.val,VD.val] at hev;dsimp only at herj HZ3 hmv;obtain⟨q0,q1,_,_⟩:=eL ((HM.o.t.trans0 ta).blk (HT.o.blk HT0.o.2.2 (by simp)) (by simp));have Hev2:=lh hev;have HTa:=lh ta;have Hmv:=lh hmv;have Herj:=lh herj;have hjI:(j:Int)<(es.length:Int):=by omega
   have Hlen:=lh (show ((es.take j).map λe=>(eP cs row m e).1).length=j by rw[ay,aO];omega);clear hcell hy hev ta hmv herj hsn hej he htv;by_cases h0:er=0
   ·subst h0;clear Herj;go_wp2_with fail;refine Hev2.o.mono ?_;rintro e1 w1 ⟨rfl,t1⟩;have U1:=lh (HTa.o.trans0 t1);clear t1 Hev2 q0 q1;go_wp2_with (at_builtin;refine ez ?_);refine go ?_;have tb:=((Touch.refl [] w1).alloc (.cells #[.int .i64 vk,.int .i64 vn,.string vt] 31)).alloc (.cells #[.int .i64 vk,.int .i64 vn,.string vt] 31);have hrd1:=d9.one (enc:=ff) (w1.alloc (.cells #[.int .i64 vk,.int .i64 vn,.string vt] 31)) 31 ⟨vk,vn,vt⟩ #[.int .i64 vk,.int .i64 vn,.string vt] rfl;rw[ao] at hrd1;refine eb (enc:=ff) rfl (.tmp 68) (.tmp 70) 33 rfl 31 _ 3 32 jI cj rfl (by omega) eO f8 A' j c' ((es.take j).map λe=>(eP cs row m e).1) Hlen.o rfl (HM.o.own.touch0 (U1.o.trans0 tb))
     (some ⟨w1.heap.size+1,0,none⟩) 1 1 [⟨vk,vn,vt⟩] rfl rfl hrd1 (by omega) (by omega) ?_
    intro A3 c3 w3 hown3 ht3 hf3;have HX:=lh ((HM.o.touch0 (U1.o.trans0 tb)).step hown3 ht3 hf3);clear hown3 ht3 hf3 tb hrd1;go_wp2_with fail;go_roundw
    case rel=>exact⟨j+1,A3,c3,by omega,by go_num,rfl,lh (HZ3.o (by first | trivial | rfl)),lh (by rw[Hmv.o];exact HX.o)⟩
    case measure=>simp[intOf];omega
   have HVe:=lh (show V=(er,[]) by have h1:io cs es row=er:=Herj.o h0;rw[HV.o];unfold ja;rw[Her.o (by rw[h1];exact h0),h1,ab h0])
   have hq:(er==0)=false:=by rw[aw];exact h0
   have hq':(er != 0)=true:=by rw[bne,hq];rfl
   clear h0 Herj HZ3;go_wp2_with fail;refine Hev2.o.mono ?_;rintro e1 w1 ⟨rfl,t1⟩;have U1:=lh (HTa.o.trans0 t1);clear t1 Hev2 q0 q1;go_wp2_with fail;rw[HPO.o,HVe.o];exact⟨⟨none,0,0⟩,rfl,rfl,⟨[],⟨rfl,λi h=>absurd h (by simp)⟩,d9.nil _ _ _⟩,((HT0.o.1.trans0 HT.o).trans0 HM.o.t).trans0 (U1.o.trans0 ((Touch.refl [] w1).alloc _))⟩
  obtain rfl:j=es.length:=by omega
  have HM2:Ga (Made 31 3 ff (f_ cs es row) A' c' _ wr):=lh (by have:=HM.o;rwa[aH] at this);have hz:io cs es row=0:=iI λe he=>by obtain⟨i,hi,rfl⟩:=aU.1 he;exact HZj.o i hi hi
  have HZ4:=lh (HZ2.o hz);have Hkl:=lh (show (f_ cs es row).length=es.length by unfold f_;rw[ay]);clear HM hz HZ2;go_wp2_with (at_builtin;refine ez ?_);refine go ?_;have hB:=HO.o.lt;have hsz:=HM2.o.t.size;refine gF rfl (.tmp 73) (.tmp 75) 25 rfl 33 gf bp W.heap.size B k c ((rows.take k).map (f_ cs es)) (by rw[ay,aO];omega) rfl (HO.o.touch0 HM2.o.t) A' c' (f_ cs es row) HM2.o.own.rd
   (λb hb=>⟨λq=>by have:=hB b q;have:=HM2.o.f b hb;omega,HM2.o.own.lt b hb,by have:=HM2.o.f b hb;have:=HT.o.size;omega⟩) 1 rfl (by omega) (by rw[Hkl.o]) ?_
  intro B' c3 w' hown ht hf;have HX:=Gc hown ht hf;clear hown ht hf;go_wp2_with fail;go_roundw
  case rel =>
   obtain⟨hown,ht,hf⟩:=HX.o;refine⟨k+1,B',c3,by omega,by go_num,rfl,HZ4,lh (by rw[Htk.o,aT];exact hown),lh (λb hb=> ?_),lh (((HT.o.trans0 HM2.o.t).alloc _).trans ht (λb hb=>.inr (HF.o b hb)))⟩;rcases hf b hb with q|q
   ·exact HF.o b q
   have:=HT.o.size;omega
  case measure=>simp[intOf];omega
 obtain rfl:k=rows.length:=by omega
 have HVe:=lh (show V=(0,rows.map (f_ cs es)) by rw[HV.o];unfold ja;rw[ae (iI λr hr=>by obtain⟨i,hi,rfl⟩:=aU.1 hr;exact HZ.o i hi hi)])
 have HO2:Ga (fl 33 W.heap.size wr B c (rows.map (f_ cs es))):=lh (by have:=HO.o;rwa[aH] at this);clear HO;have HRf:=lh (jw B c rows.length (rows.map (f_ cs es)) (by rw[ay]) hl2 (λr hr=>by obtain⟨q, -,rfl⟩:=aJ.1 hr;unfold f_;rw[ay];exact hle) wr HO2.o.rowsAt)
 go_wp2_with fail;refine HRf.o.mono ?_;rintro e1 w1 ⟨B1,c1,rfl,ho,t1,hf⟩;have H1:=Gb ho.rowsAt t1;clear ho t1 hf;go_wp2_with fail;rw[HPO.o,HVe.o];exact⟨⟨B1,_,c1⟩,rfl,by simp,H1.o.1,(HT0.o.1.trans0 HT.o).trans0 H1.o.2⟩
end
end Go.Proofs.YtafoklilkdnepaaGreatDoor
