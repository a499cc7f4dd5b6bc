/- Part 37 of the texts of this proof, one behind the other. No condition beyond those that its theorems state. -/
import Derived.Test.YtafoklilkdnepaaGreatDoorRe36
set_option linter.all false
set_option maxRecDepth 40000
set_option maxHeartbeats 25600000
namespace Go.Proofs.YtafoklilkdnepaaGreatDoor
section
open Go.RowKit
theorem Dv(a b:VD):eU a b=0 ↔ a=b:=by
 have h:ej [a] [b]=eU a b:=by
  by_cases q:eU a b=0
  ·simp[ej,q]
  simp[ej,q]
 rw[<- h,wT];simp
theorem rp(a b:VD):kO a b=true ↔ a=b:=by unfold kO;rw[bF,Dv]
theorem wL(r:List VD)(at_:List Nat):eE r at_=at_.map (je r):=rfl
theorem sK(a q:List VD):∀(ls rs:List Nat),ls.length=rs.length->(iZ ls rs a q=true ↔ iQ (eE a ls)=false/\eE a ls=eE q rs)
 | [],[],_=>by simp[iZ,iQ,eE]
 | [],_:: _,h=>by simp at h
 | _:: _,[],h=>by simp at h
 |i:: ls,j:: rs,h=>by
  have ih:=sK a q ls rs (by simpa using h);have e1:iZ (i:: ls) (j:: rs) a q=(ua a q (i,j)&&iZ ls rs a q):=rfl;have e2:eE a (i:: ls)=je a i:: eE a ls:=rfl;have e3:eE q (j:: rs)=je q j:: eE q rs:=rfl;have e4:iQ (je a i:: eE a ls)=(decide ((je a i).kind=0)||iQ (eE a ls)):=rfl;rw[e1,e2,e3,e4,bh,ih];unfold ua;dsimp only;rw[bh,rp,bF,Bool.or_eq_false_iff,decide_eq_false_iff_not,List.cons.injEq];constructor
  ·rintro⟨⟨h1,h2⟩,h3,h4⟩;exact⟨⟨h1,h3⟩,h2,h4⟩
  rintro⟨⟨h1,h3⟩,h2,h4⟩;exact⟨⟨h1,h2⟩,h3,h4⟩
theorem we(rows:List (List VD))(p:List VD->Bool):((List.range rows.length).filter λi=>p (rows.getD i [])).map (λi=>rows.getD i [])=rows.filter p:=by
 have h:=mx rows [] _ rfl;conv=>rhs;rw[<- h]
 rw[List.filter_map];rfl
def lW(rows:List (List VD)):Prop:=∀r∈rows,∀v∈r,v.right=true
theorem BC{r:List VD}(h:∀ v∈r,v.right=true)(i:Nat):(je r i).right=true:=by
 by_cases hi:i<r.length
 ·rw[lJ hi];exact h _ (am hi)
 have:je r i=⟨0,0,⟨#[]⟩⟩:=by unfold je;rw[bG,bT (by omega)];rfl
 rw[this];unfold VD.right;simp +decide
theorem mC{r:List VD}(h:∀ v∈r,v.right=true)(at_:List Nat):∀v∈eE r at_,v.right=true:=λv hv=>by obtain⟨i, -,rfl⟩:=aJ.1 hv;exact BC h i
theorem oK{rows:List (List VD)}(h:lW rows)(i:Nat):∀v∈rows.getD i [],v.right=true:=by
 by_cases hi:i<rows.length
 ·rw[show rows.getD i []=rows[i] by simp[List.getD,hi]];exact h _ (am hi)
 rw[show rows.getD i []=[] by rw[bG,bT (by omega)];rfl];simp
theorem vP(rb:List (List VD))(ls rs:List Nat)(hl:ls.length=rs.length)(hb:lW rb)(r:List VD)(hr:∀ v∈r,v.right=true):(jp rb rs ls r).map (λi=>rb.getD i [])=rb.filter λq=>iZ ls rs r q:=by
 unfold jp;by_cases hn:iQ (eE r ls)=true
 ·rw[ae hn,dh];symm;rw[dR];intro q _ h;have:=((sK r q ls rs hl).1 h).1;rw[hn] at this;exact absurd this (by simp)
 rw[ab hn,<- we];congr 1;unfold iG;refine List.filter_congr λi _=> ?_;have hq:=oK hb i;have hnf:iQ (eE r ls)=false:=by simpa using hn
 rw[cD,bh,bF,sK r _ ls rs hl];unfold eF iC;constructor
 ·rintro⟨-,h2⟩;exact⟨hnf,(sO _ _ (mC hq rs) (mC hr ls) h2).symm⟩
 rintro⟨-,h2⟩;rw[<- h2,hnf];exact⟨rfl,rfl⟩
theorem u6(ra rb:List (List VD))(ls rs:List Nat)(left:Bool)(wide:Nat)(hl:ls.length=rs.length)(ha:lW ra)(hb:lW rb):pa ra rb ls rs left wide=fq left wide ra rb ls rs:=by
 unfold pa fq;have key:∀l:List (List VD),(∀r∈l,r∈ra)->(l.flatMap λp=>uK rb ls rs left wide p)=l.flatMap λr=>(jc left wide rb rs ls r).map λo=>r++o:=by
  intro l;induction l with
  |nil=>intro _;rfl
  |cons r l ih =>
   intro h
   rw[bB,bB,ih (λx hx=>h x (aP _ hx))]
   congr 1
   have hf:=vP rb ls rs hl hb r (ha r (h r aK))
   unfold uK jc
   have he:jp rb rs ls r=[] ↔ (rb.any λq=>iZ ls rs r q)=false:=by
    rw[d7,ne_eq,cO];constructor
    ·rintro h1 ⟨q,hq,h2⟩;rw[h1,dh] at hf;have:q∈rb.filter λq=>iZ ls rs r q:=bE.2 ⟨hq,h2⟩;rw[<- hf] at this;simp at this
    intro h1;have:rb.filter (λq=>iZ ls rs r q)=[]:=dR.2 λq hq h2=>h1 ⟨q,hq,h2⟩;rw[this] at hf;exact List.map_eq_nil_iff.1 hf
   by_cases hc:jp rb rs ls r=[]/\left=true
   ·rw[ae hc,ae ⟨hc.2,he.1 hc.1⟩];rw[hc.1,dh] at hf;rw[<- hf];rfl
   ·rw[ab hc,ab (λq=>hc ⟨he.2 q.2,q.1⟩),bN,hf]
 exact key ra (λ_ h=>h)
theorem Bf(at_:List Nat)(a b:List VD):kK at_ a b=true ↔ eE a at_=eE b at_:=by
 unfold kK;rw[bU,wL,wL,List.map_inj_left];constructor
 ·intro h i hi;exact(rp _ _).1 (h i hi)
 intro h i hi;exact(rp _ _).2 (h i hi)
theorem DH{rows:List (List VD)}(hr:lW rows)(at_:List Nat)(i j:Nat):eF rows at_ i=eF rows at_ j ↔ eE (rows.getD i []) at_=eE (rows.getD j []) at_:=
 ⟨λh=>sO _ _ (mC (oK hr i) at_) (mC (oK hr j) at_) h,λh=>by unfold eF;rw[h]⟩
def kM(rows:List (List VD))(at_:List Nat)(k i:Nat):List (List VD):=(iG ju (eF rows at_) k (eF rows at_ i)).map λj=>rows.getD j []
theorem ut{rows:List (List VD)}{at_:List Nat}{k i:Nat}(hi:i∈ie (eF rows at_) k):∃t,iG ju (eF rows at_) k (eF rows at_ i)=i:: t:=by
 obtain⟨h1,h2⟩:=bE.1 hi;have h1:=a_.1 h1;have h2:=aN h2;have hm:i∈iG ju (eF rows at_) k (eF rows at_ i):=bE.2 ⟨a_.2 h1,by simp[ju]⟩;have hp:(iG ju (eF rows at_) k (eF rows at_ i)).Pairwise (· < ·):=List.pairwise_lt_range.filter _;cases hs:iG ju (eF rows at_) k (eF rows at_ i) with
 |nil=>rw[hs] at hm;simp at hm
 |cons x t =>
  rw[hs] at hm hp
  have hx:x∈iG ju (eF rows at_) k (eF rows at_ i):=by rw[hs];exact aK
  have hxk:eF rows at_ x=eF rows at_ i:=by have:=(bE.1 hx).2;simpa [ju] using this
  rcases aR.1 hm with rfl|hm
  ·exact⟨t,rfl⟩
  ·have:=(cq.1 hp).1 i hm;exact absurd hxk (h2 x this)
theorem uk{rows:List (List VD)}(hr:lW rows)(at_:List Nat):∀k,k<=rows.length->nK at_ (rows.take k)=(ie (eF rows at_) k).map (kM rows at_ k)
 | 0,_=>rfl
 |k+1,hk=>by
  have ih:=uk hr at_ k (by omega);have hp:rows.getD k []=rows[k]:=by simp[List.getD,show k<rows.length by omega]
  have h0:nK at_ (rows.take (k+1))=qr at_ (nK at_ (rows.take k)) (rows.getD k []):=by rw[au (by omega),hp];unfold nK;rw[cX];rfl
  rw[h0,ih];have hal:∀i∈ie (eF rows at_) k,(s8 at_ (rows.getD k []) (kM rows at_ k i)=true ↔ eF rows at_ i=eF rows at_ k):=λi hi=>by obtain⟨t,ht⟩:=ut hi;unfold kM;rw[ht,cx];show kK at_ (rows.getD i []) (rows.getD k [])=true ↔ _;rw[Bf,DH hr]
  have hup:∀i∈ie (eF rows at_) k,pB at_ (rows.getD k []) (kM rows at_ k i)=kM rows at_ (k+1) i:=λi hi=>by
   unfold pB;by_cases hc:eF rows at_ i=eF rows at_ k
   ·rw[ae ((hal i hi).2 hc)];unfold kM;rw[k_,ae (by simp[ju,hc]),aT];rfl
   rw[ab (λq=>hc ((hal i hi).1 q))];unfold kM;rw[k_,ab (by simp[ju];exact λq=>hc q.symm),bN]
  have hmap:((ie (eF rows at_) k).map (kM rows at_ k)).map (pB at_ (rows.getD k []))=(ie (eF rows at_) k).map (kM rows at_ (k+1)):=by rw[cC];exact List.map_congr_left hup
  unfold qr;rw[hmap];by_cases hany:((ie (eF rows at_) k).map (kM rows at_ k)).any (s8 at_ (rows.getD k []))=true
  ·rw[ae hany];obtain⟨g,hg,h1⟩:=cO.1 hany;obtain⟨i,hi,rfl⟩:=aJ.1 hg;have hc:=(hal i hi).1 h1;have:ie (eF rows at_) (k+1)=ie (eF rows at_) k:=by unfold ie;rw[dg,bZ,cG,ab (by rw[bF];exact λq=>q i (q_ hi) hc),cE,bN]
   rw[this]
  rw[ab hany];have hno:∀j,j<k->eF rows at_ j≠eF rows at_ k:=λj hj e=>by
   have:∃i∈ie (eF rows at_) k,eF rows at_ i=eF rows at_ k:=by
    induction j using Nat.strongRecOn with
    | _ j ihj =>
     by_cases hl:∀q,q<j->eF rows at_ q≠eF rows at_ j
     ·exact⟨j,bE.2 ⟨a_.2 hj,aF hl⟩,e⟩
     ·obtain⟨q,hq⟩:=Classical.not_forall.1 hl;obtain⟨hq1,hq2⟩:=Classical.not_imp.1 hq;have hq2:=Classical.not_not.1 hq2;exact ihj q hq1 (by omega) (hq2.trans e)
   obtain⟨i,hi,hc⟩:=this;exact hany (cO.2 ⟨_,aJ.2 ⟨i,hi,rfl⟩,(hal i hi).2 hc⟩)
  have:ie (eF rows at_) (k+1)=ie (eF rows at_) k++[k]:=by unfold ie;rw[dg,bZ];congr 1;rw[cG,ae (by rw[bF];exact hno),cE]
  rw[this,aT];congr 1;have hs:iG ju (eF rows at_) (k+1) (eF rows at_ k)=[k]:=by
   rw[k_,ae (by simp[ju])];have:iG ju (eF rows at_) k (eF rows at_ k)=[]:=by unfold iG;rw[dR];intro j hj h;have:=a_.1 hj;exact hno j this (by simpa [ju] using h)
   rw[this];rfl
  show [[rows.getD k []]]=[kM rows at_ (k+1) k];unfold kM;rw[hs];rfl
end
section
open Go.RowKit
def it:List CD->List VD->Prop
 | [],[]=>True
 |c:: cs,v:: vs=>gK c v=true/\it cs vs
 | _,_=>False
theorem nt:∀(cs:List CD)(vs:List VD),fw cs vs=true ↔ it cs vs
 | [],[]=>by simp[fw,it]
 | [],_:: _=>by simp[fw,it]
 | _:: _,[]=>by simp[fw,it]
 |c:: cs,v:: vs=>by
  have ih:=nt cs vs;unfold fw at ih ⊢;rw[it,<- ih];simp only[List.length_cons,List.zipWith_cons_cons,List.all_cons,id,Bool.and_eq_true,decide_eq_true_eq];constructor
  ·rintro⟨h1,h2,h3⟩;exact⟨h2,by omega,h3⟩
  rintro⟨h1,h2,h3⟩;exact⟨by omega,h1,h3⟩
theorem it.append:∀{a b:List CD}{p q:List VD},it a p->it b q->it (a++b) (p++q)
 | [],_,[],_,_,h=>h
 | _:: _,_,_:: _,_,h1,h2=>⟨h1.1,h1.2.append h2⟩
theorem it.map{α:Type}{f:α->CD}{g:α->VD}:∀{l:List α},(∀x∈l,gK (f x) (g x)=true)->it (l.map f) (l.map g)
 | [],_=>trivial
 | _:: _,h=>⟨h _ aK,it.map λx hx=>h x (aP _ hx)⟩
theorem Ep{nm:ByteArray}{t:Int}{v:VD}(h:v.right=true/\(v.kind=0\/v.kind=t)):gK ⟨nm,t⟩ v=true:=by unfold gK;rw[h.1,cM,Bool.or_eq_true,bF,bF];exact h.2
theorem s9(c:CD):gK c ⟨0,0,⟨#[]⟩⟩=true:=by unfold gK;rw[show VD.right ⟨0,0,⟨#[]⟩⟩=true from qh];rfl
theorem py(nm:ByteArray)(n:Int):gK ⟨nm,1⟩ ⟨1,n,⟨#[]⟩⟩=true:=by unfold gK;rw[show VD.right ⟨1,n,⟨#[]⟩⟩=true from vl n];rfl
theorem it.nulls:∀cs:List CD,it cs (List.replicate cs.length ⟨0,0,⟨#[]⟩⟩)
 | []=>trivial
 |c:: cs=>⟨s9 c,it.nulls cs⟩
theorem it.at_:∀{cs:List CD}{vs:List VD},it cs vs->∀i,i<cs.length->gK (cs.getD i ⟨⟨#[]⟩,0⟩) (vs.getD i ⟨0,0,⟨#[]⟩⟩)=true
 | [],_,_,i,h=>absurd h (Nat.not_lt_zero i)
 | _:: _,_:: _,h,0,_=>h.1
 | _:: cs,_:: vs,h,i+1,hi=>it.at_ (cs:=cs) (vs:=vs) h.2 i (by simpa using hi)
theorem jT{cs:List CD}{rows:List (List VD)}(h:e_ cs rows=0):∀r∈rows,it cs r:=λr hr=>(nt cs r).1 (bU.1 (jO h).2.2 r hr)
theorem nY{cs:List CD}{rows:List (List VD)}(hc:eB cs=0)(hl:rows.length<=4096)(h:∀ r∈rows,it cs r):e_ cs rows=0:=by unfold e_;rw[ae hc,ab (by omega),ae (bU.2 λr hr=>(nt cs r).2 (h r hr))]
theorem Ac{rb:List (List VD)}{bt at_:List Nat}{r:List VD}{i:Nat}(h:i∈jp rb bt at_ r):i<rb.length:=by
 unfold jp at h;split at h
 ·simp at h
 exact a_.1 (bE.1 h).1
theorem uT{a b:List CD}{ra rb:List (List VD)}(left:Bool)(at_ bt:List Nat)(ha:∀ r∈ra,it a r)(hb:∀ r∈rb,it b r):∀r∈fq left b.length ra rb at_ bt,it (a++b) r:=λr hr=>by
 obtain⟨p,hp,hr⟩:=List.mem_flatMap.1 hr;obtain⟨o,ho,rfl⟩:=aJ.1 hr;refine(ha p hp).append ?_;unfold jc at ho;split at ho
 ·rw[aI.1 ho];exact it.nulls b
 obtain⟨i,hi,rfl⟩:=aJ.1 ho;have hk:i<rb.length:=Ac hi;rw[show rb.getD i []=rb[i] by simp[List.getD,hk]];exact hb _ (am hk)
theorem u7(left:Bool)(wide:Nat)(ra rb:List (List VD))(at_ bt:List Nat):(fq left wide ra rb at_ bt).length<=ra.length*(rb.length+1):=by
 unfold fq;induction ra with
 |nil=>simp
 |cons r l ih =>
  rw[bB,az,ay,bK,Nat.succ_mul]
  have:(jc left wide rb bt at_ r).length<=rb.length+1:=by
   unfold jc;split
   ·simp
   rw[ay];unfold jp;split
   ·simp
   unfold iG;refine bm (bP _ _) ?_;rw[cH];omega
  omega
theorem vD{m:Nat}{a:List CD}:∀{names:List ByteArray}{es:List (TX m)},names.length=es.length->(∀e∈es,(gu a m e).2=0)->∀r,fw a r=true->(∀e∈es,(eP a r m e).2=0)->(∀c∈fP names (es.map (gu a m)),c.typ=1\/c.typ=2)->it (fP names (es.map (gu a m))) (f_ a es r)
 | [],[],_,_,_,_,_,_=>trivial
 |n:: names,e:: es,hl,ht,r,hr,h0,hc=>by have ih:=vD (names:=names) (es:=es) (by simpa using hl) (λx hx=>ht x (aP _ hx)) r hr (λx hx=>h0 x (aP _ hx)) (λc h=>hc c (aP _ h));refine⟨?_,ih⟩;have e0:=h0 e aK;obtain⟨_,_,t0,te⟩:=vr (ht e aK);have:=r9 hr m 1 e t0;have ex:=p_ e0;rw[ex] at e0;have:=this e0;show gK ⟨n,(gu a m e).1⟩ (eP a r m e).1=true;rw[ex,te];exact Ep this
theorem AT{cs:List CD}:∀{names:List ByteArray}{acc l:List CD},jQ cs acc names=some l->l=acc++names.map (λn=>cs.getD ((ef cs n).getD 0) ⟨⟨#[]⟩,0⟩)/\∀n∈names,(ef cs n).isSome=true
 | [],acc,l,h=>by unfold jQ at h;obtain rfl:=bJ h;simp
 |n:: r,acc,l,h=>by
  unfold jQ at h;rcases hp:ef cs n with _|i
  ·rw[hp] at h;cases h
  rw[hp] at h;obtain⟨h1,h2⟩:=AT h;refine⟨?_,λx hx=> ?_⟩
  ·rw[h1,cx,hp];simp
  rcases aR.1 hx with rfl | hx
  ·rw[hp];rfl
  exact h2 x hx
theorem Bm{cs:List CD}:∀{aggs:List AG}{acc:List CD},(jP cs acc aggs).1=0->(jP cs acc aggs).2=acc++aggs.map (λa=>⟨a.name,(fU cs a).1⟩)/\∀a∈aggs,(fU cs a).2=0
 | [],acc,_=>by unfold jP;simp
 |a:: r,acc,h=>by
  unfold jP at h ⊢;by_cases h0:(fU cs a).2=0
  ·rw[ae h0] at h ⊢;obtain⟨h1,h2⟩:=Bm h;refine⟨by rw[h1];simp,λx hx=> ?_⟩;rcases aR.1 hx with rfl|hx
   ·exact h0
   exact h2 x hx
  rw[ab h0] at h;exact absurd h h0
theorem vQ{cs:List CD}{names:List ByteArray}{aggs:List AG}(h:(g_ cs names aggs).1=0):(g_ cs names aggs).2=names.map (λn=>cs.getD ((ef cs n).getD 0) ⟨⟨#[]⟩,0⟩)++aggs.map (λa=>⟨a.name,(fU cs a).1⟩)/\(∀n∈names,(ef cs n).isSome=true)/\∀a∈aggs,(fU cs a).2=0:=by
 unfold g_ at h ⊢;rcases hg:jQ cs [] names with _|l
 ·rw[hg] at h;exact absurd (show (13:Int)=0 from h) (by decide)
 rw[hg] at h;obtain⟨h1,h2⟩:=AT hg;obtain⟨h3,h4⟩:=Bm h;exact⟨by dsimp only;rw[h3,h1];simp,h2,h4⟩
theorem sZ{cs:List CD}{a:AG}(h:(fU cs a).2=0):iz fy a.op=true/\((a.col=⟨#[]⟩/\a.op=iM/\(fU cs a).1=1)\/(a.col≠⟨#[]⟩/\∃i,ef cs a.col=some i/\(fU cs a).1=if a.op=gB\/a.op=gZ then (cs.getD i ⟨⟨#[]⟩,0⟩).typ else 1)):=by
 unfold fU at h ⊢;by_cases h1:iz fy a.op=false
 ·rw[ae h1] at h;exact absurd h (by decide)
 rw[ab h1] at h ⊢;refine⟨by simpa using h1, ?_⟩;by_cases h2:a.col=⟨#[]⟩
 ·rw[ae h2] at h ⊢;by_cases h3:a.op=iM
  ·rw[ae h3];exact .inl ⟨h2,h3,rfl⟩
  rw[ab h3] at h;exact absurd h (by decide)
 rw[ab h2] at h ⊢;refine .inr ⟨h2, ?_⟩;unfold fA at h ⊢;rcases hp:ef cs a.col with _|i
 ·rw[hp] at h;exact absurd (show (13:Int)=0 from h) (by decide)
 rw[hp] at h;rw[Option.map_some] at h ⊢;refine⟨i,rfl, ?_⟩;dsimp only at h ⊢;by_cases h3:a.op=iD/\(cs.getD i ⟨⟨#[]⟩,0⟩).typ=2
 ·rw[ae h3] at h;exact absurd h (by decide)
 rw[ab h3];split<;>rfl
theorem Eg(up:Bool)(a:VD)(l:List VD):gX up (a:: l)∈a:: l:=by
 show l.foldl (λm v=>if jF up v m then v else m) a∈a:: l;have key:∀(r:List VD)(m:VD),m∈a:: l->(∀v∈r,v∈a:: l)->r.foldl (λm v=>if jF up v m then v else m) m∈a:: l:=by
  intro r;induction r with
  |nil=>intro m h _;exact h
  |cons x r ih =>
   intro m hm hr
   rw[bX]
   refine ih _ ?_ λv hv=>hr v (aP _ hv)
   split
   ·exact hr x aK
   ·exact hm
 exact key l a aK λv hv=>aP _ hv
theorem tA{s:ByteArray}(h:iz fy s=true):s=iM\/s=iD\/s=gB\/s=gZ:=by unfold iz fy at h;unfold iM iD gB gZ;simpa using h
theorem Ev{cs:List CD}{a:AG}(h:(fU cs a).2=0){rows:List (List VD)}(hr:∀ r∈rows,it cs r)(h0:(eY cs a rows).1=0):gK ⟨a.name,(fU cs a).1⟩ (eY cs a rows).2=true:=by
 obtain⟨h1,h2⟩:=sZ h;have nC:¬(iM=gB\/iM=gZ):=by decide
 have nS:¬(iD=gB\/iD=gZ):=by decide
 unfold eY at h0 ⊢;rw[fi] at h0 ⊢;rcases h2 with ⟨h2,h3,h4⟩|⟨h2,i,hi,h4⟩
 ·rw[aF h2,ae rfl,h4];exact py _ _
 rw[aC h2,ab (by decide)] at h0 ⊢;rw[hi] at h0 ⊢;rw[dO] at h0 ⊢;rw[h4];unfold i8 at h0 ⊢;by_cases c1:a.op=iM
 ·rw[ae c1,c1,ab nC];exact py _ _
 rw[ab c1] at h0 ⊢;by_cases c2:(jz i rows).length=0
 ·rw[ae c2];exact s9 _
 rw[ab c2] at h0 ⊢;by_cases c3:a.op=iD
 ·rw[ae c3] at h0 ⊢;rw[c3,ab nS];unfold j9 at h0 ⊢;split
  ·exact py _ _
  exact s9 _
 have cm:a.op=gB\/a.op=gZ:=by
  rcases tA h1 with q|q|q
  ·exact absurd q c1
  ·exact absurd q c3
  exact q
 rw[ab c3,ae cm];have hm:gX (!decide (a.op=gB)) (jz i rows)∈jz i rows:=by
  cases hn:jz i rows with
  |nil=>rw[hn] at c2;exact absurd rfl c2
  |cons x l=>exact Eg _ x l
 obtain⟨r,hrm,hv⟩:=oE hm;dsimp only;rw[hv];exact(hr r hrm).at_ i (eS hi)
theorem Am{a:List CD}{ra:List (List VD)}{names:List ByteArray}{aggs:List AG}(ha:∀ r∈ra,it a r)(hg:(g_ a names aggs).1=0)(h0:(li a names aggs ra).1=0):∀r∈(li a names aggs ra).2,it (g_ a names aggs).2 r:=λr hr=>by
 obtain⟨g1,g2,g3⟩:=vQ hg;rw[g1];unfold li at h0 hr;split at h0
 ·rename_i he;rw[ae he] at hr;obtain⟨K,hK,rfl⟩:=aJ.1 hr;have hk:=kV he K hK;have hK:=(iN _).1.mem_iff.1 hK;unfold kA;refine it.append ?_ ?_
  ·have key:∀K∈iB ra (ea a names) ra.length,it (names.map λn=>a.getD ((ef a n).getD 0) ⟨⟨#[]⟩,0⟩) K:=λK hK=>by obtain⟨i,hi,rfl⟩:=aJ.1 hK;have hil:=q_ hi;rw[show ra.getD i []=ra[i] by simp[List.getD,hil]];unfold eE ea;rw[cC];refine it.map λn hn=>(ha _ (am hil)).at_ _ ?_;obtain⟨j,hj⟩:=Option.isSome_iff_exists.1 (g2 n hn);rw[hj];exact eS hj
   unfold gY at hK;split at hK
   ·rename_i h;rw[aI.1 hK,aV h.1];trivial
   exact key K hK
  unfold oF;rw[cC];refine it.map λx hx=>Ev (g3 x hx) (λr hr=>ha r (ri hr)) ?_;unfold jg oF at hk;exact kV hk _ (aJ.2 ⟨x,hx,rfl⟩)
 rename_i he;exact absurd h0 he
end
section
open Go.RowKit
theorem pT{α β:Type}(g:β->Int)(f:α->β):∀l:List α,fH g (l.map f)=fH (λa=>g (f a)) l
 | []=>rfl
 |a:: l=>by rw[cx,fH,fH,pT g f l]
theorem r6{α:Type}{g h:α->Int}:∀{l:List α},(∀x∈l,g x=h x)->fH g l=fH h l
 | [],_=>rfl
 |a:: l,q=>by rw[fH,fH,r6 (λx hx=>q x (aP _ hx)),q a aK]
theorem oz{α:Type}{g:α->Int}:∀{l:List α},(∀x∈l,g x=0\/g x=10)->(fH g l=0/\∀x∈l,g x=0)\/(fH g l=10/\∃x∈l,g x=10)
 | [],_=>.inl ⟨rfl,by simp⟩
 |a:: l,q=>by
  rw[fH];rcases q a aK with h|h
  ·rw[ae h];rcases oz (λx hx=>q x (aP _ hx)) with ⟨h1,h2⟩ | ⟨h1,x,hx,h2⟩
   ·exact .inl ⟨h1,λx hx=>by
    rcases aR.1 hx with rfl|hx
    ·exact h
    exact h2 x hx⟩
   exact .inr ⟨h1,x,aP _ hx,h2⟩
  rw[ab (by omega)];exact .inr ⟨h,a,aK,h⟩
theorem AB{α:Type}{g:α->Int}{l1 l2:List α}(hp:l1.Perm l2)(q:∀ x∈l1,g x=0\/g x=10):fH g l1=fH g l2:=by
 rcases oz q with ⟨h1,h2⟩ | ⟨h1,x,hx,h2⟩<;>rcases oz (λx hx=>q x (hp.mem_iff.2 hx)) with ⟨h3,h4⟩ | ⟨h3,y,hy,h4⟩
 ·rw[h1,h3]
 ·have:=h2 y (hp.mem_iff.2 hy);omega
 ·have:=h4 x (hp.mem_iff.1 hx);omega
 rw[h1,h3]
theorem EJ(cs:List CD)(a:AG)(g:List (List VD)):(eY cs a g).1=0\/(eY cs a g).1=10:=by
 unfold eY;split
 ·exact .inl rfl
 unfold i8;split
 ·exact .inl rfl
 split
 ·exact .inl rfl
 split
 ·unfold j9;split
  ·exact .inl rfl
  exact .inr rfl
 exact .inl rfl
theorem C7(cs:List CD)(aggs:List AG)(g:List (List VD)):ly cs aggs g=0\/ly cs aggs g=10:=by
 unfold ly;rcases oz (g:=λa=>(eY cs a g).1) (l:=aggs) (λa _=>EJ cs a g) with h | h
 ·exact .inl h.1
 exact .inr h.1
theorem CH{rows:List (List VD)}(hr:lW rows)(at_:List Nat):nK at_ rows=(iB rows at_ rows.length).map λK=>kX rows at_ (fY K):=by have h:=uk hr at_ rows.length (aL _);rw[aH] at h;rw[h];unfold iB;rw[cC];rfl
theorem Cs{rows:List (List VD)}{at_:List Nat}(h:iB rows at_ rows.length=[]):rows=[]:=by
 cases rows with
 |nil=>rfl
 |cons r l =>
  exfalso
  have:0∈ie (eF (r:: l) at_) (r:: l).length:=bE.2 ⟨a_.2 (by simp),aF (λj hj=>by omega)⟩
  unfold iB at h
  rw[List.map_eq_nil_iff] at h
  rw[h] at this
  simp at this
theorem wG{rows:List (List VD)}(hr:lW rows)(cs:List CD)(names:List ByteArray):iF cs names rows=(gY names.length rows (ea cs names)).map λK=>kX rows (ea cs names) (fY K):=by
 unfold iF gY;rw[CH hr];have hn:((iB rows (ea cs names) rows.length).map λK=>kX rows (ea cs names) (fY K))=[] ↔ iB rows (ea cs names) rows.length=[]:=List.map_eq_nil_iff;by_cases h:names.length=0/\iB rows (ea cs names) rows.length=[]
 ·rw[ae ⟨h.1,hn.2 h.2⟩,ae h];obtain rfl:=Cs h.2;rfl
 rw[ab (λq=>h ⟨q.1,hn.1 q.2⟩),ab h]
theorem BI{rows:List (List VD)}(cs:List CD)(names:List ByteArray){K:List VD}(hK:K∈gY names.length rows (ea cs names)):eE ((kX rows (ea cs names) (fY K)).headD []) (ea cs names)=K:=by
 unfold gY at hK;split at hK
 ·rename_i h;rw[aI.1 hK];have:ea cs names=[]:=by rw[aV h.1];rfl
  rw[this];rfl
 unfold iB at hK;obtain⟨i,hi,rfl⟩:=aJ.1 hK;obtain⟨t,ht⟩:=ut hi;have:kX rows (ea cs names) (fY (eE (rows.getD i []) (ea cs names)))=rows.getD i []:: t.map λj=>rows.getD j []:=by unfold kX;have e:fY (eE (rows.getD i []) (ea cs names))=eF rows (ea cs names) i:=rfl;rw[e,ht];rfl
 rw[this];rfl
theorem AM{rows:List (List VD)}(hr:lW rows)(cs:List CD)(names:List ByteArray)(aggs:List AG): (pe cs names aggs rows).1=(li cs names aggs rows).1/\((li cs names aggs rows).1=0->(pe cs names aggs rows).2.Perm (li cs names aggs rows).2):=by
 have hW:∀K∈gY names.length rows (ea cs names),ly cs aggs (kX rows (ea cs names) (fY K))=jg cs aggs rows (ea cs names) K:=λK _=>by unfold ly jg oF;rw[pT]
 have hR:∀K∈gY names.length rows (ea cs names),lR cs (ea cs names) aggs (kX rows (ea cs names) (fY K))=kA cs aggs rows (ea cs names) K:=λK hK=>by unfold lR kA oF;rw[BI cs names hK,cC];rfl
 have hp:(fF (gY names.length rows (ea cs names))).Perm (gY names.length rows (ea cs names)):=(iN _).1;have he:fH (ly cs aggs) (iF cs names rows)=fH (jg cs aggs rows (ea cs names)) (fF (gY names.length rows (ea cs names))):=by rw[wG hr,pT,r6 hW];exact AB hp.symm (λK hK=>by rw[<- hW K hK];exact C7 _ _ _)
 have hm:(iF cs names rows).map (lR cs (ea cs names) aggs)=(gY names.length rows (ea cs names)).map (kA cs aggs rows (ea cs names)):=by rw[wG hr,cC];exact List.map_congr_left hR
 unfold pe li;rw[he];by_cases h0:fH (jg cs aggs rows (ea cs names)) (fF (gY names.length rows (ea cs names)))=0
 ·rw[ae h0,ae h0];refine⟨rfl,λ_=> ?_⟩;dsimp only;rw[hm];exact(hp.map _).symm
 rw[ab h0,ab h0];exact⟨rfl,λh=>absurd h h0⟩
end
section
open Go.RowKit
theorem LrOk.of{a b:List CD}{ra rb:List (List VD)}(h1:TbOk a ra)(h2:TbOk b rb):LrOk a ra b rb:=
 ⟨by have:=h1.n;omega,by have:=h1.m;omega,by have:=h2.n;omega,by have:=h2.m;omega,h1.cols,h1.rok,h2.rok,λr hr=>by have:=(h1.r r hr).1;omega,λr hr=>by have:=(h2.r r hr).1;omega⟩
def mZ{m:Nat}(d:PD m)(a:List CD)(ra:List (List VD))(b:List CD)(rb:List (List VD)):Int × List (List VD):=
 if d.kind=2 then gP a d.cond ra else if d.kind=3 then ja a d.exprs ra
 else if d.kind=4\/d.kind=5 then (0,pa ra rb (ea a (d.on.map (·.1))) (ea b (d.on.map (·.2))) (decide (d.kind=5)) b.length)
 else if d.kind=6 then pe a d.names d.aggs ra else if d.kind=7 then (0,ra++rb) else if d.kind=8 then (0,sQ ra) else (0,sC ra (ea a (d.by_.map (·.1))) (d.by_.map (·.2)) d.count)
theorem th{cs:List CD}{rows:List (List VD)}(h:∀ r∈rows,it cs r):lW rows:=λr hr=>by
 have key:∀(cs:List CD)(r:List VD),it cs r->∀v∈r,v.right=true:=by
  intro cs;induction cs with
  |nil=>intro r h;cases r with
   |nil=>simp
   |cons=>exact h.elim
  |cons c cs ih=>intro r h;cases r with
   |nil=>exact h.elim
   |cons v r =>
    intro x hx
    rcases aR.1 hx with rfl|hx
    ·have:=h.1;unfold gK at this;rw[bh] at this;exact this.1
    ·exact ih r h.2 x hx
 exact key cs r (h r hr)
theorem En(cs:List CD)(os:List (ByteArray × Bool))(rows:List (List VD))(count:Int)(hc:0<=count)(h:rows.Pairwise fun a b=>ej a b<=0):(∀r∈j2 cs os rows count.toNat,r∈rows)/\(j2 cs os rows count.toNat).length<=rows.length:=by
 have hp:=vh cs os rows count hc h;rw[qE] at hp;refine⟨λr hr=> ?_, ?_⟩
 ·obtain⟨i,hi,rfl⟩:=aJ.1 (hp.mem_iff.2 hr);have hi:=a_.1 (bE.1 hi).1;rw[show rows.getD i []=rows[i] by simp[List.getD,hi]];exact am hi
 rw[<- hp.length_eq,ay];refine bm (bP _ _) ?_;rw[cH];exact aL _
theorem va:∀{l:List (Int × Int)},jB l=0->∀v∈l,v.2=0
 | [],_,v,hv=>absurd hv (by simp)
 |a:: r,h,v,hv=>by
  unfold jB at h;by_cases h0:a.2=0
  ·rw[ae h0] at h;rcases aR.1 hv with rfl|hv
   ·exact h0
   exact va h v hv
  rw[ab h0] at h;exact absurd h h0
theorem oG{k:Int}(h:eN k=1\/eN k=2):k=2\/k=3\/k=4\/k=5\/k=6\/k=7\/k=8\/k=9:=by
 unfold eN at h;split at h
 ·omega
 split at h<;>omega
theorem sH{cs:List CD}{os:List (ByteArray × Bool)}{c:Int}(h:j0 cs os c=0):0<=c/\∀p∈os,∃i,ef cs p.1=some i:=by
 unfold j0 at h;by_cases h1:c<0
 ·rw[ae h1] at h;exact absurd h (by decide)
 rw[ab h1] at h;by_cases h2:os.all (λp=>(ef cs p.1).isSome)=true
 ·exact⟨by omega,λp hp=>Option.isSome_iff_exists.1 (bU.1 h2 p hp)⟩
 rw[ab h2] at h;exact absurd h (by decide)
theorem xG{a b:List CD}:∀{l:List (ByteArray × ByteArray)},jD a b l=0->∀o∈l,∃i j,ef a o.1=some i/\ef b o.2=some j
 | [],_,o,ho=>absurd ho (by simp)
 |p:: r,h,o,ho=>by
  unfold jD fA at h;rcases h1:ef a p.1 with _|i
  ·rw[h1] at h;exact absurd (show (13:Int)=0 from h) (by decide)
  rcases h2:ef b p.2 with _|j
  ·rw[h1,h2] at h;exact absurd (show (13:Int)=0 from h) (by decide)
  rw[h1,h2] at h;dsimp only[Option.map_some] at h;split at h
  ·rcases aR.1 ho with rfl | ho
   ·exact⟨i,j,h1,h2⟩
   exact xG h o ho
  exact absurd h (by decide)
theorem Do{a b:List CD}{l:List (ByteArray × ByteArray)}(h:iY a b l=0):∀o∈l,∃i j,ef a o.1=some i/\ef b o.2=some j:=by
 unfold iY at h;split at h
 ·exact absurd h (by decide)
 exact xG h
section
variable {m:Nat} {d:PD m} {a b:List CD} {ra rb:List (List VD)}
theorem it.len:∀{cs:List CD}{r:List VD},it cs r->r.length=cs.length
 | [],[],_=>rfl
 | _:: _,_:: _,h=>bf Nat.succ h.2.len
theorem tp(hk:d.kind≠1)(h0:(fE d a ra b rb).1=0)(ha:TbOk a ra)(hb:TbOk b rb):(mZ d a ra b rb).1=(f7 d a ra b rb).1/\((f7 d a ra b rb).1=0->(mZ d a ra b rb).2.Perm (f7 d a ra b rb).2):=by
 obtain⟨hn,hca,hcb,hkz, -, -⟩:=iU hk h0;obtain⟨fa,sa⟩:=gy hca;have ra_:=th (jT fa);unfold mZ f7;rcases oG hn with q|q|q|q|q|q|q|q
 ·rw[ae q,ae q];exact⟨rfl,λ_=>.refl _⟩
 ·rw[ab (by omega),ae q,ab (by omega),ae q];exact⟨rfl,λ_=>.refl _⟩
 ·have fb:=(gy (hcb (by rw[q];rfl))).1;rw[ab (by omega),ab (by omega),ae (by omega),ab (by omega),ab (by omega),ae (by omega),u6 _ _ _ _ _ _ (by unfold ea;simp) ra_ (th (jT fb))];unfold kN;have:=u7 (decide (d.kind=5)) b.length ra rb (ea a (d.on.map (·.1))) (ea b (d.on.map (·.2)));have:ra.length*(rb.length+1)<=30*31:=Nat.mul_le_mul ha.m (by have:=hb.m;omega);rw[ab (by omega)];exact⟨rfl,λ_=>.refl _⟩
 ·have fb:=(gy (hcb (by rw[q];rfl))).1;rw[ab (by omega),ab (by omega),ae (by omega),ab (by omega),ab (by omega),ae (by omega),u6 _ _ _ _ _ _ (by unfold ea;simp) ra_ (th (jT fb))];unfold kN;have:=u7 (decide (d.kind=5)) b.length ra rb (ea a (d.on.map (·.1))) (ea b (d.on.map (·.2)));have:ra.length*(rb.length+1)<=30*31:=Nat.mul_le_mul ha.m (by have:=hb.m;omega);rw[ab (by omega)];exact⟨rfl,λ_=>.refl _⟩
 ·rw[ab (by omega),ab (by omega),ab (by omega),ae q,ab (by omega),ab (by omega),ab (by omega),ae q];exact AM ra_ a d.names d.aggs
 ·rw[ab (by omega),ab (by omega),ab (by omega),ab (by omega),ae q,ab (by omega),ab (by omega),ab (by omega),ab (by omega),ae q];exact⟨rfl,λ_=>.refl _⟩
 ·rw[ab (by omega),ab (by omega),ab (by omega),ab (by omega),ab (by omega),ae q,ab (by omega),ab (by omega),ab (by omega),ab (by omega),ab (by omega),ae q];exact⟨rfl,λ_=>DQ ra (lE sa)⟩
 rw[ab (by omega),ab (by omega),ab (by omega),ab (by omega),ab (by omega),ab (by omega),ab (by omega),ab (by omega),ab (by omega),ab (by omega),ab (by omega),ab (by omega)];have e:eR d a b=(j0 a d.by_ d.count,a):=by unfold eR;rw[ab (by omega),ab (by omega),ab (by omega),ab (by omega),ab (by omega),ab (by omega)]
 rw[e] at hkz;exact⟨rfl,λ_=>vh a d.by_ ra d.count (sH hkz).1 (lE sa)⟩
theorem DO(hk:d.kind≠1)(h0:(fE d a ra b rb).1=0)(ha:TbOk a ra)(hb:TbOk b rb)(hr:(f7 d a ra b rb).1=0):e_ (eR d a b).2 (f7 d a ra b rb).2=0:=by
 obtain⟨hn,hca,hcb,hkz,hcv, -⟩:=iU hk h0;have fa:=(gy hca).1;have Fa:=jT fa;have fb:eN d.kind=2->e_ b rb=0:=λq=>(gy (hcb q)).1;unfold f7 at hr ⊢;unfold eR at hkz hcv ⊢;rcases oG hn with q|q|q|q|q|q|q|q
 ·rw[ae q] at *;rw[ae q];exact mV fa (λr hr=>lp hr) (nD _)
 ·rw[ab (by omega),ae q] at hr hkz hcv ⊢;rw[ab (by omega),ae q];unfold kh at hkz hcv ⊢;unfold ja at hr ⊢;by_cases e1:d.names.length=(d.exprs.map (gu a m)).length
  ·rw[ae e1] at hkz hcv ⊢;by_cases e2:jB (d.exprs.map (gu a m))=0
   ·rw[ae e2] at hkz hcv ⊢;by_cases e3:jL ((fP d.names (d.exprs.map (gu a m))).map (·.typ)) 0=true
    ·rw[ae e3] at hkz;exact absurd (show (12:Int)=0 from hkz) (by decide)
    rw[ab e3] at hcv ⊢;by_cases e4:fH (io a d.exprs) ra=0
    ·rw[ae e4];refine nY hcv (by dsimp only;rw[ay];have:=ha.m;omega) λr hr=> ?_;obtain⟨p,hp,rfl⟩:=aJ.1 hr;refine vD (by rw[e1,ay]) (λe he=>va e2 _ (aJ.2 ⟨e,he,rfl⟩)) p ((nt a p).2 (Fa p hp)) (λe he=> ?_) (λc hc=> ?_)
     ·have:=kV e4 p hp;unfold io at this;exact kV this e he
     obtain⟨j,hj,rfl⟩:=aU.1 hc;exact((mE hcv).2.2 j hj).2
    rw[ab e4] at hr;exact absurd hr e4
   rw[ab e2] at hkz;exact absurd hkz e2
  rw[ab e1] at hkz;exact absurd (show (20:Int)=0 from hkz) (by decide)
 ·rw[ab (by omega),ab (by omega),ae (by omega)] at hr hkz hcv ⊢;rw[ab (by omega),ab (by omega),ae (by omega)];have fb:=jT (fb (by rw[q];rfl));unfold kN at hr ⊢;split at hr
  ·exact absurd (show (31:Int)=0 from hr) (by decide)
  rename_i hl;rw[ab hl];exact nY hcv (by dsimp only;omega) (uT _ _ _ Fa fb)
 ·rw[ab (by omega),ab (by omega),ae (by omega)] at hr hkz hcv ⊢;rw[ab (by omega),ab (by omega),ae (by omega)];have fb:=jT (fb (by rw[q];rfl));unfold kN at hr ⊢;split at hr
  ·exact absurd (show (31:Int)=0 from hr) (by decide)
  rename_i hl;rw[ab hl];exact nY hcv (by dsimp only;omega) (uT _ _ _ Fa fb)
 ·rw[ab (by omega),ab (by omega),ab (by omega),ae q] at hr hkz hcv ⊢;rw[ab (by omega),ab (by omega),ab (by omega),ae q];refine nY hcv ?_ (Am Fa hkz hr);unfold li;split
  ·dsimp only;rw[ay,(iN _).1.length_eq];unfold gY;have:=ha.m;split
   ·simp
   have:=xR ra (ea a d.names) ra.length;omega
  simp
 ·have fb:=jT (fb (by rw[q];rfl));by_cases he:iH a b=true
  ·rw[ae he,ab (by omega),ab (by omega),ab (by omega),ab (by omega),ae q] at hcv ⊢;rw[ab (by omega),ab (by omega),ab (by omega),ab (by omega),ae q];obtain rfl:=(oZ a b).1 he;refine nY hcv (by dsimp only;rw[az];have:=ha.m;have:=hb.m;omega) λr hr=> ?_;rcases aZ.1 hr with h|h
   ·exact Fa r h
   exact fb r h
  rw[ab he,ab (by omega),ab (by omega),ab (by omega),ab (by omega),ae q] at hkz;exact absurd (show (12:Int)=0 from hkz) (by decide)
 ·rw[ab (by omega),ab (by omega),ab (by omega),ab (by omega),ab (by omega),ae q];rw[ab (by omega),ab (by omega),ab (by omega),ab (by omega),ab (by omega),ae q];have hl:(gJ ra).length<=ra.length:=ti ra;exact mV fa (λr hr=>mN hr) hl
 rw[ab (by omega),ab (by omega),ab (by omega),ab (by omega),ab (by omega),ab (by omega)];rw[ab (by omega),ab (by omega),ab (by omega),ab (by omega),ab (by omega),ab (by omega)];rw[ab (by omega),ab (by omega),ab (by omega),ab (by omega),ab (by omega),ab (by omega)] at hkz;obtain⟨f1,f2⟩:=En a d.by_ ra d.count (sH hkz).1 (lE (gy hca).2);exact mV fa f1 f2
theorem qx(hk:d.kind≠1)(h0:(fE d a ra b rb).1=0):fK d a ra b rb=if (f7 d a ra b rb).1=0 then (if e_ (eR d a b).2 (f7 d a ra b rb).2=0 then (0,(eR d a b).2,fF (f7 d a ra b rb).2) else (e_ (eR d a b).2 (f7 d a ra b rb).2,[],[])) else ((f7 d a ra b rb).1,[],[]):=by
 obtain⟨hn, -, -, -, -, -⟩:=iU hk h0;unfold fK;rcases hn with q|q
 ·rw[ab (by omega),nA q a b,zJ q a ra b rb];rfl
 rw[ae q];rfl
theorem Ei(hk:d.kind≠1)(ha:TbOk a ra)(hb:TbOk b rb)(h0:(fE d a ra b rb).1=0)(h1:(mZ d a ra b rb).1≠0):fK d a ra b rb=((mZ d a ra b rb).1,[],[]):=by have hs:=(tp hk h0 ha hb).1;rw[qx hk h0,hs,ab (hs ▸ h1)]
theorem Cl(hk:d.kind≠1)(hd:d.Fine)(ha:TbOk a ra)(hb:TbOk b rb)(h0:(fE d a ra b rb).1=0)(h1:(mZ d a ra b rb).1=0): (fK d a ra b rb).1=0/\(fK d a ra b rb).2.1=(fE d a ra b rb).2/\ft (fK d a ra b rb).2.1 (fK d a ra b rb).2.2=0/\fe (fK d a ra b rb).2.2/\gR (fK d a ra b rb).2.2/\fe (mZ d a ra b rb).2/\(fK d a ra b rb).2.2.length<=100000/\(∀c∈(fE d a ra b rb).2,c.Ok)/\(fE d a ra b rb).2.length<=1000000/\∀P:List RP,P.map (·.2)=(mZ d a ra b rb).2->(gz P).map (·.2)=(fK d a ra b rb).2.2:=by
 obtain⟨hn,hca,hcb,hkz,hcv,ht⟩:=iU hk h0;obtain⟨hs,hp⟩:=tp hk h0 ha hb;have hr:(f7 d a ra b rb).1=0:=hs ▸ h1;have hp:=hp hr;have hf:=DO hk h0 ha hb hr;have hbd:=nZ d hd a ra b rb (ha.gd hca) (λq=>hb.gd (hcb q));have hko:=ou hd (b:=b) ha.n hb.n ha.c hb.c;have e:fK d a ra b rb=fu [] (eR d a b).2 (f7 d a ra b rb):=qx hk h0;have z:(fu [] (eR d a b).2 (f7 d a ra b rb)).1=0:=by rw[<- e,qx hk h0,ae hr,ae hf]
 obtain⟨g,hc,hcs⟩:=rI hko.1 hbd z;rw[<- e] at g hc hcs;have e2:(fK d a ra b rb).2.2=fF (f7 d a ra b rb).2:=by rw[qx hk h0,ae hr,ae hf]
 have hsr:=iN (f7 d a ra b rb).2;refine⟨by rw[e];exact z,by rw[ht,hcs],hc,g.rok,g.rle,λr hr=>hbd.rok r (hp.mem_iff.1 hr),by have:=g.m;omega,λc hc=> ?_, ?_,λP hP=> ?_⟩
 ·rw[ht] at hc;exact CD.ok_w (hko.1 c hc).1 (hko.1 c hc).2
 ·rw[ht];have:=hko.2;show (eR d a b).2.length<=_;omega
 rw[e2];exact Bu hP ⟨hsr.1.trans hp.symm,hsr.2⟩
theorem CF(hk:d.kind≠1)(hd:d.Fine)(ha:TbOk a ra)(hb:TbOk b rb)(h0:(fE d a ra b rb).1=0)(x:PC)(sx rx sy ry:SL)(SS:Option Addr)(ssn ssc:Nat)(w:World)(hxk:x.kind=d.kind)(hP:PlanAt w x d)(hX:TabAt w sx rx a ra)(hY:TabAt w sy ry b rb): Calls Tryz.prog 21 #[x.val,.agg #[.slice sx.A sx.n sx.c,.slice rx.A rx.n rx.c],.agg #[.slice sy.A sy.n sy.c,.slice ry.A ry.n ry.c],.slice SS ssn ssc] w (eX (mZ d a ra b rb) w):=by
 obtain⟨hn,hca,hcb,hkz, -, -⟩:=iU hk h0;have fa:=jT (gy hca).1;have la:∀r∈ra,r.length=a.length:=λr hr=>(fa r hr).len;have hsm:=hd.sm;unfold eR at hkz;unfold mZ;refine AF x d sx rx sy ry a b ra rb SS ssn ssc w hP hX hY (LrOk.of ha hb) _ ?_;rcases oG hn with q|q|q|q|q|q|q|q
 ·rw[ae q];exact .inr (.inr (.inr (.inr (.inl ⟨hxk.trans q,rfl,by have:=hsm.c;omega,ld (λq hq=>by have:=hq.v.t;omega) m d.cond hd.c⟩))))
 ·rw[ab (by omega),ae q];exact .inr (.inr (.inr (.inr (.inr (.inl ⟨hxk.trans q,rfl,by have:=hsm.e;omega,λe he=>by have:=hsm.x e he;omega,λe he=>ld (λq hq=>by have:=hq.v.t;omega) m e (hd.x e he)⟩)))))
 rotate_left 2
 ·rw[ab (by omega),ab (by omega),ab (by omega),ae q] at hkz ⊢;obtain⟨-,g2,g3⟩:=vQ hkz;refine .inr (.inr (.inr (.inr (.inr (.inr ⟨hxk.trans q,rfl,by have:=hsm.n;omega,by have:=hsm.a;omega,g2,λi hi r hr=> ?_,λg hg=>tA (sZ (g3 g hg)).1,λg hg hc=> ?_⟩)))))
  ·obtain⟨n,hn,rfl⟩:=aJ.1 hi;obtain⟨j,hj⟩:=Option.isSome_iff_exists.1 (g2 n hn);rw[hj,la r hr];exact eS hj
  rw[fi] at hc;rcases(sZ (g3 g hg)).2 with ⟨h2, -⟩|⟨-,i,hi, -⟩
  ·exact absurd h2 (of_decide_eq_false hc)
  exact⟨i,hi,λr hr=>by rw[la r hr];exact eS hi⟩
 ·rw[ab (by omega),ab (by omega),ab (by omega),ab (by omega),ae q];exact .inl ⟨hxk.trans q,rfl⟩
 ·rw[ab (by omega),ab (by omega),ab (by omega),ab (by omega),ab (by omega),ae q];exact .inr (.inl ⟨hxk.trans q,rfl⟩)
 ·rw[ab (by omega),ab (by omega),ab (by omega),ab (by omega),ab (by omega),ab (by omega)] at hkz ⊢;refine .inr (.inr (.inl ⟨hxk.trans q,rfl,by have:=hsm.b;omega,λo ho=> ?_⟩));obtain⟨i,hi⟩:=(sH hkz).2 o ho;exact⟨i,hi,λr hr=>by rw[la r hr];exact eS hi⟩
 all_goals
 have fb:=jT (gy (hcb (by rw[q];rfl))).1;rw[ab (by omega),ab (by omega),ae (by omega)] at hkz ⊢;have hon:d.on.length<=1000/\∀o∈d.on,∃i j,ef a o.1=some i/\ef b o.2=some j/\(∀r∈ra,i<r.length)/\∀r∈rb,j<r.length:=⟨by have:=hsm.o;omega,λo ho=>by obtain⟨i,j,h1,h2⟩:=Do hkz o ho;exact⟨i,j,h1,h2,λr hr=>by rw[la r hr];exact eS h1,λr hr=>by rw[(fb r hr).len];exact eS h2⟩⟩
 refine .inr (.inr (.inr (.inl ?_)));rw[q];first
  |exact .inl ⟨hxk.trans q,rfl,hon⟩
  |exact .inr ⟨hxk.trans q,rfl,hon⟩
end
theorem FB{m:Nat}(x:PC)(d:PD m)(sx rx sy ry:SL)(a b:List CD)(ra rb:List (List VD))(w:World)(hP:PlanAt w x d)(hX:TabAt w sx rx a ra)(hY:TabAt w sy ry b rb)(hd:d.In)(hta:TbIn a ra)(htb:TbIn b rb)(hG:gm w)(hPw:iT w): Calls Tryz.prog 5 #[kC x sx rx sy ry] w λe w'=>e=.returned (.bool true)/\Touch [] w w':=by
 rcases Bool.eq_false_or_eq_true (gO a ra) with h1|h1
 ·rcases Bool.eq_false_or_eq_true (gO b rb) with h2 | h2
  ·rcases Bool.eq_false_or_eq_true (j6 d) with h3 | h3
   ·by_cases h4:d.kind=1
    ·exact FJ x d sx rx sy ry a b ra rb w hP hX hY hd hta htb hG hPw h1 h2 h3 h4
    have hf:=hd.fine5 (pQ h3);have ka:=hta.tb h1;have kb:=htb.tb h2;exact FZ x d sx rx sy ry a b ra rb w hP hX hY hd hta htb hG hPw h1 h2 h3 h4 (mZ d a ra b rb) (λy SS ssn ssc w' hy hP' hX' hY' h0=>CF h4 hf ka kb h0 y sx rx sy ry SS ssn ssc w' hy hP' hX' hY') (Ei h4 ka kb) (Cl h4 hf ka kb)
   exact FP x d sx rx sy ry a b ra rb w hP hX hY hd hta htb hG hPw h1 h2 h3
  exact FG x d sx rx sy ry a b ra rb w hP hX hY hd hta htb hG hPw h1 h2
 exact FK x d sx rx sy ry a b ra rb w hP hX hY hd hta htb hG hPw h1
end
section
theorem sN{H:Type}{d:DataW H}{ds gs:List (DataW H)}(h:Rows.uptoSmall H ((d:: ds)++gs)=true):Rows.uptoBulk d<=1048576:=by have h':Rows.uptoBulkAll ((d:: ds)++gs)<=1048576:=aN h;rw[List.cons_append] at h';simp only[Rows.uptoBulkAll] at h';omega
end
section
open Go.ChangeShapes Go.WideShapes Go.ChangeAt Go.RowKit
theorem FU:Tryz.prog.globalNamed "bywash/relop.needs" = some 0:=by kernel_rfl
theorem ED:(Tryz.prog.globals[0]?).map (·.type)=some 124:=by kernel_rfl
theorem Fe:Tryz.prog.cellsOf 124=10:=by kernel_rfl
theorem FA:Tryz.prog.cellsOf 3=1:=by kernel_rfl
theorem CQ {W:World} (h:laidMetH Tryz.prog [("math/bits.deBruijn32tab",Rows.laid_math_bits_deBruijn32tab),("math/bits.deBruijn64tab",Rows.laid_math_bits_deBruijn64tab),("internal/strconv.uint64pow10",Rows.laid_internal_strconv_uint64pow10),("bywash/relop.needs",Rows.laid_bywash_relop_needs)] W):gm W:=by
 have h':laidMet Tryz.prog [("math/bits.deBruijn32tab",Rows.laid_math_bits_deBruijn32tab),("math/bits.deBruijn64tab",Rows.laid_math_bits_deBruijn64tab),("internal/strconv.uint64pow10",Rows.laid_internal_strconv_uint64pow10),("bywash/relop.needs",Rows.laid_bywash_relop_needs)] W:=h;obtain⟨ps,⟨g0,t0,cs0,fuel0,p0,q0,_,_,_,_,⟨g1,t1,cs1,fuel1,p1,q1,_,_,_,_,⟨g2,t2,cs2,fuel2,p2,q2,_,_,_,_,⟨g3,t3,cs3,fuel3,p3,q3,hg,hty,hvar,hd,_⟩,_⟩,_⟩,_⟩,_⟩:=h';obtain rfl:=bJ (FU.symm.trans hg);obtain rfl:=bJ (ED.symm.trans hty);have hc:=Lib.cells_of_tab (k:=.i64) (zs:=[0,0,1,1,2,2,1,2,1,1]) Tryz.underlying124 cN FA Fe hd;have hcell:=World.var?_cell FU hvar;intro k hk;rw[hcell];have hc':cs3[k]?=(([0,0,1,1,2,2,1,2,1,1]:List Int).map λz=>Value.int .i64 z)[k]?:=by rw[<- hc];simp
 have hk':k=0\/k=1\/k=2\/k=3\/k=4\/k=5\/k=6\/k=7\/k=8\/k=9:=by omega
 rcases hk' with rfl|rfl|rfl|rfl|rfl|rfl|rfl|rfl|rfl|rfl<;>simpa [lX] using hc'
def lV:DataW Unit->List Value
 | .agg l=>l.flatMap λd=>match d with
  | .lit (.int k z)=>[.int k z]
  | _=>[]
 | _=>[]
def su(h:Array Obj)(g:Nat)(cs:List Value):Array Obj:=h.modify g λo=>match o with
 | .cells _ t frozen=>.cells cs.toArray t frozen
 |o=>o
noncomputable def pP(os:Os):World:=
 { World.holding Tryz.prog os ⟨#[],#[],[]⟩ with
  heap:=su (su (su (su (World.holding Tryz.prog os ⟨#[],#[],[]⟩).heap 3 (lV Rows.laid_math_bits_deBruijn32tab)) 4 (lV Rows.laid_math_bits_deBruijn64tab)) 2 (lV Rows.laid_internal_strconv_uint64pow10)) 0 (lV Rows.laid_bywash_relop_needs) }
end
section
open Go.ChangeShapes Go.WideShapes Go.ChangeAt Go.RowKit
theorem F2:Tryz.prog.globalNamed "internal/strconv.uint64pow10" = some 2:=by kernel_rfl
theorem E_:(Tryz.prog.globals[2]?).map (·.type)=some 267:=by kernel_rfl
theorem Fj:Tryz.prog.cellsOf 267=20:=by kernel_rfl
theorem Fx:Tryz.prog.cellsOf 184=1:=by kernel_rfl
theorem DU{H:Type}:(Rows.laid_internal_strconv_uint64pow10:DataW H)=Lib.tabData .u64 Lib.pow10Tab:=by rfl
theorem Fg {W:World} (h:laidMetH Tryz.prog [("math/bits.deBruijn32tab",Rows.laid_math_bits_deBruijn32tab),("math/bits.deBruijn64tab",Rows.laid_math_bits_deBruijn64tab),("internal/strconv.uint64pow10",Rows.laid_internal_strconv_uint64pow10),("bywash/relop.needs",Rows.laid_bywash_relop_needs)] W):iT W:=by have h':laidMet Tryz.prog [("math/bits.deBruijn32tab",Rows.laid_math_bits_deBruijn32tab),("math/bits.deBruijn64tab",Rows.laid_math_bits_deBruijn64tab),("internal/strconv.uint64pow10",Rows.laid_internal_strconv_uint64pow10),("bywash/relop.needs",Rows.laid_bywash_relop_needs)] W:=h;obtain⟨ps,⟨g0,t0,cs0,fuel0,p0,q0,_,_,_,_,⟨g1,t1,cs1,fuel1,p1,q1,_,_,_,_,⟨g2,t2,cs2,fuel2,p2,q2,hg,hty,hvar,hd,_⟩,_⟩,_⟩,_⟩:=h';obtain rfl:=bJ (F2.symm.trans hg);obtain rfl:=bJ (E_.symm.trans hty);rw[DU] at hd;have hc:=Lib.cells_of_tab (k:=.u64) (zs:=Lib.pow10Tab) Tryz.underlying267 Tryz.underlying184 Fx Fj hd;show W.var? _ _=_;rw[hvar,<- hc]
end
end Go.Proofs.YtafoklilkdnepaaGreatDoor
