/- Part 32 of the texts of this proof, one behind the other. No condition beyond those that its theorems state. -/
import Derived.Test.YtafoklilkdnepaaGreatDoorRe31
set_option linter.all false
set_option maxRecDepth 40000
set_option maxHeartbeats 25600000
namespace Go.Proofs.YtafoklilkdnepaaGreatDoor
section
open Go.RowKit
def rT(at_:List Nat)(p:RP)(g:List RP):Bool:=match g with
 |q:: _=>kK at_ q.2 p.2
 | []=>false
def ko(at_:List Nat)(p:RP)(g:List RP):List RP:=if rT at_ p g=true then g++[p] else g
def lP(at_:List Nat)(G:List (List RP))(p:RP):List (List RP):=if G.any (rT at_ p)=true then G.map (ko at_ p) else G.map (ko at_ p)++[[p]]
def kt(at_:List Nat)(P:List RP):List (List RP):=P.foldl (lP at_) []
theorem rL(at_:List Nat)(P:List RP)(p:RP):kt at_ (P++[p])=lP at_ (kt at_ P) p:=by unfold kt;rw[cX];rfl
theorem CC{at_:List Nat}{G:List (List RP)}{p:RP}{g:List RP}(h:g∈lP at_ G p):(∃x∈G,g=ko at_ p x)\/g=[p]:=by
 unfold lP at h;split at h
 ·obtain⟨x,hx,rfl⟩:=aJ.1 h;exact .inl ⟨x,hx,rfl⟩
 rcases aZ.1 h with h | h
 ·obtain⟨x,hx,rfl⟩:=aJ.1 h;exact .inl ⟨x,hx,rfl⟩
 exact .inr (by simpa using h)
theorem yX(at_:List Nat)(P:List RP):∀k,k<=P.length->(∀g∈kt at_ (P.take k),g≠[]/\g.length<=k/\∀x∈g,x∈P)/\(kt at_ (P.take k)).length<=k
 | 0,_=>by simp[kt]
 |k+1,hk=>by
  obtain⟨h1,h2⟩:=yX at_ P k (by omega);rw[au (by omega),rL];constructor
  ·intro g hg;rcases CC hg with ⟨x,hx,rfl⟩|rfl
   ·obtain⟨a1,a2,a3⟩:=h1 x hx;unfold ko;split
    ·refine⟨by simp,by rw[az,dB];omega,λy hy=> ?_⟩;rcases aZ.1 hy with q|q
     ·exact a3 y q
     rw[aI.1 q];exact am _
    exact⟨a1,by omega,a3⟩
   exact⟨by simp,by simp,λy hy=>by rw[aI.1 hy];exact am _⟩
  unfold lP;split
  ·rw[ay];omega
  rw[az,ay,dB];omega
def lL{α:Type}(f:α->α)(G:List α)(k:Nat):List α:=(G.take k).map f++G.drop k
theorem nT{α:Type}(f:α->α)(G:List α)(k:Nat):(lL f G k).length=G.length:=by unfold lL;rw[az,ay,aO,cF];omega
theorem DP{α:Type}(f:α->α)(G:List α)(k:Nat)(hk:k<G.length):(lL f G k)[k]'(by rw[nT];exact hk)=G[k]:=by unfold lL;rw[bM (by rw[ay,aO];omega)];simp[List.length_take,Nat.min_eq_left (Nat.le_of_lt hk)]
theorem AZ{α:Type}(f:α->α)(G:List α)(k:Nat)(hk:k<G.length):lL f G (k+1)=(lL f G k).set k (f G[k]):=by
 unfold lL;have hl:((G.take k).map f).length=k:=by rw[ay,aO];omega
 rw[List.set_append_right _ _ (by omega),hl,Nat.sub_self,au hk,aT,cA,bj hk];rfl
structure GP where
 A:Option Addr
 c:Nat
 l:List RP
def gE(g:GP):List Value:=[.slice g.A g.l.length g.c]
theorem ny(g:GP):(gE g).length=1:=rfl
theorem Aq(g:GP):∀u∈gE g,u.oneCell'=true:=by intro u hu;simp only[gE,List.mem_cons,List.not_mem_nil,or_false] at hu;subst hu;rfl
theorem Fk{w:World}{A:Option Addr}{gs:List GP}(h:d9 gE w A gs)(k:Nat)(hk:k<gs.length):∃bd,A=some bd/\w.cell? (bd.add k)=some (.slice gs[k].A gs[k].l.length gs[k].c):=by obtain⟨ad,b,off,e1,e2,e3⟩:=d9.cells h 1 ny (by omega) k hk;rw[bO] at e2;refine⟨ad,e1, ?_⟩;rw[e2];exact e3 0 _ rfl
theorem ep.one5{α:Type}{enc:α->List Value}(t:TypeId)(w:World)(x:α)(v:Value)(h:enc x=[v]):ep t 1 enc (w.alloc (.cells #[v] t)) (some ⟨w.heap.size,0,none⟩) 1 [x]:=
 ⟨by simp[h],.inr ⟨w.heap.size,1,#[v],rfl,aY _,ah w _,aL _,by decide,rfl,by simp[h]⟩⟩
theorem tZ:(Tryz.prog.info? 66).map (λi=>(i.zero,i.size,i.bytes))=some (some (.slice none 0 0),1,24):=by kernel_rfl
theorem tV(a:Addr):a.add 0=a:=by unfold Addr.add;split<;>simp_all
structure GrpAt (w:World) (base:Nat) (O:Option Addr) (oc:Nat) (gs:List GP):Prop where
 own:ep 66 1 gE w O oc gs
 fo:∀b∈ed O,base<=b
 g:∀g∈gs,ep 105 1 jr w g.A g.c g.l/\∀b∈ed g.A,base<=b/\b∉ed O
 pw:∀i j(hi:i<gs.length)(hj:j<gs.length),i≠j->∀b∈ed gs[i].A,b∉ed gs[j].A
theorem GrpAt.nil(w:World)(base:Nat):GrpAt w base none 0 []:=⟨ep.nil _ _ _ _,by simp[ed],by simp,λi j hi=>absurd hi (by simp)⟩
theorem GrpAt.touch0{w w':World}{base:Nat}{O:Option Addr}{oc:Nat}{gs:List GP}(h:GrpAt w base O oc gs)(t:Touch [] w w'):GrpAt w' base O oc gs:=⟨h.own.touch0 t,h.fo,λg hg=>⟨(h.g g hg).1.touch0 t,(h.g g hg).2⟩,h.pw⟩
theorem GrpAt.back{w w1 w2:World}{base B oc k:Nat}{gs:List GP}(h:GrpAt w base (some ⟨B,0,none⟩) oc gs)(hk:k<gs.length){gA:Option Addr}{gc:Nat}{gl:List RP}(hg:gs[k]=⟨gA,gc,gl⟩)(T:Touch [] w w1){A3:Option Addr}{c3:Nat}{p:RP} (hO:ep 105 1 jr w2 A3 c3 (gl++[p])) (t:Touch (ed gA) w1 w2) (f:∀b∈ed A3,b∈ed gA\/w.heap.size<=b/\b<w1.heap.size+1) (hbs:base<=w.heap.size) : GrpAt (w2.setCell ⟨B,k,none⟩ (.slice A3 (gl.length+1) c3)) base (some ⟨B,0,none⟩) oc (gs.set k ⟨A3,c3,gl++[p]⟩)/\Touch (B:: ed gA) w1 (w2.setCell ⟨B,k,none⟩ (.slice A3 (gl.length+1) c3)):=by
 have hkm:(⟨gA,gc,gl⟩:GP)∈gs:=hg ▸ am hk;have hgg:=h.g _ hkm;dsimp only at hgg;have hB:B<w.heap.size:=h.own.lt B (by simp[ed]);have ht3:Touch [B] w2 (w2.setCell ⟨B,k,none⟩ (.slice A3 (gl.length+1) c3)):=(Touch.refl [B] w2).setCell (p:=⟨B,k,none⟩) (.inl (by simp)) _;have hAB:∀b∈ed A3,b≠B:=λb hb e=>by
  subst e;rcases f b hb with q|q
  ·exact(hgg.2 b q).2 (by simp[ed])
  omega
 refine⟨⟨?_,h.fo,λg hg'=> ?_,λi j hi hj hij b hb=> ?_⟩, ?_⟩
 ·have h1:=(h.own.touch0 T).touch t (λb hb hm=>(hgg.2 b hm).2 hb);have h2:=h1.set ny k hk 0 (by omega) (.slice A3 (gl.length+1) c3) ⟨A3,c3,gl++[p]⟩ (by simp[gE]);rw[bO,aM] at h2;exact h2
 ·obtain⟨j,hj,rfl⟩:=aU.1 hg';have hj':j<gs.length:=by simpa using hj
  rw[List.getElem_set];by_cases hkj:k=j
  ·rw[ae hkj];refine⟨hO.touch ht3 (λb hb hm=>hAB b hb (by simpa using hm)),λb hb=>⟨?_,λhm=>hAB b hb (by simpa [ed] using hm)⟩⟩;rcases f b hb with q|q
   ·exact(hgg.2 b q).1
   omega
  rw[ab hkj];have hm:=h.g _ (am hj');refine⟨((hm.1.touch0 T).touch t (λb hb hm'=>h.pw j k hj' hk (λe=>hkj e.symm) b hb (by rw[hg];exact hm'))).touch ht3 (λb hb hm'=>(hm.2 b hb).2 (by simpa [ed] using hm')),hm.2⟩
 ·have hi':i<gs.length:=by simpa using hi
  have hj':j<gs.length:=by simpa using hj
  rw[List.getElem_set] at hb ⊢;by_cases h1:k=i
  ·subst h1;rw[ae rfl] at hb;rw[ab hij];dsimp only at hb;rcases f b hb with q|q
   ·exact h.pw k j hk hj' hij b (by rw[hg];exact q)
   intro hm;have:=(h.g _ (am hj')).1.lt b hm;omega
  rw[ab h1] at hb;by_cases h2:k=j
  ·subst h2;rw[ae rfl];intro hm;dsimp only at hm;rcases f b hm with q|q
   ·exact h.pw i k hi' hk hij b hb (by rw[hg];exact q)
   have:=(h.g _ (am hi')).1.lt b hb;omega
  rw[ab h2];exact h.pw i j hi' hj' hij b hb
 exact(t.mono (λb hb=>.inl (aP _ hb))).trans (ht3.mono (λb hb=>.inl (by simp at hb;simp[hb]))) (λb hb=>.inl hb)
theorem GrpAt.snoc{w w1 w2:World}{base oc:Nat}{O:Option Addr}{gs:List GP}(h:GrpAt w base O oc gs)(T:Touch [] w w1){g:GP}(hg:ep 105 1 jr w1 g.A g.c g.l)(hgf:∀ b∈ed g.A,w.heap.size<=b){O2:Option Addr}{oc2:Nat} (hO:ep 66 1 gE w2 O2 oc2 (gs++[g])) (t:Touch (ed O) w1 w2) (f:∀b∈ed O2,b∈ed O\/b=w1.heap.size) (hbs:base<=w.heap.size):GrpAt w2 base O2 oc2 (gs++[g]):=by
 have hOw:∀b∈ed O,b<w.heap.size:=h.own.lt;have hgl:∀b∈ed g.A,b<w1.heap.size:=hg.lt;refine⟨hO,λb hb=> ?_,λx hx=> ?_,λi j hi hj hij b hb=> ?_⟩
 ·rcases f b hb with q | q
  ·exact h.fo b q
  have:=T.size;omega
 ·rcases aZ.1 hx with hx | hx
  ·have hm:=h.g x hx;refine⟨(hm.1.touch0 T).touch t (λb hb=>(hm.2 b hb).2),λb hb=>⟨(hm.2 b hb).1,λhm'=> ?_⟩⟩;rcases f b hm' with q|q
   ·exact(hm.2 b hb).2 q
   have:=hm.1.lt b hb;have:=T.size;omega
  rw[aI.1 hx];refine⟨hg.touch t (λb hb hm=>by have:=hgf b hb;have:=hOw b hm;omega),λb hb=>⟨by have:=hgf b hb;omega,λhm=> ?_⟩⟩;rcases f b hm with q|q
  ·have:=hgf b hb;have:=hOw b q;omega
  have:=hgl b hb;omega
 have hi':i<gs.length+1:=by simpa using hi
 have hj':j<gs.length+1:=by simpa using hj
 by_cases h1:i<gs.length
 ·rw[bH h1] at hb;by_cases h2:j<gs.length
  ·rw[bH h2];exact h.pw i j h1 h2 hij b hb
  rw[bM (by omega)];intro hm;simp only[List.getElem_singleton] at hm;have:=hgf b hm;have:=(h.g _ (am h1)).1.lt b hb;omega
 rw[bM (by omega)] at hb;simp only[List.getElem_singleton] at hb;have h2:j<gs.length:=by omega
 rw[bH h2];intro hm;have:=hgf b hb;have:=(h.g _ (am h2)).1.lt b hm;omega
theorem xw(A I:Option Addr)(c n ic m:Nat)(P:List RP)(at_:List Nat)(hn:P.length=n)(hm:at_.length=m)(hl:n<=100000)(hl2:m<=100000)(hok:mm P)(hat:∀ i∈at_,∀ p∈P,i<p.2.length)(w:World)(h:RowP w A P)(h2:d9 kH w I at_): Calls Tryz.prog 74 #[.slice A n c,.slice I m ic] w λe w'=>∃O oc k gs,e=.returned (.slice O k oc)/\k=gs.length/\gs.map (·.l)=kt at_ P/\GrpAt w' w.heap.size O oc gs/\Touch [] w w':=by
 subst hn hm;have HP:=lh h;have Hok:=lh hok;have Hat:=Gb h2 hat;clear h hok h2 hat;go_enter Tryz.func74,Tryz.ntmps74;go_wp2_with fail;go_loopw [5,6] (λov iv wr=>∃(i m:Nat)(O:Option Addr)(oc:Nat)(gs:List GP),i<=P.length/\iv=.int .i64 i/\ov=.slice O m oc/\m<=i/\Ga (m=gs.length/\gs.map (·.l)=kt at_ (P.take i)/\GrpAt wr w.heap.size O oc gs/\Touch [] w wr)) (λ_ i _=>P.length-(intOf i).toNat)
 case atStart=>exact⟨0,0,none,0,[],by omega,rfl,rfl,by omega,lh ⟨rfl,rfl,GrpAt.nil _ _,Touch.refl _ _⟩⟩
 case round =>
 obtain⟨i,m,O,oc,gs0,hi,rfl,rfl,hm,HK⟩:=hrel;by_cases hlt:i<P.length
 ·obtain⟨bd,rfl,e0⟩:=ku HP.o.rd i hlt;have Hbd:=lh (dr w _ e0);have Hsn:=lh (show kt at_ (P.take (i+1))=lP at_ (kt at_ (P.take i)) P[i] by rw[au hlt,rL]);have Hgi:=lh (yX at_ P i (by omega));have hpm:=am hlt;have hpv:=HP.o.vs _ hpm;have hpo:=Hok.o _ hpm;obtain⟨p,hp⟩:∃p,p=P[i]:=⟨_,rfl⟩;rw[<- hp] at e0 Hsn hpv hpo hpm;obtain⟨G,hG⟩:∃G,G=kt at_ (P.take i):=⟨_,rfl⟩;rw[<- hG] at HK Hsn Hgi;have HPV:=Gc hpv hpo hpm;have hGl:G.length=m:=by have:=bf List.length HK.o.2.1;rw[ay] at this;rw[<- this];exact HK.o.1.symm
  obtain⟨⟨pA,pn,pc⟩,pl⟩:=p;obtain rfl:pn=pl.length:=hpv.1;obtain⟨wo,hwo⟩:∃wo,wo=wr:=⟨_,rfl⟩;subst hwo;dsimp only at e0;have E0:=lh e0;have hkn:(i:Int)<(P.length:Int):=by omega
  have hmb:m<=100000:=by omega
  have Hmi:=lh hm;clear hp hG hpv hpo hpm e0 hm;go_wp2_with fail;go_loopw [7,8] (λbv kv wr=>∃(k:Nat)(b:Bool)(gs:List GP),k<=m/\kv=.int .i64 k/\bv=.bool b/\Ga (b=(G.take k).any (rT at_ (⟨pA,pl.length,pc⟩,pl)))/\Ga (gs.map (·.l)=lL (ko at_ (⟨pA,pl.length,pc⟩,pl)) G k/\GrpAt wr w.heap.size O oc gs/\Touch [] w wr)) (λ_ k _=>m-(intOf k).toNat)
  case atStart=>exact⟨0,false,gs0,by omega,rfl,rfl,lh (by simp),lh ⟨by rw[HK.o.2.1];simp[lL],HK.o.2.2.1,HK.o.2.2.2⟩⟩
  case round =>
  obtain⟨k,b,gs,hk,rfl,rfl,HS,HK2⟩:=hrel;have hgl:gs.length=m:=by have:=bf List.length HK2.o.1;rw[ay,nT] at this;omega
  have HG:=lh HK2.o.2.1;have HTW:=lh HK2.o.2.2;by_cases hkl:k<m
  ·have hk1:k<gs.length:=by omega
   have hk2:k<G.length:=by omega
   obtain⟨B,rfl⟩:∃B,O=some ⟨B,0,none⟩:=by
    rcases HG.o.own.head with ⟨_,q,_⟩|⟨g,q⟩
    ·rw[q] at hk1;exact absurd hk1 (by simp)
    exact⟨g,q⟩
   obtain⟨bo,hbo,e1⟩:=Fk HG.o.own.rd k hk1;obtain rfl:=bJ hbo;have hadd:(⟨B,0,none⟩:Addr).add k=⟨B,k,none⟩:=k7 B k;rw[hadd] at e1;have hgk:gs[k].l=G[k]:=by
    have h1:(gs.map (·.l))[k]'(by rw[ay];exact hk1)=(lL (ko at_ (⟨pA,pl.length,pc⟩,pl)) G k)[k]'(by rw[nT];exact hk2):=by simp only[HK2.o.1]
    rw[aW,DP _ _ _ hk2] at h1;exact h1
   obtain⟨g1,g2,g3⟩:=Hgi.o.1 _ (am hk2);have Hmx:=lh (AZ (ko at_ (⟨pA,pl.length,pc⟩,pl)) G k hk2);have Han:=lh (show (G.take (k+1)).any (rT at_ (⟨pA,pl.length,pc⟩,pl))=((G.take k).any (rT at_ (⟨pA,pl.length,pc⟩,pl))||rT at_ (⟨pA,pl.length,pc⟩,pl) G[k]) by rw[au hk2,List.any_append];simp);have Hgm:=lh (am hk1);rw[<- hgk] at g1 g2 g3 Hmx Han;obtain⟨gg,hgg⟩:∃g,g=gs[k]:=⟨_,rfl⟩;rw[<- hgg] at e1 g1 g2 g3 Hmx Han Hgm;obtain⟨gA,gc,gl⟩:=gg;dsimp only at e1 g1 g2 g3 Hmx Han;cases gl with
   |nil=>exact absurd rfl g1
   |cons q gr =>
    obtain⟨bq,hbq,f0⟩:=ku (HG.o.g _ Hgm.o).1.rd 0 (by simp)
    dsimp only at hbq
    subst hbq
    have hqm:q∈P:=g3 q aK
    have hqv:=(HP.o.vs _ hqm).touch0 HTW.o
    have hqo:=Hok.o _ hqm
    obtain⟨⟨qA,qn,qc⟩,ql⟩:=q
    obtain rfl:qn=ql.length:=hqv.1
    dsimp only[List.getElem_cons_zero] at f0
    rw[tV] at f0
    have Hal:=lh λw'(t:Touch [] wr w')=>AH qA pA I qc pc ic ql.length pl.length at_.length ql pl at_ rfl rfl rfl hqo.2 HPV.o.2.1.2 (λi hi=>⟨Hat.o.2 i hi _ hqm,Hat.o.2 i hi _ HPV.o.2.2⟩) w' (hqv.2.touch0 t) (HPV.o.1.2.touch0 (HTW.o.trans0 t)) (d9.touch0 Hat.o.1 (HTW.o.trans0 t)) hqo.1 HPV.o.2.1.1 (by omega)
    have Hkk:=lh (show rT at_ (⟨pA,pl.length,pc⟩,pl) ((⟨qA,ql.length,qc⟩,ql):: gr)=kK at_ ql pl from rfl)
    obtain⟨al,hal⟩:∃al,al=kK at_ ql pl:=⟨_,rfl⟩
    rw[<- hal] at Hal Hkk
    rw[Hkk.o] at Han
    have hupd:ko at_ (⟨pA,pl.length,pc⟩,pl) ((⟨qA,ql.length,qc⟩,ql):: gr)=if al=true then ((⟨qA,ql.length,qc⟩,ql):: gr)++[(⟨pA,pl.length,pc⟩,pl)] else ((⟨qA,ql.length,qc⟩,ql):: gr):=by unfold ko;rw[Hkk.o]
    rw[hupd] at Hmx
    have Hgn:=lh (show ((⟨qA,ql.length,qc⟩,ql):: gr:List RP).length=gr.length+1 from rfl)
    rw[Hgn.o] at e1 g2
    obtain⟨gl,hgl'⟩:∃l:List RP,l=(⟨qA,ql.length,qc⟩,ql):: gr:=⟨_,rfl⟩
    rw[<- hgl'] at Hmx Hgn Hgm hgg
    obtain⟨gn,hgn'⟩:∃n,n=gr.length+1:=⟨_,rfl⟩
    rw[<- hgn'] at e1 g2 Hgn
    have Hgb:=lh (show gn<=100000 by omega)
    have hg0:(0:Int)<(gn:Int):=by omega
    have hkI:(k:Int)<(m:Int):=by omega
    have E1:=lh e1
    have E0r:=lh (HTW.o.cell E0.o (by simp))
    have Hkg:=lh hk1
    have Hgg:=lh hgg.symm
    have q0:=TW.cell E0r.o
    have q1:=TW.cell e1
    have q2:=TW.cell f0
    clear hgk g1 g2 g3 hqm hqv hqo hal hupd hgl' hgn' e1 f0 hgg hadd hbo
    by_cases hal:al=true
    ·as_aux_lemma =>
     rw[ae hal] at Hmx;subst hal;go_wp2_with fail;refine eh wr (Touch.refl _ _) (by kernel_rfl) (by kernel_rfl) ?_;repeat (go_big_quiet_step (((go_at_call 108;exact Calls.tw _ (Hal.o _ (TW.t _))))))
     refine aS ?_;rintro wq ⟨⟨_,tq⟩,rfl⟩;have HTq:=lh tq;have E1:=lh (tq.cell E1.o (by simp));have E0r:=lh (tq.cell E0r.o (by simp));have HG:=lh (HG.o.touch0 tq);have HTW:=lh (HTW.o.trans0 tq);clear q0 q1 q2 tq;go_wp2_with fail;obtain⟨wd,hwd⟩:∃wd,wd=wq.drew:=⟨_,rfl⟩;have td:Touch [] wq wd:=by rw[hwd];exact(Touch.refl [] wq).drew
     have Hsd:=lh (show wd.heap.size=wq.heap.size by rw[hwd];rfl);have tz:Touch [] wq (wd.alloc (.cells #[.slice pA pl.length pc] 105)):=td.alloc _;have hHd:(fun w':World=>w'.cell? ⟨B,k,none⟩=some (.slice (some bq) gn gc)/\w'.cell? (bd.add i)=some (.slice pA pl.length pc)) wd:=⟨td.cell E1.o (by simp),td.cell E0r.o (by simp)⟩;have hHa:(fun w':World=>w'.cell? ⟨B,k,none⟩=some (.slice (some bq) gn gc)/\w'.cell? (bd.add i)=some (.slice pA pl.length pc)) (wd.alloc (.cells #[.slice pA pl.length pc] 105)):=⟨tz.cell E1.o (by simp),tz.cell E0r.o (by simp)⟩;have Htz:=lh tz;have Hoz:=lh ((HG.o.g _ Hgm.o).1.touch0 tz);have Hrz:=lh (d9.one (enc:=jr) wd 105 (⟨pA,pl.length,pc⟩,pl) #[.slice pA pl.length pc] rfl);refine nu 13 (fun w':World=>w'.cell? ⟨B,k,none⟩=some (.slice (some bq) gn gc)/\w'.cell? (bd.add i)=some (.slice pA pl.length pc)) (by kernel_rfl) ?_;rw[<- hwd];clear hwd td tz;refine kg (i:=0) (d:=33) (v:= ?_) rfl rfl (by kernel_rfl) (by kernel_rfl) (by kernel_rfl) (λ_ _ _ h=>h) (by decide) rfl (by kernel_rfl) (by kernel_rfl) (bI ⟨by rfl, ?_⟩) hHd ?_;rotate_left
     ·intro w hSw;(try dsimp only at hSw);go_simp;(try with_reducible rfl)
     try go_frame
     refine kg (i:=1) (d:=34) (v:= ?_) rfl rfl (by kernel_rfl) (by kernel_rfl) (by kernel_rfl) (λ_ _ _ h=>h) (by decide) rfl (by kernel_rfl) (by kernel_rfl) (bI ⟨by rfl, ?_⟩) hHd ?_;rotate_left
     ·intro w hSw;(try dsimp only at hSw);go_simp;(try with_reducible rfl)
     try go_frame
     refine kg (i:=2) (d:=35) (v:= ?_) rfl rfl (by kernel_rfl) (by kernel_rfl) (by kernel_rfl) (λ_ _ _ h=>h) (by decide) rfl (by kernel_rfl) (by kernel_rfl) (bI ⟨by rfl, ?_⟩) hHd ?_;rotate_left
     ·intro w hSw;(try dsimp only at hSw);go_simp;(try with_reducible rfl)
     try go_frame
     refine kg (i:=3) (d:=36) (v:= ?_) rfl rfl (by kernel_rfl) (by kernel_rfl) (by kernel_rfl) (λ_ _ _ h=>h) (by decide) rfl (by kernel_rfl) (by kernel_rfl) (bI ⟨by rfl, ?_⟩) hHd ?_;rotate_left
     ·intro w hSw;(try dsimp only at hSw);go_simp;(try with_reducible rfl)
     try go_frame
     refine kg (i:=4) (d:=37) (v:= ?_) rfl rfl (by kernel_rfl) (by kernel_rfl) (by kernel_rfl) (λ_ _ _ h=>h) (by decide) rfl (by kernel_rfl) (by kernel_rfl) (bI ⟨by rfl, ?_⟩) hHd ?_;rotate_left
     ·intro w hSw;(try dsimp only at hSw);go_simp;(try with_reducible rfl)
     try go_frame
     refine kg (i:=5) (d:=38) (v:= ?_) rfl rfl (by kernel_rfl) (by kernel_rfl) (by kernel_rfl) (λ_ _ _ h=>h) (by decide) rfl (by kernel_rfl) (by kernel_rfl) (bI ⟨by rfl, ?_⟩) hHd ?_;rotate_left
     ·intro w hSw;(try dsimp only at hSw);go_simp;(try with_reducible rfl)
     try go_frame
     refine kg (i:=6) (d:=39) (v:= ?_) rfl rfl (by kernel_rfl) (by kernel_rfl) (by kernel_rfl) (λ_ _ _ h=>h) (by decide) rfl (by kernel_rfl) (by kernel_rfl) (bI ⟨by rfl, ?_⟩) hHd ?_;rotate_left
     ·intro w hSw;(try dsimp only at hSw);go_simp;(try with_reducible rfl)
     try go_frame
     refine kg (i:=7) (d:=40) (v:= ?_) rfl rfl (by kernel_rfl) (by kernel_rfl) (by kernel_rfl) (λ_ _ _ h=>h) (by decide) rfl (by kernel_rfl) (by kernel_rfl) (bI ⟨by rfl, ?_⟩) hHd ?_;rotate_left
     ·intro w hSw;(try dsimp only at hSw);go_simp;(try with_reducible rfl)
     try go_frame
     refine kg (i:=8) (d:=41) (v:= ?_) rfl rfl (by kernel_rfl) (by kernel_rfl) (by kernel_rfl) (λ_ _ _ h=>h) (by decide) rfl (by kernel_rfl) (by kernel_rfl) (bI ⟨by rfl, ?_⟩) hHd ?_;rotate_left
     ·intro w hSw;(try dsimp only at hSw);go_simp;(try with_reducible rfl)
     try go_frame
     refine kg (i:=9) (d:=42) (v:= ?_) rfl rfl (by kernel_rfl) (by kernel_rfl) (by kernel_rfl) (λ_ _ _ h=>h) (by decide) rfl (by kernel_rfl) (by kernel_rfl) (bI ⟨by rfl, ?_⟩) hHd ?_;rotate_left
     ·intro w hSw;(try dsimp only at hSw);go_simp;(try with_reducible rfl)
     try go_frame
     refine ng (i:=10) (by kernel_rfl) rfl (λK hK=> ?_);go_simp;refine hK _ _ (λ_=>hHa) ?_;clear hK K;try go_frame
     refine ng (i:=11) (by kernel_rfl) rfl (λK hK=> ?_);refine ue (enc:=jr) rfl (.tmp 38) (.tmp 43) 66 rfl 105 _ 1 24 gh cl rfl (by omega) il j5 (some bq) gn gc gl Hgn.o rfl Hoz.o (some ⟨wd.heap.size,0,none⟩) 1 1 [(⟨pA,pl.length,pc⟩,pl)] rfl rfl Hrz.o (by have:=Hgb.o;omega) (by omega) ?_;intro A3 c3 w2 hO t f;have t2:=t;have hHq:(fun w':World=>w'.cell? ⟨B,k,none⟩=some (.slice (some bq) gn gc)/\w'.cell? (bd.add i)=some (.slice pA pl.length pc)) w2:=⟨t.cell hHa.1 (λhm=>(HG.o.g _ Hgm.o).2 _ hm |>.2 (by simp[ed])),t.cell hHa.2 (λhm=>by have:=Hbd.o;have:=((HG.o.g _ Hgm.o).2 _ hm).1;omega)⟩;have HB2:=lh (HG.o.back Hkg.o Hgg.o Htz.o hO t (λb hb=>by
      rcases f b hb with q|q
      ·exact .inl q
      right;rw[ao] at q;rw[ao];have:=Hsd.o;omega) HTW.o.size)
     have fz:w2.frozen? ⟨B,k,none⟩=false:=((HG.o.own.touch0 Htz.o).touch t (λb hb hm=>((HG.o.g _ Hgm.o).2 b hm).2 hb)).free_ k;have cz:=hHq.1;refine hK _ _ (λ_=>hHq) ?_;clear hK K hO t f t2;try simp only[Act.put,List.setIfInBounds_toArray]
     refine kg (i:=12) (d:=45) (v:= ?_) rfl rfl (by kernel_rfl) (by kernel_rfl) (by kernel_rfl) (λ_ _ _ h=>h) (by decide) rfl (by kernel_rfl) (by kernel_rfl) (bI ⟨by rfl, ?_⟩) hHq ?_;rotate_left
     ·intro w hSw;(try dsimp only at hSw);go_simp;(try with_reducible rfl)
     try simp only[Act.put]
     refine ng (i:=13) (by kernel_rfl) rfl (λK hK=> ?_);go_simp;refine hK _ _ (λh=>by cases h) ?_;clear hK K;refine D8 (by kernel_rfl) ?_ _;have HT2:=lh ((HTW.o.trans0 Htz.o).trans HB2.o.2 (λb hb=>by
      rcases aR.1 hb with q|q
      ·rw[q];exact .inr (HG.o.fo B (by simp[ed]))
      exact .inr ((HG.o.g _ Hgm.o).2 b q).1))
     go_wp2_with fail;go_roundw
     case rel=>exact⟨k+1,true,gs.set k ⟨A3,c3,gl++[(⟨pA,pl.length,pc⟩,pl)]⟩,by omega,by go_num,rfl,lh (by rw[Han.o,Bool.or_true]),lh ⟨by rw[Hmx.o,List.map_set,HK2.o.1],(by have:=HB2.o.1;rw[Hgn.o] at this;exact this),(by have:=HT2.o;rw[Hgn.o] at this;exact this)⟩⟩
     case measure=>simp[intOf];omega
    ·as_aux_lemma =>
     rw[ab hal] at Hmx;obtain rfl:al=false:=by simpa using hal
     clear hal;have Hse:=lh (show lL (ko at_ (⟨pA,pl.length,pc⟩,pl)) G (k+1)=gs.map (·.l) by
      rw[Hmx.o,<- HK2.o.1];refine List.ext_getElem (by simp) λj h1 h2=> ?_;rw[List.getElem_set];by_cases hkj:k=j
      ·subst hkj;rw[ae rfl,aW,Hgg.o]
      rw[ab hkj])
     go_wp2_with fail;refine eh wr (Touch.refl _ _) (by kernel_rfl) (by kernel_rfl) ?_;repeat (go_big_quiet_step (((go_at_call 108;exact Calls.tw _ (Hal.o _ (TW.t _))))))
     refine aS ?_;rintro wq ⟨⟨_,tq⟩,rfl⟩;have HTq:=lh tq;clear q0 q1 q2 tq;go_wp2_with fail;go_roundw
     case rel=>exact⟨k+1,b,gs,by omega,by go_num,rfl,lh (by rw[Han.o,<- HS.o,Bool.or_false]),lh ⟨Hse.o.symm,HG.o.touch0 HTq.o,HTW.o.trans0 HTq.o⟩⟩
     case measure=>simp[intOf];omega
  obtain rfl:m=k:=by omega
  have hmm:lL (ko at_ (⟨pA,pl.length,pc⟩,pl)) G m=G.map (ko at_ (⟨pA,pl.length,pc⟩,pl)):=by unfold lL;rw[<- hGl,aH,bY,bN]
  have Hgm:=lh (HK2.o.1.trans hmm);rw[<- hGl,aH] at HS;have q0:((m:Int)<(m:Int))=False:=bi (by omega);clear hmm;by_cases hb:b=true
  ·subst hb;have Hi:=lh (show lP at_ G (⟨pA,pl.length,pc⟩,pl)=G.map (ko at_ (⟨pA,pl.length,pc⟩,pl)) by unfold lP;rw[<- HS.o];rfl);go_wp2_with fail;go_roundw
   case rel=>exact⟨i+1,m,O,oc,gs,by omega,by go_num,rfl,by have:=Hmi.o;omega,lh ⟨hgl.symm,by rw[Hsn.o,Hi.o];exact Hgm.o,HG.o,HTW.o⟩⟩
   case measure=>simp[intOf];omega
  obtain rfl:b=false:=by simpa using hb
  have Hi:=lh (show lP at_ G (⟨pA,pl.length,pc⟩,pl)=G.map (ko at_ (⟨pA,pl.length,pc⟩,pl))++[[(⟨pA,pl.length,pc⟩,pl)]] by unfold lP;rw[<- HS.o];rfl);have e0:=HTW.o.cell E0.o (by simp);have ta:=(Touch.refl [] wr).alloc (.cells #[.slice pA pl.length pc] 105);have tb:=ta.alloc (.cells #[.slice (some ⟨wr.heap.size,0,none⟩) 1 1] 66);have hog:=(ep.one5 (enc:=jr) 105 wr (⟨pA,pl.length,pc⟩,pl) (.slice pA pl.length pc) rfl).touch0 ((Touch.refl [] _).alloc (.cells #[.slice (some ⟨wr.heap.size,0,none⟩) 1 1] 66));have hrow:=d9.one (enc:=gE) (wr.alloc (.cells #[.slice pA pl.length pc] 105)) 66 ⟨some ⟨wr.heap.size,0,none⟩,1,[(⟨pA,pl.length,pc⟩,pl)]⟩ #[.slice (some ⟨wr.heap.size,0,none⟩) 1 1] rfl;rw[ao] at hrow;have Htb:=lh tb;have Hog:=lh hog;have Hrow:=lh hrow;clear hb ta tb hog hrow;go_wp2_with (at_builtin;refine ez ?_);refine go ?_;refine eb (enc:=gE) rfl (.tmp 48) (.tmp 54) 134 rfl 66 _ 1 24 tZ Tryz.underlying134 rfl (by omega) ny Aq O m oc gs hgl rfl (HG.o.own.touch0 Htb.o) (some ⟨wr.heap.size+1,0,none⟩) 1 1 [⟨some ⟨wr.heap.size,0,none⟩,1,[(⟨pA,pl.length,pc⟩,pl)]⟩] rfl rfl Hrow.o (by omega) (by omega) ?_;intro O3 oc3 w3 hO t f;have HS3:=lh (HG.o.snoc Htb.o (g:=⟨some ⟨wr.heap.size,0,none⟩,1,[(⟨pA,pl.length,pc⟩,pl)]⟩) Hog.o (λb hb=>by simp[ed] at hb;omega) hO t f HTW.o.size);have HT3:=lh ((HTW.o.trans0 Htb.o).trans t (λb hb=>.inr (HG.o.fo b hb)));clear hO t f;go_wp2_with fail;go_roundw
  case rel=>exact⟨i+1,m+1,O3,oc3,gs++[⟨some ⟨wr.heap.size,0,none⟩,1,[(⟨pA,pl.length,pc⟩,pl)]⟩],by omega,by go_num,rfl,by have:=Hmi.o;omega,lh ⟨by rw[az,hgl];rfl,by rw[Hsn.o,Hi.o,aT,Hgm.o];rfl,HS3.o,HT3.o⟩⟩
  case measure=>simp[intOf];omega
 obtain rfl:i=P.length:=by omega
 rw[aH] at HK;go_wp2_with fail;go_ret;exact⟨O,oc,m,gs0,rfl,HK.o.1,HK.o.2.1,HK.o.2.2.1,HK.o.2.2.2⟩
end
section
open Go.RowKit
def r7(n:Int):List Value:=[.int .i64 n]
theorem oy(n:Int):(r7 n).length=1:=rfl
theorem yg(n:Int):∀u∈r7 n,u.oneCell'=true:=by intro u hu;simp only[r7,List.mem_cons,List.not_mem_nil,or_false] at hu;subst hu;rfl
theorem yz{w:World}{A:Option Addr}{l:List Int}(h:d9 r7 w A l)(k:Nat)(hk:k<l.length):∃bd,A=some bd/\w.cell? (bd.add k)=some (.int .i64 l[k]):=by obtain⟨ad,b,off,e1,e2,e3⟩:=d9.cells h 1 oy (by omega) k hk;rw[bO] at e2;refine⟨ad,e1, ?_⟩;rw[e2];exact e3 0 _ rfl
theorem k9:(Tryz.prog.info? 3).map (λi=>(i.zero,i.size,i.bytes))=some (some (.int .i64 0),1,8):=by kernel_rfl
def oN(l:List VD):List Int:=(l.map (·.num)).filter λn=>decide (0<=n)
def oB(l:List VD):List Int:=(l.map (·.num)).filter λn=>decide (n<0)
def lN(l:List VD):Int:=(l.map (·.num)).sum
def nR(l:List VD):Int × Bool:=if -9223372036854775808<=lN l/\lN l<=9223372036854775807 then (lN l,true) else (0,false)
theorem wM(a b:List Int):(a++b).sum=a.sum+b.sum:=by
 induction a with
 |nil=>simp
 |cons x a ih=>rw[List.cons_append,cT,cT,ih];omega
theorem zL(l:List VD):(oN l).sum+(oB l).sum=lN l:=by
 unfold oN oB lN;induction l.map (·.num) with
 |nil=>rfl
 |cons a r ih =>
  by_cases h:0<=a
  ·rw[cS (by simpa using h),cR (by simpa using h),cT,cT];omega
  ·rw[cR (by simpa using h),cS (by simp;omega),cT,cT];omega
theorem BV:∀(l:List Int),(∀n∈l,0<=n)->0<=l.sum
 | [],_=>by simp
 |a:: l,h=>by have:=BV l (λn hn=>h n (aP _ hn));have:=h a aK;rw[cT];omega
theorem AY:∀(l:List Int),(∀n∈l,n<0)->l.sum<=0
 | [],_=>by simp
 |a:: l,h=>by have:=AY l (λn hn=>h n (aP _ hn));have:=h a aK;rw[cT];omega
theorem xE(l:List Int)(k:Nat)(hk:k<l.length):l.sum=(l.take k).sum+l[k]+(l.drop (k+1)).sum:=by
 have:l=l.take k++l[k]:: l.drop (k+1):=by rw[<- bj hk,List.take_append_drop]
 have h2:=bf List.sum this;rw[wM,cT] at h2;omega
theorem qZ(l:List Int)(k:Nat)(hk:k<l.length):(l.take (k+1)).sum=(l.take k).sum+l[k]:=by rw[au hk,wM];simp
theorem CO(A:Option Addr)(c m:Nat)(l:List VD)(hm:l.length=m)(hl:m<=1000000)(hok:∀ v∈l, -9223372036854775808<=v.num/\v.num<=9223372036854775807)(w:World)(h:eu w A l): Calls Tryz.prog 76 #[.slice A m c] w λe w'=>e=.returned (.tuple #[.int .i64 (nR l).1,.bool (nR l).2])/\Touch [] w w':=by
 subst hm;have HV:=lh h;have Hsp:=lh (zL l);have Hok:=lh hok;clear h hok;go_enter Tryz.func76,Tryz.ntmps76;go_wp2_with fail;go_loopw [4,5,6] (λuv dv iv wr=>∃(i u d:Nat)(UA DA:Option Addr)(uc dc:Nat),i<=l.length/\iv=.int .i64 i/\uv=.slice UA u uc/\dv=.slice DA d dc/\u<=i/\d<=i/\Ga ((oN (l.take i)).length=u/\(oB (l.take i)).length=d/\ep 3 1 r7 wr UA uc (oN (l.take i))/\ep 3 1 r7 wr DA dc (oB (l.take i))/\(∀b∈ed UA,w.heap.size<=b/\b∉ed DA)/\(∀b∈ed DA,w.heap.size<=b)/\Touch [] w wr)) (λ_ _ i _=>l.length-(intOf i).toNat)
 case atStart=>exact⟨0,0,0,none,none,0,0,by omega,rfl,rfl,rfl,by omega,by omega,lh ⟨rfl,rfl,ep.nil _ _ _ _,ep.nil _ _ _ _,by simp[ed],by simp[ed],Touch.refl _ _⟩⟩
 case round =>
 obtain⟨i,u,d,UA,DA,uc,dc,hi,rfl,rfl,rfl,hu,hd,HK⟩:=hrel;by_cases hlt:i<l.length
 ·obtain⟨ad,b,off,rfl,hadd,c0,c1,c2⟩:=(HV.o.touch0 HK.o.2.2.2.2.2.2).at_ i hlt;have hb:=Hok.o _ (am hlt);have Htk:=lh (show oN (l.take (i+1))=oN (l.take i)++(if 0<=l[i].num then [l[i].num] else [])/\oB (l.take (i+1))=oB (l.take i)++(if l[i].num<0 then [l[i].num] else []) by
   rw[au hlt];unfold oN oB;rw[aT,bZ,bZ,cx,dh];constructor
   ·by_cases q:0<=l[i].num
    ·rw[ae q,cS (by simpa using q),cE]
    rw[ab q,cR (by simpa using q),cE]
   by_cases q:l[i].num<0
   ·rw[ae q,cS (by simpa using q),cE]
   rw[ab q,cR (by simpa using q),cE])
  obtain⟨v,hv⟩:∃v,v=l[i]:=⟨_,rfl⟩;rw[<- hv] at c0 c1 c2 hb Htk;clear hv;obtain⟨k1,n1,s1⟩:=v;dsimp only at c0 c1 c2 hb Htk;have hiI:(i:Int)<(l.length:Int):=by omega
  have Hm:=lh (show u<=1000000/\d<=1000000/\u<=i/\d<=i from ⟨by omega,by omega,hu,hd⟩);have Hrow:=lh λ(w':World)=>d9.one (enc:=r7) w' 3 n1 #[.int .i64 n1] rfl;clear hu hd;by_cases hz:n1<0
  ·as_aux_lemma =>
   rw[ab (show ¬0<=n1 by omega),ae hz,bN] at Htk;go_wp2_with (at_builtin;refine ez ?_);refine go ?_;refine eb (enc:=r7) rfl (.tmp 22) (.tmp 28) 97 rfl 3 _ 1 8 k9 db rfl (by omega) oy yg DA d dc _ HK.o.2.1 rfl (HK.o.2.2.2.1.touch0 ((Touch.refl [] wr).alloc _)) (some ⟨wr.heap.size,0,none⟩) 1 1 [n1] rfl rfl (Hrow.o wr) (by have:=Hm.o;omega) (by omega) ?_;intro N3 nc3 w3 hO t f;have HQ:=Gc hO t f;clear hO t f;go_wp2_with fail;go_roundw
   case rel =>
    have ta:=(Touch.refl [] wr).alloc (.cells #[.int .i64 n1] 3);have hlu:=HK.o.2.2.1.lt;exact⟨i+1,u,d+1,UA,N3,uc,nc3,by omega,by go_num,rfl,rfl,by have:=Hm.o;omega,by have:=Hm.o;omega,lh ⟨by rw[Htk.o.1];exact HK.o.1,by rw[Htk.o.2,az,HK.o.2.1];rfl,by rw[Htk.o.1];exact(HK.o.2.2.1.touch0 ta).touch HQ.o.2.1 (λb hb hm=>(HK.o.2.2.2.2.1 b hb).2 hm),by rw[Htk.o.2];exact HQ.o.1,λb hb=>⟨(HK.o.2.2.2.2.1 b hb).1,λhm=>by
    rcases HQ.o.2.2 b hm with q|q
    ·exact(HK.o.2.2.2.2.1 b hb).2 q
    ·have:=hlu b hb;rw[ao] at q;omega⟩,λb hb=>by
    rcases HQ.o.2.2 b hb with q|q
    ·exact HK.o.2.2.2.2.2.1 b q
    have:=HK.o.2.2.2.2.2.2.size;rw[ao] at q;omega,(HK.o.2.2.2.2.2.2.trans0 ta).trans HQ.o.2.1 (λb hb=>.inr (HK.o.2.2.2.2.2.1 b hb))⟩⟩
   case measure=>simp[intOf];omega
  as_aux_lemma =>
  rw[ae (show 0<=n1 by omega),ab hz,bN] at Htk;have hz':(n1<0)=False:=bi hz;clear hz;go_wp2_with (at_builtin;refine ez ?_);refine go ?_;refine eb (enc:=r7) rfl (.tmp 30) (.tmp 36) 97 rfl 3 _ 1 8 k9 db rfl (by omega) oy yg UA u uc _ HK.o.1 rfl (HK.o.2.2.1.touch0 ((Touch.refl [] wr).alloc _)) (some ⟨wr.heap.size,0,none⟩) 1 1 [n1] rfl rfl (Hrow.o wr) (by have:=Hm.o;omega) (by omega) ?_;intro N3 nc3 w3 hO t f;have HQ:=Gc hO t f;clear hO t f;go_wp2_with fail;go_roundw
  case rel =>
   have ta:=(Touch.refl [] wr).alloc (.cells #[.int .i64 n1] 3);have hld:=HK.o.2.2.2.1.lt;exact⟨i+1,u+1,d,N3,DA,nc3,dc,by omega,by go_num,rfl,rfl,by have:=Hm.o;omega,by have:=Hm.o;omega,lh ⟨by rw[Htk.o.1,az,HK.o.1];rfl,by rw[Htk.o.2];exact HK.o.2.1,by rw[Htk.o.1];exact HQ.o.1,by rw[Htk.o.2];exact(HK.o.2.2.2.1.touch0 ta).touch HQ.o.2.1 (λb hb hm=>(HK.o.2.2.2.2.1 b hm).2 hb),λb hb=>by
   rcases HQ.o.2.2 b hb with q|q
   ·exact HK.o.2.2.2.2.1 b q
   have h1:=HK.o.2.2.2.2.2.2.size;rw[ao] at q;exact⟨by omega,λhm=>by have:=hld b hm;omega⟩,HK.o.2.2.2.2.2.1,(HK.o.2.2.2.2.2.2.trans0 ta).trans HQ.o.2.1 (λb hb=>.inr (HK.o.2.2.2.2.1 b hb).1)⟩⟩
  case measure=>simp[intOf];omega
 obtain rfl:i=l.length:=by omega
 rw[aH] at HK;have HUn:=lh (show ∀n∈oN l,0<=n/\n<=9223372036854775807 from λn hn=>by obtain⟨h1,h2⟩:=bE.1 hn;obtain⟨v,hv,rfl⟩:=aJ.1 h1;exact⟨by simpa using h2,(Hok.o v hv).2⟩)
 have HDn:=lh (show ∀n∈oB l, -9223372036854775808<=n/\n<0 from λn hn=>by obtain⟨h1,h2⟩:=bE.1 hn;obtain⟨v,hv,rfl⟩:=aJ.1 h1;exact⟨(Hok.o v hv).1,by simpa using h2⟩)
 obtain⟨U,hU⟩:∃U,U=oN l:=⟨_,rfl⟩;obtain⟨D,hD⟩:∃D,D=oB l:=⟨_,rfl⟩;rw[<- hU,<- hD] at HK Hsp;rw[<- hU] at HUn;rw[<- hD] at HDn;clear hU hD;obtain rfl:u=U.length:=HK.o.1.symm;obtain rfl:d=D.length:=HK.o.2.1.symm;obtain⟨w1,hw1⟩:∃w1,w1=wr:=⟨_,rfl⟩;subst hw1;have HU:=lh HK.o.2.2.1.rd;have HD:=lh HK.o.2.2.2.1.rd;have HT1:=lh HK.o.2.2.2.2.2.2;have hUl:U.length<=1000000:=by omega
 have hDl:D.length<=1000000:=by omega
 clear HK hu hd hi hlt;go_wp2_with fail;go_loopw [7,8,9] (λnv iv kv wr=>∃(i k:Nat)(n:Int),i<=U.length/\k<=D.length/\iv=.int .i64 i/\kv=.int .i64 k/\nv=.int .i64 n /\ -9223372036854775808<=n/\n<=9223372036854775807/\Ga (n=(U.take i).sum+(D.take k).sum)/\Ga (Touch [] w1 wr)) (λ_ i k _=>(U.length-(intOf i).toNat)+(D.length-(intOf k).toNat))
 case atStart=>exact⟨0,0,0,by omega,by omega,rfl,rfl,rfl,by omega,by omega,lh rfl,lh (Touch.refl _ _)⟩
 case round =>
 obtain⟨i,k,n,hi,hk,rfl,rfl,rfl,hn1,hn2,Hn,HTq⟩:=hrel;have HT:=HTq;by_cases hb:k<D.length
 ·obtain⟨bd,rfl,d0⟩:=yz (d9.touch0 HD.o HT.o) k hb;have hd1:=HDn.o _ (am hb);have Hdc:=lh (xE D k hb);have Hdt:=lh (qZ D k hb);have Hdr:=lh (AY (D.drop (k+1)) (λn hn=>(HDn.o n (List.mem_of_mem_drop hn)).2));obtain⟨y,hy⟩:∃y,y=D[k]:=⟨_,rfl⟩;rw[<- hy] at d0 hd1 Hdc Hdt;clear hy;have qb:(k:Int)<(D.length:Int):=by omega
  by_cases hc:0<=n
  ·have q1:(n<0)=False:=bi (by omega);have hw:IntKind.i64.wrap (n+y)=n+y:=cU _ (by omega);by_cases ha:i<U.length
   ·as_aux_lemma =>
    have qa:(i:Int)<(U.length:Int):=by omega
    go_wp2_with fail;go_roundw
    case rel=>exact⟨_,k+1,n+y,by omega,by omega,rfl,by go_num,by go_num,by omega,by omega,lh (by rw[Hdt.o,Hn.o];omega),HT⟩
    case measure=>simp[intOf];omega
   as_aux_lemma =>
   have qa:((i:Int)<(U.length:Int))=False:=bi (by omega);go_wp2_with fail;go_roundw
   case rel=>exact⟨_,k+1,n+y,by omega,by omega,rfl,by go_num,by go_num,by omega,by omega,lh (by rw[Hdt.o,Hn.o];omega),HT⟩
   case measure=>simp[intOf];omega
  have q1:n<0:=by omega
  have qc:(0<=n)=False:=bi hc;by_cases ha:i<U.length
  ·obtain⟨bu,rfl,u0⟩:=yz (d9.touch0 HU.o HT.o) i ha;have hu1:=HUn.o _ (am ha);have Hut:=lh (qZ U i ha);obtain⟨x,hx⟩:∃x,x=U[i]:=⟨_,rfl⟩;rw[<- hx] at u0 hu1 Hut;clear hx;as_aux_lemma =>
   have qa:(i:Int)<(U.length:Int):=by omega
   have qe:((i:Int)==(U.length:Int))=false:=by rw[aw];omega
   have qp:(0<n)=False:=bi (by omega);have hw:IntKind.i64.wrap (n+x)=n+x:=cU _ (by omega);go_wp2_with fail;go_roundw
   case rel=>exact⟨i+1,_,n+x,by omega,by omega,by go_num,rfl,by go_num,by omega,by omega,lh (by rw[Hut.o,Hn.o];omega),HT⟩
   case measure=>simp[intOf];omega
  obtain rfl:i=U.length:=by omega
  have qa:((U.length:Int)<(U.length:Int))=False:=bi (by omega);have hs:IntKind.i64.wrap (-9223372036854775808-n) = -9223372036854775808-n:=cU _ (by omega);by_cases hf:y < -9223372036854775808-n
  ·as_aux_lemma =>
   have Hx:=lh (show nR l=(0,false) by unfold nR;rw[ab];have:=Hn.o;have:=Hdc.o;have:=Hdr.o;have:=Hsp.o;rw[aH] at *;omega)
   go_wp2_with fail;refine aG (results_tmp2 rfl _ _ _) rfl ⟨by rw[Hx.o];rfl,HT1.o.trans0 HT.o⟩
  as_aux_lemma =>
  have qf:(y < -9223372036854775808-n)=False:=bi hf;have hw:IntKind.i64.wrap (n+y)=n+y:=cU _ (by omega);go_wp2_with fail;go_roundw
  case rel=>exact⟨_,k+1,n+y,by omega,by omega,rfl,by go_num,by go_num,by omega,by omega,lh (by rw[Hdt.o,Hn.o];omega),HT⟩
  case measure=>simp[intOf];omega
 obtain rfl:k=D.length:=by omega
 have qb:((D.length:Int)<(D.length:Int))=False:=bi (by omega);by_cases ha:i<U.length
 ·obtain⟨bu,rfl,u0⟩:=yz (d9.touch0 HU.o HT.o) i ha;have hu1:=HUn.o _ (am ha);have Hut:=lh (qZ U i ha);have Huc:=lh (xE U i ha);have Hur:=lh (BV (U.drop (i+1)) (λn hn=>(HUn.o n (List.mem_of_mem_drop hn)).1));obtain⟨x,hx⟩:∃x,x=U[i]:=⟨_,rfl⟩;rw[<- hx] at u0 hu1 Hut Huc;clear hx;have qa:(i:Int)<(U.length:Int):=by omega
  by_cases hp:0<n
  ·have hs:IntKind.i64.wrap (9223372036854775807-n)=9223372036854775807-n:=cU _ (by omega);by_cases hf:9223372036854775807-n<x
   ·as_aux_lemma =>
    have Hx:=lh (show nR l=(0,false) by unfold nR;rw[ab];have:=Hn.o;have:=Huc.o;have:=Hur.o;have:=Hsp.o;rw[aH] at *;omega)
    go_wp2_with fail;refine aG (results_tmp2 rfl _ _ _) rfl ⟨by rw[Hx.o];rfl,HT1.o.trans0 HT.o⟩
   as_aux_lemma =>
   have qf:(9223372036854775807-n<x)=False:=bi hf;have hw:IntKind.i64.wrap (n+x)=n+x:=cU _ (by omega);go_wp2_with fail;go_roundw
   case rel=>exact⟨i+1,_,n+x,by omega,by omega,by go_num,rfl,by go_num,by omega,by omega,lh (by rw[Hut.o,Hn.o];omega),HT⟩
   case measure=>simp[intOf];omega
  as_aux_lemma =>
  have qp:(0<n)=False:=bi hp;have hw:IntKind.i64.wrap (n+x)=n+x:=cU _ (by omega);go_wp2_with fail;go_roundw
  case rel=>exact⟨i+1,_,n+x,by omega,by omega,by go_num,rfl,by go_num,by omega,by omega,lh (by rw[Hut.o,Hn.o];omega),HT⟩
  case measure=>simp[intOf];omega
 obtain rfl:i=U.length:=by omega
 have qa:((U.length:Int)<(U.length:Int))=False:=bi (by omega);as_aux_lemma =>
 have Hx:=lh (show nR l=(n,true) by
  have h1:=Hn.o;have h2:=Hsp.o;rw[aH,aH] at h1;have h3:lN l=n:=by omega
  unfold nR;rw[h3,ae ⟨hn1,hn2⟩])
 go_wp2_with fail;refine aG (results_tmp2 rfl _ _ _) rfl ⟨by rw[Hx.o];rfl,HT1.o.trans0 HT.o⟩
end
section
open Go.RowKit
theorem Cd(up:Bool):∀(l:List VD),(∀v∈l,v.text.size<=9223372036854775807)->(gX up l).text.size<=9223372036854775807
 | [],_=>by simp[gX,ByteArray.size]
 |a:: r,h=>by
  show (r.foldl (λm v=>if jF up v m then v else m) a).text.size<=_;have key:∀(r:List VD)(a:VD),a.text.size<=9223372036854775807->(∀v∈r,v.text.size<=9223372036854775807)->(r.foldl (λm v=>if jF up v m then v else m) a).text.size<=9223372036854775807:=by
   intro r;induction r with
   |nil=>intro a ha _;exact ha
   |cons x r ih =>
    intro a ha hr
    rw[bX]
    refine ih _ ?_ λv hv=>hr v (aP _ hv)
    split
    ·exact hr x aK
    ·exact ha
  exact key r a (h a aK) λv hv=>h v (aP _ hv)
theorem zX(up:Bool)(A:Option Addr)(c n:Nat)(l:List VD)(hn:l.length=n)(h0:0<n)(hl:n<=1000000)(hok:∀ v∈l,v.text.size<=9223372036854775807)(w:World)(h:eu w A l): Calls Tryz.prog 77 #[.slice A n c,.bool up] w λe w'=>e=.returned (gX up l).val/\Touch [] w w':=by
 subst hn;obtain⟨ad,b0,off0,rfl,hadd0,e0,e1,e2⟩:=h.at_ 0 h0;have hbt:gX up (l.take 1)=l[0]:=by
  cases l with
  |nil=>simp at h0
  |cons a r=>simp[gX]
 obtain⟨v0,hv0⟩:∃v,v=l[0]:=⟨_,rfl⟩;rw[<- hv0] at e0 e1 e2 hbt;obtain⟨k0,n0,s0⟩:=v0;dsimp only at e0 e1 e2;obtain⟨W,hW⟩:∃W,W=(w.alloc (.cells #[.int .i64 0,.int .i64 0,.string ⟨#[]⟩] 130)).alloc (.cells #[.int .i64 k0,.int .i64 n0,.string s0] 130):=⟨_,rfl⟩;have t0:Touch [] w W:=hW ▸ ((Touch.refl [] w).alloc _).alloc _;have hbr:W.heap[w.heap.size]?=some (.cells #[.int .i64 0,.int .i64 0,.string ⟨#[]⟩] 130 (0,0)):=hW ▸ ((Touch.refl [] (w.alloc (.cells #[.int .i64 0,.int .i64 0,.string ⟨#[]⟩] 130))).alloc (.cells #[.int .i64 k0,.int .i64 n0,.string s0] 130)).blk (ah w _) (by simp);have hbm:W.heap[w.heap.size+1]?=some (.cells #[.int .i64 k0,.int .i64 n0,.string s0] 130 (0,0)):=by have:=ah (w.alloc (.cells #[.int .i64 0,.int .i64 0,.string ⟨#[]⟩] 130)) (.cells #[.int .i64 k0,.int .i64 n0,.string s0] 130);rw[ao] at this;exact hW ▸ this
 have hWs:W.heap.size=w.heap.size+2:=by rw[hW];simp
 have hlw:∀b∈ed (some ad),b<w.heap.size:=λb hb=>Rd.lt h (by rw[iW ff 3 eO];omega) b hb;have HV:=Gb h hlw;have HT0:=Gd t0 hbr hbm hWs;have Hbt:=lh hbt;have HW:=lh hW;have ta:=(Touch.refl [] w).alloc (.cells #[.int .i64 0,.int .i64 0,.string ⟨#[]⟩] 130);have e0:=ta.cell e0 (by simp);have e1:=ta.cell e1 (by simp);have e2:=ta.cell e2 (by simp);have h00:(0:Int)<(l.length:Int):=by omega
 clear hbt hv0 h t0 hbr hbm hWs hlw hW ta;go_enter Tryz.func77,Tryz.ntmps77;go_wp2_with fail;rw[<- HW.o];clear e0 e1 e2;go_loopw [6] (λi wr=>∃(k:Nat)(m:VD),1<=k/\k<=l.length/\i=.int .i64 k/\Ga (m=gX up (l.take k))/\Ga (wr.heap[w.heap.size+1]?=some (.cells #[.int .i64 m.kind,.int .i64 m.num,.string m.text] 130 (0,0)))/\Ga (Touch [w.heap.size+1] W wr)) (λi _=>l.length-(intOf i).toNat)
 case atStart=>exact⟨1,⟨k0,n0,s0⟩,by omega,by omega,rfl,lh Hbt.o.symm,lh HT0.o.2.2.1,lh (Touch.refl _ _)⟩
 case round =>
 obtain⟨k,m,hk1,hk,rfl,HM,HB,HT⟩:=hrel;have TW0:=HT0.o.1.trans HT.o (λb hb=>.inr (by simp at hb;omega));by_cases hlt:k<l.length
 ·have hval:eu wr (some ad) l:=d9.touch0 HV.o.1 TW0;obtain⟨ad',b1,off1,had',hadd1,d0,d1,d2⟩:=hval.at_ k hlt;obtain rfl:=bJ had';have htk:=au hlt;have hbs:=pE up (l.take k) l[k] (by rw[aO];omega);rw[<- htk,<- HM.o] at hbs;obtain⟨v,hv⟩:∃v,v=l[k]:=⟨_,rfl⟩;rw[<- hv] at d0 d1 d2 hbs;have hvo:=hok _ (am hlt);rw[<- hv] at hvo;have hmo:m.text.size<=9223372036854775807:=by rw[HM.o];exact Cd up _ (λv hv=>hok v (da hv))
  have hcv:=λw'=>mG v m hvo hmo w';obtain⟨q,hq⟩:∃q,q=eU v m:=⟨_,rfl⟩;have hbe:jF up v m ↔ (if up=true then 0<q else q<0):=by unfold jF;rw[hq]
  rw[<- hq] at hcv;have Hbs:=lh hbs;have Hbe:=lh hbe;obtain⟨vk,vn,vt⟩:=v;obtain⟨mk,mn,mt⟩:=m;simp only[VD.val] at hcv;dsimp only at d0 d1 d2 HB;have Hcv:=lh hcv;obtain⟨q0,q1,q2,_,_,_⟩:=eJ HB.o;have g0:=TW.cell d0;have g1:=TW.cell d1;have g2:=TW.cell d2;have g3:=TW.cell q0;have g4:=TW.cell q1;have g5:=TW.cell q2;have HD:=Gc d0 d1 d2;have hki:(k:Int)<(l.length:Int):=by omega
  have hk0':(0:Int)<=(k:Int):=by omega
  have HTW:=lh TW0;clear hcv hbs hbe hvo hmo hv htk hq hval d0 d1 d2 q0 q1 q2 TW0;cases up with
  |false =>
   by_cases hc:q<0
   ·have hct:=cQ hc;have Hv:=lh (Hbs.o.trans (ae (Hbe.o.2 (by simpa using hc))));clear hc;go_wp2_with fail;refine eh wr (Touch.refl _ _) (by kernel_rfl) (by kernel_rfl) ?_;repeat (go_big_quiet_step (((go_at_call 78;exact Calls.tw _ (Hcv.o _)))))
    refine aS ?_;rintro _ ⟨x9,rfl⟩;have HX:=lh x9.t;have HBx:=lh (x9.t.blk HB.o (by simp));obtain⟨d0,d1,d2⟩:=HD.o;have d0:=HX.o.cell d0 (by simp);have d1:=HX.o.cell d1 (by simp);have d2:=HX.o.cell d2 (by simp);clear g0 g1 g2 g3 g4 g5;obtain⟨q0,q1,q2,z0,z1,z2⟩:=eJ HBx.o;go_wp2_with fail;go_roundw
    case rel =>refine⟨k+1,⟨vk,vn,vt⟩,by omega,by omega,by go_num,lh Hv.o.symm,lh (kj HBx.o rfl _ _ _),lh ?_⟩;exact(HT.o.trans0 HX.o).trans (gC _ _ _ _ _) (λb hb=>.inl hb)
    case measure=>simp[intOf];omega
   ·have hct:=bi hc;have Hv:=lh (Hbs.o.trans (ab (λh=>hc (by simpa using Hbe.o.1 h))));clear hc;go_wp2_with fail;refine eh wr (Touch.refl _ _) (by kernel_rfl) (by kernel_rfl) ?_;repeat (go_big_quiet_step (((go_at_call 78;exact Calls.tw _ (Hcv.o _)))))
    refine aS ?_;rintro _ ⟨x9,rfl⟩;have HX:=lh x9.t;have HBx:=lh (x9.t.blk HB.o (by simp));clear g0 g1 g2 g3 g4 g5;go_wp2_with fail;go_roundw
    case rel=>exact⟨k+1,⟨mk,mn,mt⟩,by omega,by omega,by go_num,lh Hv.o.symm,HBx,lh (HT.o.trans0 HX.o)⟩
    case measure=>simp[intOf];omega
  |true =>
   by_cases hc:0<q
   ·have hct:=cQ hc;have Hv:=lh (Hbs.o.trans (ae (Hbe.o.2 (by simpa using hc))));clear hc;go_wp2_with fail;refine eh wr (Touch.refl _ _) (by kernel_rfl) (by kernel_rfl) ?_;repeat (go_big_quiet_step (((go_at_call 78;exact Calls.tw _ (Hcv.o _)))))
    refine aS ?_;rintro _ ⟨x9,rfl⟩;have HX:=lh x9.t;have HBx:=lh (x9.t.blk HB.o (by simp));obtain⟨d0,d1,d2⟩:=HD.o;have d0:=HX.o.cell d0 (by simp);have d1:=HX.o.cell d1 (by simp);have d2:=HX.o.cell d2 (by simp);clear g0 g1 g2 g3 g4 g5;obtain⟨q0,q1,q2,z0,z1,z2⟩:=eJ HBx.o;go_wp2_with fail;go_roundw
    case rel =>refine⟨k+1,⟨vk,vn,vt⟩,by omega,by omega,by go_num,lh Hv.o.symm,lh (kj HBx.o rfl _ _ _),lh ?_⟩;exact(HT.o.trans0 HX.o).trans (gC _ _ _ _ _) (λb hb=>.inl hb)
    case measure=>simp[intOf];omega
   ·have hct:=bi hc;have Hv:=lh (Hbs.o.trans (ab (λh=>hc (by simpa using Hbe.o.1 h))));clear hc;go_wp2_with fail;refine eh wr (Touch.refl _ _) (by kernel_rfl) (by kernel_rfl) ?_;repeat (go_big_quiet_step (((go_at_call 78;exact Calls.tw _ (Hcv.o _)))))
    refine aS ?_;rintro _ ⟨x9,rfl⟩;have HX:=lh x9.t;have HBx:=lh (x9.t.blk HB.o (by simp));clear g0 g1 g2 g3 g4 g5;go_wp2_with fail;go_roundw
    case rel=>exact⟨k+1,⟨mk,mn,mt⟩,by omega,by omega,by go_num,lh Hv.o.symm,HBx,lh (HT.o.trans0 HX.o)⟩
    case measure=>simp[intOf];omega
 obtain rfl:k=l.length:=by omega
 have hM:=HM.o;rw[aH] at hM;have HM2:=lh hM;have HTW:=lh TW0;have hbr:=HT.o.blk HT0.o.2.1 (by simp);obtain⟨q0,q1,q2,z0,z1,z2⟩:=eJ HB.o;obtain⟨p0,p1,p2,y0,y1,y2⟩:=eJ hbr;have HBR:=lh hbr;clear hM HM TW0 hbr;go_wp2_with fail;refine aG (ci rfl _ _ w.heap.size _ _ _ _ rfl (kj HBR.o rfl _ _ _) Tryz.underlying130 rfl rfl) rfl ⟨by rw[<- HM2.o];rfl,HTW.o.trans (gC _ _ _ _ _) (λb hb=>.inr (by simp at hb;omega))⟩
end
end Go.Proofs.YtafoklilkdnepaaGreatDoor
