/- Part 31 of the texts of this proof, one behind the other. No condition beyond those that its theorems state. -/
import Derived.Test.YtafoklilkdnepaaGreatDoorRe30
set_option linter.all false
set_option maxRecDepth 40000
set_option maxHeartbeats 25600000
namespace Go.Proofs.YtafoklilkdnepaaGreatDoor
section
open Go.RowKit
def uo(b:Bool):List Value:=[.bool b]
theorem rU(b:Bool):(uo b).length=1:=rfl
theorem EI(b:Bool):∀u∈uo b,u.oneCell'=true:=by intro u hu;simp only[uo,List.mem_cons,List.not_mem_nil,or_false] at hu;subst hu;rfl
theorem FL{w:World}{A:Option Addr}{l:List Bool}(h:d9 uo w A l)(k:Nat)(hk:k<l.length):∃bd,A=some bd/\w.cell? (bd.add k)=some (.bool l[k]):=by obtain⟨ad,b,off,e1,e2,e3⟩:=d9.cells h 1 rU (by omega) k hk;rw[bO] at e2;refine⟨ad,e1, ?_⟩;rw[e2];exact e3 0 _ rfl
def uu(d:Bool)(i:Nat)(a b:List VD):Int:=if d=true then -eU (je a i) (je b i) else eU (je a i) (je b i)
def nk:List Nat->List Bool->List VD->List VD->Int
 |i:: is,d:: ds,a,b=>if uu d i a b=0 then nk is ds a b else uu d i a b
 | _,_,_,_=>0
theorem B_{at_:List Nat}{dn:List Bool}{a b:List VD}{k:Nat}(h:k<at_.length)(h2:k<dn.length):nk (at_.drop k) (dn.drop k) a b=if uu dn[k] at_[k] a b=0 then nk (at_.drop (k+1)) (dn.drop (k+1)) a b else uu dn[k] at_[k] a b:=by rw[bj h,bj h2];rfl
theorem C8{at_:List Nat}{dn:List Bool}{a b:List VD}{k:Nat}(h:at_.length<=k):nk (at_.drop k) (dn.drop k) a b=0:=by rw[b_ h];unfold nk;rfl
def mS(at_:List Nat)(dn:List Bool)(a b:List VD):Int:=if nk at_ dn a b=0 then ej a b else nk at_ dn a b
def jA(P:List RP)(at_:List Nat)(dn:List Bool)(i:Nat)(p:List VD)(k:Nat):Bool:=match P[k]? with
 |some q=>decide (mS at_ dn q.2 p<0\/mS at_ dn q.2 p=0/\k<i)
 |none=>false
def xS(P:List RP)(at_:List Nat)(dn:List Bool)(i:Nat)(p:List VD)(n:Nat):Nat:=((List.range n).filter (jA P at_ dn i p)).length
theorem kp(P:List RP)(at_:List Nat)(dn:List Bool)(i:Nat)(p:List VD)(n:Nat):xS P at_ dn i p (n+1)=xS P at_ dn i p n+(if jA P at_ dn i p n=true then 1 else 0):=by
 unfold xS;rw[dg,bZ,az];by_cases h:jA P at_ dn i p n=true
 ·rw[ae h,cS h];rfl
 rw[ab h,cR h];rfl
def vv(P:List RP)(at_:List Nat)(dn:List Bool)(count:Int)(o:List RP)(i:Nat):List RP:=match P[i]? with
 |some p=>if (xS P at_ dn i p.2 P.length:Int)<count then o++[p] else o
 |none=>o
def lG(P:List RP)(at_:List Nat)(dn:List Bool)(count:Int)(n:Nat):List RP:=(List.range n).foldl (vv P at_ dn count) []
theorem pO(P:List RP)(at_:List Nat)(dn:List Bool)(count:Int)(n:Nat):lG P at_ dn count (n+1)=vv P at_ dn count (lG P at_ dn count n) n:=by unfold lG;rw[dg,cX];rfl
theorem o8{P:List RP}{at_:List Nat}{dn:List Bool}{count:Int}{x:RP}:∀{n:Nat},x∈lG P at_ dn count n->x∈P
 | 0,h=>by simp[lG] at h
 |n+1,h=>by
  rw[pO] at h;unfold vv at h;cases hp:P[n]? with
  |none=>rw[hp] at h;exact o8 h
  |some p =>
   rw[hp] at h
   dsimp only at h
   split at h
   ·rcases aZ.1 h with h | h
    ·exact o8 h
    have:x=p:=by simpa using h
    rw[this];exact cV hp
   ·exact o8 h
theorem yL(A AA DA:Option Addr)(c n ac an dc dl:Nat)(P:List RP)(at_:List Nat)(dn:List Bool)(count:Int)(hn:P.length=n)(han:at_.length=an)(hdl:dn.length=dl)(had:dn.length=at_.length)(hl:n<=100000)(hla:an<=100000)(hok:mm P)(hat:∀ i∈at_,∀ p∈P,i<p.2.length)(w:World)(h:RowP w A P)(h2:d9 kH w AA at_)(h3:d9 uo w DA dn): Calls Tryz.prog 48 #[.slice A n c,.slice AA an ac,.slice DA dl dc,.int .i64 count] w λe w'=>∃B c' m,e=.returned (.slice B m c')/\m=(lG P at_ dn count P.length).length/\RowP w' B (lG P at_ dn count P.length)/\Touch [] w w':=by
 subst hn han hdl;have HP:=lh h;have Hok:=lh hok;have Hat:=Gb h2 hat;have Hdn:=Gb h3 had;clear h hok h2 h3 hat had;go_enter Tryz.func48,Tryz.ntmps48;go_wp2_with fail;go_loopw [9,10] (λov iv wr=>∃(i m:Nat)(O:Option Addr)(oc:Nat),i<=P.length/\iv=.int .i64 i/\ov=.slice O m oc/\m<=i/\Ga (m=(lG P at_ dn count i).length/\Made 105 1 jr (lG P at_ dn count i) O oc w wr)) (λ_ i _=>P.length-(intOf i).toNat)
 case atStart=>exact⟨0,0,none,0,by omega,rfl,rfl,by omega,lh ⟨rfl,Made.nil _ _ _ _⟩⟩
 case round =>
 obtain⟨i,m,O,oc,hi,rfl,rfl,hm,HK⟩:=hrel;by_cases hlt:i<P.length
 ·obtain⟨bd,rfl,e0⟩:=ku HP.o.rd i hlt;have Hgi:=lh (show P[i]?=some P[i] from aX hlt);have Hpm:=lh (am hlt);have hpv:=HP.o.vs _ (am hlt);have hpo:=Hok.o _ (am hlt);obtain⟨p,hp⟩:∃p,p=P[i]:=⟨_,rfl⟩;rw[<- hp] at e0 hpv hpo Hgi Hpm;have HPV:=Gb hpv hpo;obtain⟨⟨pA,pn,pc⟩,pl⟩:=p;obtain rfl:pn=pl.length:=hpv.1;obtain⟨wo,hwo⟩:∃wo,wo=wr:=⟨_,rfl⟩;subst hwo;dsimp only at e0;have EP:=lh e0;have Hrow:=lh λ(w':World)=>d9.one (enc:=jr) w' 105 (⟨pA,pl.length,pc⟩,pl) #[.slice pA pl.length pc] rfl;have Hm:=lh hm;have hkn:(i:Int)<(P.length:Int):=by omega
  clear hp hpv hpo e0 hm;go_wp2_with fail;go_loopw [11,12] (λav kv wr=>∃(k2 cn:Nat),k2<=P.length/\kv=.int .i64 k2/\av=.int .i64 cn/\cn<=k2/\Ga (xS P at_ dn i pl k2=cn)/\Ga (Touch [] wo wr)) (λ_ k _=>P.length-(intOf k).toNat)
  case atStart=>exact⟨0,0,by omega,rfl,rfl,by omega,lh rfl,lh (Touch.refl _ _)⟩
  case round =>
  obtain⟨k2,cn,hk2,rfl,rfl,hcn,Hcn,HTm⟩:=hrel;by_cases hl2:k2<P.length
  ·obtain⟨bd2,hbd,e1⟩:=ku HP.o.rd k2 hl2;obtain rfl:bd=bd2:=by injection hbd
   have Hgk:=lh (show P[k2]?=some P[k2] from aX hl2);have Hkm:=lh (am hl2);have hqv:=HP.o.vs _ (am hl2);have hqo:=Hok.o _ (am hl2);obtain⟨q,hq⟩:∃q,q=P[k2]:=⟨_,rfl⟩;rw[<- hq] at e1 hqv hqo Hgk Hkm;have HQV:=Gb hqv.2 hqo;obtain⟨⟨qA,qn,qc⟩,ql⟩:=q;obtain rfl:qn=ql.length:=hqv.1;obtain⟨wm,hwm⟩:∃wm,wm=wr:=⟨_,rfl⟩;subst hwm;dsimp only at e1;have EQ:=lh e1;have hkI2:(k2:Int)<(P.length:Int):=by omega
   clear hbd hq hqv hqo e1 hkn;go_wp2_with fail;clear hkI2;go_loopw [13,14] (λcv jv wr=>∃(j:Nat)(x:Int),j<=at_.length/\jv=.int .i64 j/\cv=.int .i64 x /\ -1<=x/\x<=1/\Ga (nk at_ dn ql pl=if x=0 then nk (at_.drop j) (dn.drop j) ql pl else x)/\Ga (Touch [] wm wr)) (λ_ j _=>at_.length-(intOf j).toNat)
   case atStart=>exact⟨0,0,by omega,rfl,rfl,by omega,by omega,lh (by rw[ae rfl];rfl),lh (Touch.refl _ _)⟩
   case round =>
   obtain⟨j,x,hj,rfl,rfl,hx1,hx2,HB,HTj⟩:=hrel;have HTW:=lh (HK.o.2.t.trans0 (HTm.o.trans0 HTj.o));by_cases hx0:x=0
   ·subst hx0;by_cases hjl:j<at_.length
    ·obtain⟨ai,rfl,a0⟩:=rW (d9.touch0 Hat.o.1 HTW.o) j hjl;obtain⟨di,rfl,d0⟩:=FL (d9.touch0 Hdn.o.1 HTW.o) j (by have:=Hdn.o.2;omega);have Hst:=lh (B_ (a:=ql) (b:=pl) hjl (show j<dn.length by have:=Hdn.o.2;omega));have hin:=Hat.o.2 _ (am hjl);obtain⟨t,ht⟩:∃t,t=at_[j]:=⟨_,rfl⟩;obtain⟨dd,hdd⟩:∃d,d=dn[j]'(by have:=Hdn.o.2;omega):=⟨_,rfl⟩;rw[<- ht] at a0 Hst hin;rw[<- hdd] at d0 Hst;clear ht hdd;have i1:t<ql.length:=hin _ Hkm.o;have i2:t<pl.length:=hin _ Hpm.o;obtain⟨aq,b1,o1,rfl,hadd1,c0,c1,c2⟩:=(HQV.o.1.touch0 HTW.o).at_ t i1;obtain⟨ap,b2,o2,rfl,hadd2,f0,f1,f2⟩:=(HPV.o.1.2.touch0 HTW.o).at_ t i2;have ho1:=HQV.o.2.2 _ (am i1);have ho2:=HPV.o.2.2 _ (am i2);have Hx:=lh (lJ i1);have Hy:=lh (lJ i2);obtain⟨u,hu⟩:∃u,u=ql[t]'i1:=⟨_,rfl⟩;obtain⟨v,hv⟩:∃v,v=pl[t]'i2:=⟨_,rfl⟩;rw[<- hu] at c0 c1 c2 ho1 Hx;rw[<- hv] at f0 f1 f2 ho2 Hy;obtain⟨k1,n1,s1⟩:=u;obtain⟨k2',n2,s2⟩:=v;dsimp only at c0 c1 c2 f0 f1 f2;have hcv:=λw'=>mG ⟨k1,n1,s1⟩ ⟨k2',n2,s2⟩ (by have:=ho1.t;simp only at this ⊢;omega) (by have:=ho2.t;simp only at this ⊢;omega) w';simp only[VD.val] at hcv;have hcb:=sP ⟨k1,n1,s1⟩ ⟨k2',n2,s2⟩;have Hb5:=lh (show uu dd t ql pl=if dd=true then -eU ⟨k1,n1,s1⟩ ⟨k2',n2,s2⟩ else eU ⟨k1,n1,s1⟩ ⟨k2',n2,s2⟩ by unfold uu;rw[Hx.o,Hy.o]);obtain⟨y,hy⟩:∃y,y=eU ⟨k1,n1,s1⟩ ⟨k2',n2,s2⟩:=⟨_,rfl⟩;rw[<- hy] at hcv hcb Hb5;have Hcv:=lh hcv;have g1:=TW.cell (HTW.o.cell EQ.o (by simp));have g2:=TW.cell (HTW.o.cell EP.o (by simp))
     have g3:=TW.cell a0;have g4:=TW.cell c0;have g5:=TW.cell c1;have g6:=TW.cell c2;have g7:=TW.cell f0;have g8:=TW.cell f1;have g9:=TW.cell f2;have D0:=lh d0;have q1:(k2:Int)<(P.length:Int):=by omega
     have q2:(i:Int)<(P.length:Int):=by omega
     have q3:(t:Int)<(ql.length:Int):=by omega
     have q4:(t:Int)<(pl.length:Int):=by omega
     have q5:(j:Int)<(at_.length:Int):=by omega
     have q6:(j:Int)<(dn.length:Int):=by have:=Hdn.o.2;omega
     clear hin ho1 ho2 hu hv hcv hy c0 c1 c2 f0 f1 f2 a0 d0;cases dd with
     |false =>
      as_aux_lemma =>
      go_wp2_with fail
      refine eh wr (Touch.refl _ _) (by kernel_rfl) (by kernel_rfl) ?_
      repeat (go_big_quiet_step (((go_at_call 78;exact Calls.tw _ (Hcv.o _)))))
      refine aS ?_
      rintro wq ⟨⟨_,tq⟩,rfl⟩
      have HTq:=lh tq
      clear tq
      have d0:=HTq.o.cell D0.o (by simp)
      clear g1 g2 g3 g4 g5 g6 g7 g8 g9
      go_wp2_with fail
      go_roundw
      case rel=>exact⟨j+1,y,by omega,by go_num,rfl,by omega,by omega,lh (by rw[HB.o,ae (by trivial),Hst.o,Hb5.o];simp),lh (HTj.o.trans0 HTq.o)⟩
      case measure=>simp[intOf];omega
     |true =>
      as_aux_lemma =>
      have hng:IntKind.i64.wrap (-y) = -y:=cU _ (by omega)
      go_wp2_with fail
      refine eh wr (Touch.refl _ _) (by kernel_rfl) (by kernel_rfl) ?_
      repeat (go_big_quiet_step (((go_at_call 78;exact Calls.tw _ (Hcv.o _)))))
      refine aS ?_
      rintro wq ⟨⟨_,tq⟩,rfl⟩
      have HTq:=lh tq
      clear tq
      have d0:=HTq.o.cell D0.o (by simp)
      clear g1 g2 g3 g4 g5 g6 g7 g8 g9
      go_wp2_with fail
      go_roundw
      case rel=>exact⟨j+1, -y,by omega,by go_num,by go_num,by omega,by omega,lh (by rw[HB.o,ae (by trivial),Hst.o,Hb5.o];simp),lh (HTj.o.trans0 HTq.o)⟩
      case measure=>simp[intOf];omega
    have q5:((j:Int)<(at_.length:Int))=False:=bi (by omega);have g1:=TW.cell (HTW.o.cell EQ.o (by simp));have g2:=TW.cell (HTW.o.cell EP.o (by simp));have q1:(k2:Int)<(P.length:Int):=by omega
    have q2:(i:Int)<(P.length:Int):=by omega
    have Hcr:=lh λw'(t:Touch [] wr w')=>jN qA pA qc pc ql.length pl.length ql pl rfl rfl HQV.o.2.2 HPV.o.2.2 w' (HQV.o.1.touch0 (HTW.o.trans0 t)) (HPV.o.1.2.touch0 (HTW.o.trans0 t)) HQV.o.2.1 HPV.o.2.1;have HC:=lh (show mS at_ dn ql pl=ej ql pl by unfold mS;rw[ae (by rw[HB.o,ae (by trivial)];exact C8 (by omega))]);obtain⟨y,hy⟩:∃y,y=ej ql pl:=⟨_,rfl⟩;rw[<- hy] at HC Hcr;clear hy;by_cases hy0:y<0
    ·as_aux_lemma =>
     have Hah:=lh (show jA P at_ dn i pl k2=true by unfold jA;rw[Hgk.o];exact aF (bI (by rw[HC.o];exact hy0)));go_wp2_with fail;refine eh wr (Touch.refl _ _) (by kernel_rfl) (by kernel_rfl) ?_;repeat (go_big_quiet_step (((go_at_call 51;exact Calls.tw _ (Hcr.o _ (TW.t _))))))
     refine aS ?_;rintro wq ⟨⟨_,tq⟩,rfl⟩;have HTq:=lh tq;clear tq;go_wp2_with fail;go_roundw
     case rel=>exact⟨k2+1,cn+1,by omega,by go_num,by go_num,by omega,lh (by rw[kp,Hah.o,ae rfl,Hcn.o]),lh (HTm.o.trans0 (HTj.o.trans0 HTq.o))⟩
     case measure=>simp[intOf];omega
    by_cases hyz:y=0
    ·subst hyz;by_cases hki:k2<i
     ·as_aux_lemma =>
      have Hah:=lh (show jA P at_ dn i pl k2=true by unfold jA;rw[Hgk.o];exact aF (Or.inr ⟨HC.o,hki⟩));have hkI:(k2:Int)<(i:Int):=by omega
      go_wp2_with fail;refine eh wr (Touch.refl _ _) (by kernel_rfl) (by kernel_rfl) ?_;repeat (go_big_quiet_step (((go_at_call 51;exact Calls.tw _ (Hcr.o _ (TW.t _))))))
      refine aS ?_;rintro wq ⟨⟨_,tq⟩,rfl⟩;have HTq:=lh tq;clear tq;go_wp2_with fail;go_roundw
      case rel=>exact⟨k2+1,cn+1,by omega,by go_num,by go_num,by omega,lh (by rw[kp,Hah.o,ae rfl,Hcn.o]),lh (HTm.o.trans0 (HTj.o.trans0 HTq.o))⟩
      case measure=>simp[intOf];omega
     as_aux_lemma =>
     have Hah:=lh (show jA P at_ dn i pl k2=false by unfold jA;rw[Hgk.o];exact aC (by rw[HC.o];omega));have hkI:((k2:Int)<(i:Int))=False:=bi (by omega);go_wp2_with fail;refine eh wr (Touch.refl _ _) (by kernel_rfl) (by kernel_rfl) ?_;repeat (go_big_quiet_step (((go_at_call 51;exact Calls.tw _ (Hcr.o _ (TW.t _))))))
     refine aS ?_;rintro wq ⟨⟨_,tq⟩,rfl⟩;have HTq:=lh tq;clear tq;go_wp2_with fail;go_roundw
     case rel=>exact⟨k2+1,cn,by omega,by go_num,by go_num,by omega,lh (by rw[kp,Hah.o,ab (by simp),aM,Hcn.o]),lh (HTm.o.trans0 (HTj.o.trans0 HTq.o))⟩
     case measure=>simp[intOf];omega
    as_aux_lemma =>
    have Hah:=lh (show jA P at_ dn i pl k2=false by unfold jA;rw[Hgk.o];exact aC (by rw[HC.o];omega));have hz1:(y==0)=false:=by rw[aw];exact hyz
    have hz2:(y<0)=False:=bi hy0;go_wp2_with fail;refine eh wr (Touch.refl _ _) (by kernel_rfl) (by kernel_rfl) ?_;repeat (go_big_quiet_step (((go_at_call 51;exact Calls.tw _ (Hcr.o _ (TW.t _))))))
    refine aS ?_;rintro wq ⟨⟨_,tq⟩,rfl⟩;have HTq:=lh tq;clear tq;go_wp2_with fail;go_roundw
    case rel=>exact⟨k2+1,cn,by omega,by go_num,by go_num,by omega,lh (by rw[kp,Hah.o,ab (by simp),aM,Hcn.o]),lh (HTm.o.trans0 (HTj.o.trans0 HTq.o))⟩
    case measure=>simp[intOf];omega
   by_cases hjl:j<at_.length
   ·have q5:(j:Int)<(at_.length:Int):=by omega
    have HC:=lh (show mS at_ dn ql pl=x by unfold mS;rw[HB.o,ab hx0,ab hx0]);have hz1:(x==0)=false:=by rw[aw];exact hx0
    by_cases hy0:x<0
    ·as_aux_lemma =>
     have Hah:=lh (show jA P at_ dn i pl k2=true by unfold jA;rw[Hgk.o];exact aF (bI (by rw[HC.o];exact hy0)));go_wp2_with fail;go_roundw
     case rel=>exact⟨k2+1,cn+1,by omega,by go_num,by go_num,by omega,lh (by rw[kp,Hah.o,ae rfl,Hcn.o]),lh (HTm.o.trans0 HTj.o)⟩
     case measure=>simp[intOf];omega
    as_aux_lemma =>
    have Hah:=lh (show jA P at_ dn i pl k2=false by unfold jA;rw[Hgk.o];exact aC (by rw[HC.o];omega));have hz2:(x<0)=False:=bi hy0;go_wp2_with fail;go_roundw
    case rel=>exact⟨k2+1,cn,by omega,by go_num,by go_num,by omega,lh (by rw[kp,Hah.o,ab (by simp),aM,Hcn.o]),lh (HTm.o.trans0 HTj.o)⟩
    case measure=>simp[intOf];omega
   have q5:((j:Int)<(at_.length:Int))=False:=bi (by omega);have HC:=lh (show mS at_ dn ql pl=x by unfold mS;rw[HB.o,ab hx0,ab hx0]);have hz1:(x==0)=false:=by rw[aw];exact hx0
   by_cases hy0:x<0
   ·as_aux_lemma =>
    have Hah:=lh (show jA P at_ dn i pl k2=true by unfold jA;rw[Hgk.o];exact aF (bI (by rw[HC.o];exact hy0)));go_wp2_with fail;go_roundw
    case rel=>exact⟨k2+1,cn+1,by omega,by go_num,by go_num,by omega,lh (by rw[kp,Hah.o,ae rfl,Hcn.o]),lh (HTm.o.trans0 HTj.o)⟩
    case measure=>simp[intOf];omega
   as_aux_lemma =>
   have Hah:=lh (show jA P at_ dn i pl k2=false by unfold jA;rw[Hgk.o];exact aC (by rw[HC.o];omega));have hz2:(x<0)=False:=bi hy0;go_wp2_with fail;go_roundw
   case rel=>exact⟨k2+1,cn,by omega,by go_num,by go_num,by omega,lh (by rw[kp,Hah.o,ab (by simp),aM,Hcn.o]),lh (HTm.o.trans0 HTj.o)⟩
   case measure=>simp[intOf];omega
  obtain rfl:k2=P.length:=by omega
  have Hfi:=lh (show lG P at_ dn count (i+1)=if (cn:Int)<count then lG P at_ dn count i++[(⟨pA,pl.length,pc⟩,pl)] else lG P at_ dn count i by rw[pO];unfold vv;rw[Hgi.o];dsimp only;rw[Hcn.o]);have HM:=lh (HK.o.2.touch0 HTm.o);have q0:((P.length:Int)<(P.length:Int))=False:=bi (by omega);by_cases hc:(cn:Int)<count
  ·rw[ae hc] at Hfi;have e0:=(HK.o.2.t.trans0 HTm.o).cell EP.o (by simp);go_wp2_with (at_builtin;refine ez ?_);refine go ?_;refine eb (enc:=jr) rfl (.tmp 91) (.tmp 96) 66 rfl 105 _ 1 24 gh cl rfl (by omega) il j5 O m oc _ HK.o.1.symm rfl ((HM.o.touch0 ((Touch.refl [] wr).alloc _)).own) (some ⟨wr.heap.size,0,none⟩) 1 1 [(⟨pA,pl.length,pc⟩,pl)] rfl rfl (Hrow.o wr) (by have:=Hm.o;omega) (by omega) ?_;intro N3 nc3 w3 hO t f;have HM3:=lh ((HM.o.touch0 ((Touch.refl [] wr).alloc _)).step hO t f);clear hO t f;go_wp2_with fail;go_roundw
   case rel=>exact⟨i+1,m+1,N3,nc3,by omega,by go_num,rfl,by have:=Hm.o;omega,lh ⟨by rw[Hfi.o,az,<- HK.o.1];rfl,by rw[Hfi.o];exact HM3.o⟩⟩
   case measure=>simp[intOf];omega
  rw[ab hc] at Hfi;have hc':((cn:Int)<count)=False:=bi hc;go_wp2_with fail;go_roundw
  case rel=>exact⟨i+1,m,O,oc,by omega,by go_num,rfl,by have:=Hm.o;omega,lh ⟨by rw[Hfi.o];exact HK.o.1,by rw[Hfi.o];exact HM.o⟩⟩
  case measure=>simp[intOf];omega
 obtain rfl:i=P.length:=by omega
 go_wp2_with fail;go_ret;exact⟨O,oc,m,rfl,HK.o.1,⟨HK.o.2.own.rd,λp hp=>(HP.o.vs p (o8 hp)).touch0 HK.o.2.t⟩,HK.o.2.t⟩
end
section
open Go.RowKit
def ua(a b:List VD)(s:Nat × Nat):Bool:=decide ((je a s.1).kind≠0)&&kO (je a s.1) (je b s.2)
def iZ(ls rs:List Nat)(a b:List VD):Bool:=(ls.zip rs).all (ua a b)
def yq(Q:List RP)(ls rs:List Nat)(left:Bool)(wide:Nat)(a:List VD):List (List VD):=
 (Q.filter λq=>iZ ls rs a q.2).map (λq=>a++q.2)++(if left=true/\(Q.any λq=>iZ ls rs a q.2)=false then [a++List.replicate wide ⟨0,0,⟨#[]⟩⟩] else [])
def lT(P Q:List RP)(ls rs:List Nat)(left:Bool)(wide:Nat):List (List VD):=P.flatMap λp=>yq Q ls rs left wide p.2
theorem BQ{α:Type}(l:List α)(a:α)(f:α->Bool):(l++[a]).all f=(l.all f&&f a):=by simp
theorem mM(w:World)(X Y:Obj):((w.alloc X).alloc Y).drew.heap[w.heap.size]?=some X/\((w.alloc X).alloc Y).drew.heap[w.heap.size+1]?=some Y/\Touch [] w ((w.alloc X).alloc Y).drew:=by have t:=(Touch.refl [] (w.alloc X)).alloc Y;have h:=ah (w.alloc X) Y;rw[ao] at h;exact⟨(Touch.refl [] _).drew.blk (t.blk (ah w X) (by simp)) (by simp),(Touch.refl [] _).drew.blk h (by simp),(((Touch.refl [] w).alloc X).alloc Y).drew⟩
theorem rX{w:World}{g:Nat}{a0 a1 a2:Value}{t:TypeId}(h:w.heap[g]?=some (.cells #[a0,a1,a2] t (0,0))):w.cell? ⟨g,0,none⟩=some a0/\w.cell? ⟨g,1,none⟩=some a1/\w.cell? ⟨g,2,none⟩=some a2:=⟨d_ h rfl,d_ h rfl,d_ h rfl⟩
theorem BG(A B0 L R:Option Addr)(c n d m0 lc rc l:Nat)(wd:Nat)(left:Bool)(P Q:List RP)(ls rs:List Nat)(hn:P.length=n)(hm:Q.length=m0)(hll:ls.length=l)(hrl:rs.length=l)(hl:n<=1000)(hl2:m0<=1000)(hl3:l<=1000)(hl4:wd<=1000) (hok:mm P) (hok2:mm Q) (hsz:∀p∈P,p.2.length<=1000) (hsz2:∀p∈Q,p.2.length<=1000) (hla:∀i∈ls,∀p∈P,i<p.2.length) (hra:∀i∈rs,∀p∈Q,i<p.2.length) (w:World) (h:RowP w A P) (h2:RowP w B0 Q) (h3:d9 kH w L ls) (h4:d9 kH w R rs) : Calls Tryz.prog 45 #[.slice A n c,.slice B0 m0 d,.slice L l lc,.slice R l rc,.bool left,.int .i64 wd] w λe w'=>∃B c' m,e=.returned (.slice B m c')/\m=(lT P Q ls rs left wd).length/\eW w' B (lT P Q ls rs left wd)/\Touch [] w w':=by
 subst hn hm;have HP:=Gc h hok hsz;have HQ:=Gc h2 hok2 hsz2;have HL:=Gc h3 hla hll;have HR:=Gc h4 hra hrl;clear h hok hsz h2 hok2 hsz2 h3 hla h4 hra hll hrl;go_enter Tryz.func45,Tryz.ntmps45;go_wp2_with fail;go_loopw [13,14] (λov iv wr=>∃(i m:Nat)(B:Option Addr)(c2:Nat),i<=P.length/\iv=.int .i64 i/\ov=.slice B m c2/\m<=i*1001/\Ga (True/\m=(lT (P.take i) Q ls rs left wd).length/\fl 105 w.heap.size wr B c2 (lT (P.take i) Q ls rs left wd)/\Touch [] w wr/\∀b∈ed B,w.heap.size<=b)) (λ_ i _=>P.length-(intOf i).toNat)
 case atStart=>exact⟨0,0,none,0,by omega,rfl,rfl,by omega,lh ⟨trivial,rfl,fl.nil _ _ _,Touch.refl _ _,by simp[ed]⟩⟩
 case round =>
 obtain⟨i,m,B,c2,hi,rfl,rfl,hmi,HO⟩:=hrel;by_cases hlt:i<P.length
 ·obtain⟨ba,rfl,e0⟩:=ku HP.o.1.rd i hlt;have Hsn:=lh (show lT (P.take (i+1)) Q ls rs left wd=lT (P.take i) Q ls rs left wd++yq Q ls rs left wd P[i].2 by unfold lT;rw[au hlt,du,bB,List.flatMap_nil,bN]);have Hpm:=lh (am hlt);have hpv:=HP.o.1.vs _ (am hlt);have hpo:=HP.o.2.1 _ (am hlt);have hps:=HP.o.2.2 _ (am hlt);obtain⟨p,hp⟩:∃p,p=P[i]:=⟨_,rfl⟩;rw[<- hp] at e0 hpv hpo Hsn Hpm hps;have HPV:=Gc hpv.2 hpo hps;obtain⟨⟨pA,pn,pc⟩,pl⟩:=p;obtain rfl:pn=pl.length:=hpv.1;obtain⟨base,hbase⟩:∃b,b=lT (P.take i) Q ls rs left wd:=⟨_,rfl⟩;rw[<- hbase] at HO Hsn;dsimp only at e0 hps Hsn;have EP:=lh e0;have hkn:(i:Int)<(P.length:Int):=by omega
  obtain⟨m1,hm1⟩:∃m1,m1=m:=⟨_,rfl⟩;have hml:m1<=i*1001:=by omega
  have Hml:=lh hml;have hm1b:m1<=1000000:=by omega
  have hpl:pl.length<=1000:=hps;clear hp hpv hpo e0 hps hbase hmi hml;go_wp2_with fail;go_loopw [13,15,16] (λov fv kv wr=>∃(k m:Nat)(B:Option Addr)(c2:Nat),k<=Q.length/\kv=.int .i64 k/\fv=.bool ((Q.take k).any λq=>iZ ls rs pl q.2)/\ov=.slice B m c2/\m<=m1+k/\Ga (True/\m=(base++((Q.take k).filter λq=>iZ ls rs pl q.2).map λq=>pl++q.2).length/\fl 105 w.heap.size wr B c2 (base++((Q.take k).filter λq=>iZ ls rs pl q.2).map λq=>pl++q.2)/\Touch [] w wr/\∀b∈ed B,w.heap.size<=b)) (λ_ _ k _=>Q.length-(intOf k).toNat)
  case atStart=>exact⟨0,m,B,c2,by omega,rfl,by simp,rfl,by omega,lh ⟨trivial,by simpa using HO.o.2.1,by simpa using HO.o.2.2.1,HO.o.2.2.2.1,HO.o.2.2.2.2⟩⟩
  case round =>
  clear HO hm1;obtain⟨k,m,B,c2,hk,rfl,rfl,rfl,hmk,HO⟩:=hrel;by_cases hl2:k<Q.length
  ·obtain⟨bb,rfl,e1⟩:=ku HQ.o.1.rd k hl2;have Htk:=lh (au hl2);have Hkm:=lh (am hl2);have hqv:=HQ.o.1.vs _ (am hl2);have hqo:=HQ.o.2.1 _ (am hl2);have hqs:=HQ.o.2.2 _ (am hl2);obtain⟨q,hq⟩:∃q,q=Q[k]:=⟨_,rfl⟩;rw[<- hq] at e1 hqv hqo hqs Htk Hkm;have HQV:=Gb hqv.2 hqo;obtain⟨⟨qA,qn,qc⟩,ql⟩:=q;obtain rfl:qn=ql.length:=hqv.1;dsimp only at e1 hqs;have EQ:=lh e1;obtain⟨wm,hwm⟩:∃wm,wm=wr:=⟨_,rfl⟩;subst hwm;have hkI2:(k:Int)<(Q.length:Int):=by omega
   have Hany:=lh (show ((Q.take (k+1)).any λq=>iZ ls rs pl q.2)=(((Q.take k).any λq=>iZ ls rs pl q.2)||iZ ls rs pl ql) by rw[Htk.o,List.any_append];simp);have Hfl:=lh (show ((Q.take (k+1)).filter λq=>iZ ls rs pl q.2).map (λq=>pl++q.2)=(((Q.take k).filter λq=>iZ ls rs pl q.2).map λq=>pl++q.2)++(if iZ ls rs pl ql=true then [pl++ql] else []) by
    rw[Htk.o,bZ,aT];by_cases hz:iZ ls rs pl ql=true
    ·rw[ae hz,cS (p:=fun q:RP=>iZ ls rs pl q.2) hz];rfl
    rw[ab hz,cR (p:=fun q:RP=>iZ ls rs pl q.2) hz];rfl)
   obtain⟨fd,hfd⟩:∃fd,fd=((Q.take k).any λq=>iZ ls rs pl q.2):=⟨_,rfl⟩;rw[<- hfd] at Hany ⊢;obtain⟨mid,hmid⟩:∃l,l=(((Q.take k).filter λq=>iZ ls rs pl q.2).map λq=>pl++q.2):=⟨_,rfl⟩;rw[<- hmid] at HO Hfl;clear hq hqv hqo e1 hfd hmid;go_wp2_with fail;go_loopw [17,18] (λbv jv wr=>∃(j:Nat)(b:Bool),j<=l/\jv=.int .i64 j/\bv=.bool b/\Ga (((ls.zip rs).take j).all (ua pl ql)=b)/\Ga (Touch [] wm wr)) (λ_ j _=>l-(intOf j).toNat)
   case atStart=>exact⟨0,true,by omega,rfl,rfl,lh (by simp),lh (Touch.refl _ _)⟩
   case round =>
   obtain⟨j,b,hj,rfl,rfl,HB,HTj⟩:=hrel;have HTW:=lh (HO.o.2.2.2.1.trans0 HTj.o);by_cases hjl:j<l
   ·obtain⟨al,rfl,l0⟩:=rW (d9.touch0 HL.o.1 HTW.o) j (by have:=HL.o.2.2;omega);obtain⟨ar,rfl,r0⟩:=rW (d9.touch0 HR.o.1 HTW.o) j (by have:=HR.o.2.2;omega);have hzl:j<(ls.zip rs).length:=by rw[dI,HL.o.2.2,HR.o.2.2];omega
    have Hst:=lh (show ((ls.zip rs).take (j+1)).all (ua pl ql)=(b&&ua pl ql (ls[j]'(by have:=HL.o.2.2;omega),rs[j]'(by have:=HR.o.2.2;omega))) by rw[au hzl,BQ,HB.o,List.getElem_zip])
    have i1:=HL.o.2.1 _ (am (show j<ls.length by have:=HL.o.2.2;omega)) _ Hpm.o;have i2:=HR.o.2.1 _ (am (show j<rs.length by have:=HR.o.2.2;omega)) _ Hkm.o;obtain⟨s,hs⟩:∃s,s=ls[j]'(by have:=HL.o.2.2;omega):=⟨_,rfl⟩;obtain⟨t,ht⟩:∃t,t=rs[j]'(by have:=HR.o.2.2;omega):=⟨_,rfl⟩;rw[<- hs] at l0 i1 Hst;rw[<- ht] at r0 i2 Hst;dsimp only at i1 i2;clear hs ht hzl;obtain⟨ap,b1,o1,rfl,hadd1,c0,c1,c2'⟩:=(HPV.o.1.touch0 HTW.o).at_ s i1;obtain⟨aq,b2,o2,rfl,hadd2,f0,f1,f2⟩:=(HQV.o.1.touch0 HTW.o).at_ t i2;have ho1:=HPV.o.2.1.2 _ (am i1);have ho2:=HQV.o.2.2 _ (am i2);have Hx:=lh (lJ i1);have Hy:=lh (lJ i2);obtain⟨u,hu⟩:∃u,u=pl[s]'i1:=⟨_,rfl⟩;obtain⟨v,hv⟩:∃v,v=ql[t]'i2:=⟨_,rfl⟩;rw[<- hu] at c0 c1 c2' ho1 Hx;rw[<- hv] at f0 f1 f2 ho2 Hy;obtain⟨k1,n1,s1⟩:=u;obtain⟨k2,n2,s2⟩:=v;dsimp only at c0 c1 c2' f0 f1 f2;have hcv:=λw'=>vz ⟨k1,n1,s1⟩ ⟨k2,n2,s2⟩ (by have:=ho1.t;simp only at this ⊢;omega) (by have:=ho2.t;simp only at this ⊢;omega) w';simp only[VD.val] at hcv;have Hpk:=lh (show ua pl ql (s,t)=(decide (k1≠0)&&kO ⟨k1,n1,s1⟩ ⟨k2,n2,s2⟩) by unfold ua;rw[Hx.o,Hy.o]);rw[Hpk.o] at Hst;obtain⟨sm,hsm⟩:∃sm,sm=kO ⟨k1,n1,s1⟩ ⟨k2,n2,s2⟩:=⟨_,rfl⟩;rw[<- hsm] at hcv Hst;have Hcv:=lh hcv
    have hcells:(fun w':World=>w'.cell? (ba.add i)=some (.slice (some ap) pl.length pc)/\w'.cell? (bb.add k)=some (.slice (some aq) ql.length qc)/\w'.cell? (al.add j)=some (.int .i64 s)/\w'.cell? (ar.add j)=some (.int .i64 t)/\w'.cell? ⟨b1,o1,none⟩=some (.int .i64 k1)/\w'.cell? ⟨b1,o1+1,none⟩=some (.int .i64 n1)/\w'.cell? ⟨b1,o1+2,none⟩=some (.string s1)/\w'.cell? ⟨b2,o2,none⟩=some (.int .i64 k2)/\w'.cell? ⟨b2,o2+1,none⟩=some (.int .i64 n2)/\w'.cell? ⟨b2,o2+2,none⟩=some (.string s2)) wr:=⟨HTW.o.cell EP.o (by simp),HTW.o.cell EQ.o (by simp),l0,r0,c0,c1,c2',f0,f1,f2⟩;have HC:=lh hcells;have q1:(i:Int)<(P.length:Int):=by omega
    have q2:(k:Int)<(Q.length:Int):=by omega
    have q3:(s:Int)<(pl.length:Int):=by omega
    have q4:(t:Int)<(ql.length:Int):=by omega
    have q5:(j:Int)<(l:Int):=by omega
    clear ho1 ho2 hu hv hcv hsm c0 c1 c2' f0 f1 f2 l0 r0 hcells Hx Hy Hpk i1 i2;go_upto_region 13 with fail;go_cut [19,20] (λv1 v2 wx=>∃(g1 g2:Nat),v1=.pointer (some ⟨g1,0,none⟩)/\v2=.pointer (some ⟨g2,0,none⟩)/\Ga (wx.heap[g1]?=some (.cells #[.int .i64 k1,.int .i64 n1,.string s1] 130 (0,0))/\wx.heap[g2]?=some (.cells #[.int .i64 k2,.int .i64 n2,.string s2] 130 (0,0))/\Touch [] wr wx))
    case first =>
     have KP:Ga (∀w',Touch [] wr.drew w'->(fun w':World=>w'.cell? (ba.add i)=some (.slice (some ap) pl.length pc)/\w'.cell? (bb.add k)=some (.slice (some aq) ql.length qc)/\w'.cell? (al.add j)=some (.int .i64 s)/\w'.cell? (ar.add j)=some (.int .i64 t)/\w'.cell? ⟨b1,o1,none⟩=some (.int .i64 k1)/\w'.cell? ⟨b1,o1+1,none⟩=some (.int .i64 n1)/\w'.cell? ⟨b1,o1+2,none⟩=some (.string s1)/\w'.cell? ⟨b2,o2,none⟩=some (.int .i64 k2)/\w'.cell? ⟨b2,o2+1,none⟩=some (.int .i64 n2)/\w'.cell? ⟨b2,o2+2,none⟩=some (.string s2)) w'):=lh λw' t=>by obtain⟨z0,z1,z2,z3,z4,z5,z6,z7,z8,z9⟩:=HC.o;have t:=(Touch.refl [] wr).drew.trans0 t;exact⟨t.cell z0 (by simp),t.cell z1 (by simp),t.cell z2 (by simp),t.cell z3 (by simp),t.cell z4 (by simp),t.cell z5 (by simp),t.cell z6 (by simp),t.cell z7 (by simp),t.cell z8 (by simp),t.cell z9 (by simp)⟩
     go_wp2_with fail;go_region_held3 (λw'=>w'.cell? (ba.add i)=some (.slice (some ap) pl.length pc)/\w'.cell? (bb.add k)=some (.slice (some aq) ql.length qc)/\w'.cell? (al.add j)=some (.int .i64 s)/\w'.cell? (ar.add j)=some (.int .i64 t)/\w'.cell? ⟨b1,o1,none⟩=some (.int .i64 k1)/\w'.cell? ⟨b1,o1+1,none⟩=some (.int .i64 n1)/\w'.cell? ⟨b1,o1+2,none⟩=some (.string s1)/\w'.cell? ⟨b2,o2,none⟩=some (.int .i64 k2)/\w'.cell? ⟨b2,o2+1,none⟩=some (.int .i64 n2)/\w'.cell? ⟨b2,o2+2,none⟩=some (.string s2)) (first | exact KP.o _ (Touch.refl _ _) | exact KP.o _ ((Touch.refl _ _).alloc _) | exact KP.o _ (((Touch.refl _ _).alloc _).alloc _)) (fail);all_goals
     go_wp2_with fail;go_meet;first
      |exact⟨_,_,rfl,rfl,lh ⟨(mM _ _ _).1,(mM _ _ _).2.1,(mM _ _ _).2.2⟩⟩
      |exact⟨_,_,rfl,rfl,lh ⟨(mM _ _ _).2.1,(mM _ _ _).1,(mM _ _ _).2.2⟩⟩
    case rest =>
    obtain⟨g1,g2,rfl,rfl,HG⟩:=hcut;obtain⟨wg,hwg⟩:∃wg,wg=wc:=⟨_,rfl⟩;subst hwg;obtain⟨c0,c1,c2'⟩:=rX HG.o.1;obtain⟨f0,f1,f2⟩:=rX HG.o.2.1;cases b with
    |false =>
     as_aux_lemma =>
     rw[cL] at Hst
     go_wp2_with fail
     go_roundw
     case rel=>exact⟨j+1,false,by omega,by go_num,rfl,Hst,lh (HTj.o.trans0 HG.o.2.2)⟩
     case measure=>simp[intOf];omega
    |true =>
     by_cases hz:k1=0
     ·as_aux_lemma =>
      subst hz;have Hst2:=lh (Hst.o.trans (show (true&&(decide ((0:Int)≠0)&&sm))=false by simp));go_wp2_with fail;go_roundw
      case rel=>exact⟨j+1,false,by omega,by go_num,rfl,Hst2,lh (HTj.o.trans0 HG.o.2.2)⟩
      case measure=>simp[intOf];omega
     ·as_aux_lemma =>
      have Hst2:=lh (Hst.o.trans (show (true&&(decide (k1≠0)&&sm))=sm by simp[hz]));have hz1:(k1==0)=false:=by rw[aw];exact hz
      have hz2:(k1 != 0)=true:=by rw[bne,hz1];rfl
      clear hz;go_wp2_with fail;refine(Hcv.o _).mono ?_;rintro e w5 ⟨rfl,t5⟩;have T5:=lh (HG.o.2.2.trans0 t5);clear t5;go_wp2_with fail;go_roundw
      case rel=>exact⟨j+1,sm,by omega,by go_num,rfl,Hst2,lh (HTj.o.trans0 T5.o)⟩
      case measure=>simp[intOf];omega
   obtain rfl:l=j:=by omega
   have hzl:(ls.zip rs).length=l:=by rw[dI,HL.o.2.2,HR.o.2.2];omega
   have Hok:=lh (show iZ ls rs pl ql=b by unfold iZ;rw[<- HB.o,bR (by omega)]);rw[Hok.o] at Hany Hfl;have e0:=HTW.o.cell EP.o (by simp);have hO2:=HO;have HO:=Ge trivial HO.o.2.1 (HO.o.2.2.1.touch0 HTj.o) HTW.o HO.o.2.2.2.2;have q0:((l:Int)<(l:Int))=False:=bi (by omega);clear hzl hO2 HB;cases b with
   |false =>
    as_aux_lemma =>
    rw[Bool.or_false] at Hany
    rw[ab (by simp),bN] at Hfl
    clear e0
    go_wp2_with fail
    go_roundw
    case rel=>exact⟨k+1,m,B,c2,by omega,by go_num,by rw[Hany.o],rfl,by omega,lh (by rw[Hfl.o];exact HO.o)⟩
    case measure=>simp[intOf];omega
   |true =>
    as_aux_lemma =>
    rw[Bool.or_true] at Hany
    rw[ae rfl] at Hfl
    go_wp2_with (at_builtin;refine ez ?_)
    refine go ?_
    refine eb (enc:=ff) rfl (.tmp 74) (.tmp 78) 105 rfl 130 _ 3 32 gT cK rfl (by omega) eO f8 none 0 0 [] rfl rfl (ep.nil _ _ _ _) pA pl.length pc pl rfl rfl (HPV.o.1.touch0 HTW.o) (by omega) (by omega) ?_
    intro A3 c3' w3 hO t f
    have HM1:=lh ((Made.nil 130 3 ff wr).step hO t f)
    have e1:=HM1.o.t.cell (HTW.o.cell EQ.o (by simp)) (by simp)
    clear hO t f e0
    go_wp2_with (at_builtin;refine ez ?_)
    refine go ?_
    refine eb (enc:=ff) rfl (.tmp 81) (.tmp 85) 105 rfl 130 _ 3 32 gT cK rfl (by omega) eO f8 A3 pl.length c3' ([]++pl) (by simp) rfl HM1.o.own qA ql.length qc ql rfl rfl (HQV.o.1.touch0 (HTW.o.trans0 HM1.o.t)) (by omega) (by omega) ?_
    intro A4 c4 w4 hO t f
    have HM2:=lh (HM1.o.step hO t f)
    clear hO t f e1
    go_wp2_with (at_builtin;refine ez ?_)
    refine go ?_
    have hB:=HO.o.2.2.1.lt
    have hsz:=HM2.o.t.size
    have hown:=HO.o.2.2.1.touch0 HM2.o.t
    refine gF rfl (.tmp 80) (.tmp 87) 66 rfl 105 gh cl w.heap.size B m c2 (base++mid) HO.o.2.1.symm rfl hown A4 c4 ([]++pl++ql) HM2.o.own.rd (λb hb=>⟨λq=>by have:=hB b q;have:=HM2.o.f b hb;omega,HM2.o.own.lt b hb,by have:=HM2.o.f b hb;have:=HO.o.2.2.2.1.size;omega⟩) 1 rfl (by omega) (by simp[List.length_append]) ?_
    intro B' c3 w' hown' ht hf
    have HX:=Gc hown' ht hf
    clear hown' ht hf hB hsz hown
    go_wp2_with fail
    go_roundw
    case rel =>
     have hl5:=HX.o.1;exact⟨k+1,m+1,B',c3,by omega,by go_num,by rw[Hany.o],rfl,by omega,lh ⟨trivial,by rw[Hfl.o,<- cA,az,<- HO.o.2.1];rfl,by rw[Hfl.o,<- cA];exact hl5,(((HO.o.2.2.2.1.trans0 HM2.o.t).alloc _).trans HX.o.2.1 (λb hb=>.inr (HO.o.2.2.2.2 b hb))),λb hb=>by
     rcases HX.o.2.2 b hb with q|q
     ·exact HO.o.2.2.2.2 b q
     have h1:=HO.o.2.2.2.1.size;have h2:=HM2.o.t.size;omega⟩⟩
    case measure=>simp[intOf];omega
  obtain rfl:k=Q.length:=by omega
  have q0:((Q.length:Int)<(Q.length:Int))=False:=bi (by omega);have Hr5:=lh (show yq Q ls rs left wd pl=(Q.filter λq=>iZ ls rs pl q.2).map (λq=>pl++q.2)++(if left=true/\(Q.any λq=>iZ ls rs pl q.2)=false then [pl++List.replicate wd ⟨0,0,⟨#[]⟩⟩] else []) from rfl);rw[aH] at HO ⊢;obtain⟨fd,hfd⟩:∃fd,fd=(Q.any λq=>iZ ls rs pl q.2):=⟨_,rfl⟩;rw[<- hfd] at Hr5 ⊢;obtain⟨mid,hmid⟩:∃l,l=((Q.filter λq=>iZ ls rs pl q.2).map λq=>pl++q.2):=⟨_,rfl⟩;rw[<- hmid] at HO Hr5;clear hfd hmid;cases left with
  |false =>
   as_aux_lemma =>
   rw[ab (by simp),bN] at Hr5
   go_wp2_with fail
   go_roundw
   case rel=>exact⟨i+1,m,B,c2,by omega,by go_num,rfl,by have:=Hml.o;omega,lh (by rw[Hsn.o,Hr5.o];exact HO.o)⟩
   case measure=>simp[intOf];omega
  |true =>
   cases fd with
   |true =>
    as_aux_lemma =>
    rw[ab (by simp),bN] at Hr5
    go_wp2_with fail
    go_roundw
    case rel=>exact⟨i+1,m,B,c2,by omega,by go_num,rfl,by have:=Hml.o;omega,lh (by rw[Hsn.o,Hr5.o];exact HO.o)⟩
    case measure=>simp[intOf];omega
   |false =>
    as_aux_lemma =>
    rw[ae ⟨rfl,rfl⟩] at Hr5
    have e0:=HO.o.2.2.2.1.cell EP.o (by simp)
    go_wp2_with (at_builtin;refine ez ?_)
    refine go ?_
    refine eb (enc:=ff) rfl (.tmp 94) (.tmp 98) 105 rfl 130 _ 3 32 gT cK rfl (by omega) eO f8 none 0 0 [] rfl rfl (ep.nil _ _ _ _) pA pl.length pc pl rfl rfl (HPV.o.1.touch0 HO.o.2.2.2.1) (by omega) (by omega) ?_
    intro A3 c3' w3 hO t f
    have HM1:=lh ((Made.nil 130 3 ff wr).step hO t f)
    clear hO t f e0
    obtain⟨wo,hwo⟩:∃wo,wo=wr:=⟨_,rfl⟩
    subst hwo
    go_wp2_with fail
    go_loopw [22,23] (λrv kv wx=>∃(k n2:Nat)(A:Option Addr)(c:Nat),k<=wd/\kv=.int .i64 k/\rv=.slice A n2 c/\n2=pl.length+k/\Ga (Made 130 3 ff (pl++List.replicate k ⟨0,0,⟨#[]⟩⟩) A c wo wx)) (λ_ k _=>wd-(intOf k).toNat)
    case atStart=>exact⟨0,pl.length,A3,c3',by omega,rfl,rfl,by omega,lh (by simpa using HM1.o)⟩
    case round =>
     obtain⟨k,n2,A5,c5,hk,rfl,rfl,hn2,HM⟩:=hrel;by_cases hkl:k<wd
     ·have hkI:(k:Int)<(wd:Int):=by omega
      have Hlen:=lh (show (pl++List.replicate k (⟨0,0,⟨#[]⟩⟩:VD)).length=n2 by rw[az,dY,hn2]);have Hrow:=lh (d9.one (enc:=ff) wr 130 ⟨0,0,⟨#[]⟩⟩ #[.int .i64 0,.int .i64 0,.string ⟨#[]⟩] rfl);have Hrp:=lh (show pl++List.replicate (k+1) (⟨0,0,⟨#[]⟩⟩:VD)=(pl++List.replicate k ⟨0,0,⟨#[]⟩⟩)++[⟨0,0,⟨#[]⟩⟩] by rw[cA,List.replicate_succ']);have Hnb:=lh (show n2<=2000/\n2=pl.length+k by omega);clear hn2;go_wp2_with (at_builtin;refine ez ?_);refine go ?_;refine eb (enc:=ff) rfl (.tmp 105) (.tmp 107) 105 rfl 130 _ 3 32 gT cK rfl (by omega) eO f8 A5 n2 c5 _ Hlen.o rfl ((HM.o.touch0 ((Touch.refl [] wr).alloc _)).own) (some ⟨wr.heap.size,0,none⟩) 1 1 [⟨0,0,⟨#[]⟩⟩] rfl rfl Hrow.o (by have:=Hnb.o;omega) (by omega) ?_;intro A6 c6 w6 hO t f;have HM6:=lh ((HM.o.touch0 ((Touch.refl [] wr).alloc _)).step hO t f);clear hO t f;go_wp2_with fail;go_roundw
      case rel=>exact⟨k+1,n2+1,A6,c6,by omega,by go_num,rfl,by have:=Hnb.o;omega,lh (by rw[Hrp.o];exact HM6.o)⟩
      case measure=>simp[intOf];omega
     obtain rfl:wd=k:=by omega
     subst hn2;have q0:((wd:Int)<(wd:Int))=False:=bi (by omega);go_wp2_with (at_builtin;refine ez ?_);refine go ?_;have hB:=HO.o.2.2.1.lt;have hsz:=HM.o.t.size;have hown:=HO.o.2.2.1.touch0 HM.o.t;refine gF rfl (.tmp 109) (.tmp 111) 66 rfl 105 gh cl w.heap.size B m c2 (base++mid) HO.o.2.1.symm rfl hown A5 c5 (pl++List.replicate wd (⟨0,0,⟨#[]⟩⟩:VD)) HM.o.own.rd (λb hb=>⟨λq=>by have:=hB b q;have:=HM.o.f b hb;omega,HM.o.own.lt b hb,by have:=HM.o.f b hb;have:=HO.o.2.2.2.1.size;omega⟩) 1 rfl (by omega) (by simp[List.length_append]) ?_;intro B' c3 w' hown' ht hf;have HX:=Gc hown' ht hf;clear hown' ht hf hB hsz hown;go_wp2_with fail;go_roundw
     case rel =>
      have hl5:=HX.o.1;exact⟨i+1,m+1,B',c3,by omega,by go_num,rfl,by have:=Hml.o;omega,lh ⟨trivial,by rw[Hsn.o,Hr5.o,<- cA,az,<- HO.o.2.1];rfl,by rw[Hsn.o,Hr5.o,<- cA];exact hl5,(((HO.o.2.2.2.1.trans0 HM.o.t).alloc _).trans HX.o.2.1 (λb hb=>.inr (HO.o.2.2.2.2 b hb))),λb hb=>by
      rcases HX.o.2.2 b hb with q|q
      ·exact HO.o.2.2.2.2 b q
      have h1:=HO.o.2.2.2.1.size;have h2:=HM.o.t.size;omega⟩⟩
     case measure=>simp[intOf];omega
 obtain rfl:i=P.length:=by omega
 rw[aH] at HO;go_wp2_with fail;go_ret;exact⟨B,c2,m,rfl,HO.o.2.1,HO.o.2.2.1.rowsAt,HO.o.2.2.2.1⟩
end
end Go.Proofs.YtafoklilkdnepaaGreatDoor
