/- Part 13 of the texts of this proof, one behind the other. No condition beyond those that its theorems state. -/
import Derived.Test.YtafoklilkdnepaaGreatDoorRe12
set_option linter.all false
set_option maxRecDepth 40000
set_option maxHeartbeats 25600000
namespace Go.Proofs.YtafoklilkdnepaaGreatDoor
section
open Go.RowKit
theorem Ax:(Tryz.prog.info? 3).map (λi=>(i.zero,i.size,i.bytes))=some (some (.int .i64 0),1,8):=by kernel_rfl
theorem nQ(cs:List CD)(n d:Nat)(e:TX (n+1)):eV cs (n+1) d e =
 (if 32<d then (0,52)
 else if gL e.1 e.2.length=false then (0,20)
 else if e.1.kind=2 then (e.1.v.kind,0)
 else if e.1.kind=1 then (match rg cs e.1.name with | some t=>(t,0) | none=>(0,13))
 else match e.2.find? λa=>decide ((eV cs n (d+1) a).2≠0) with
  |some a=>(0,(eV cs n (d+1) a).2)
  |none=>match jd e.1 with
   |none=>(0,20)
   |some r=>match fR r.args (e.2.map λa=>(eV cs n (d+1) a).1) 0 with
    |(both,true)=>if r.o = -1 then (both,0) else (r.o,0)
    |(_,false)=>(0,12):Int × Int):=rfl
theorem DY{α:Type}{p:α->Bool}{l:List α}{k:Nat}(h:k<l.length)(hk:p l[k]=true)(hno:∀ a∈l.take k,p a=false):l.find? p=some l[k]:=by rw[List.find?_eq_some_iff_getElem];refine⟨hk,k,h,rfl,λj hj=> ?_⟩;have:=hno l[j] (List.mem_take_iff_getElem.2 ⟨j,by omega,rfl⟩);simp[this]
theorem B4{α:Type}{p:α->Bool}{l:List α}(hno:∀ a∈l,p a=false):l.find? p=none:=by rw[List.find?_eq_none];intro a ha;rw[hno a ha];simp
def Ag(n:Nat):Prop:=∀(e:TX n)(x:XC)(A:Option Addr)(cap m:Nat)(cs:List CD)(_:cs.length=m)(d:Nat)(w:World),iJ iX jf n w x e->em w A cs->m<=140737000000000->fj n e<=1000000->gj (λq=>q.v.text.size<=140737000000000) n e->d<=1000000000 ->
 Calls Tryz.prog 103 #[x.val,.slice A m cap,.int .i64 d] w λr w'=>r=.returned (.tuple #[.int .i64 (eV cs n d e).1,.int .i64 (eV cs n d e).2])/\Touch [] w w'
theorem AV(n:Nat):Ag n:=by
 induction n with
 |zero=>intro e;exact e.elim
 |succ n ih =>
  intro e x A cap m cs hm d w hx hcs hmb hs hall hd
  subst hm
  have Hst:=lh (nQ cs n d e)
  obtain⟨nd,args⟩:=e
  obtain⟨h1,h2,h3⟩:=hx.args
  obtain⟨ha1,ha2⟩:=hall
  have hsum:j7 n args<=1000000:=by have hs':1+j7 n args<=1000000:=hs;omega
  have hlen:=oY n args
  dsimp only at h1 h2 h3 ha1 ha2
  subst h1
  have Hform:=lh λw'=>Cy x ha1 w'
  have Hrule:=lh λw'=>wV x w'
  have Hfind:=lh λw'(t:Touch [] w w')=>fS A cap cs.length cs rfl x.nd.name w' (hcs.touch0 t) hmb
  obtain⟨⟨k,nm,⟨vk,vn,vt⟩,op⟩,XA,m,c⟩:=x
  dsimp only at h2 h3 ha1
  subst h2
  simp only[XC.val] at Hform Hrule ⊢
  simp only at Hst Hfind
  have t0:=(Touch.refl [] w).alloc (.cells #[.int .i64 k,.string nm,.int .i64 vk,.int .i64 vn,.string vt,.string op,.slice XA args.length c] 44)
  have hb:=ah w (.cells #[.int .i64 k,.string nm,.int .i64 vk,.int .i64 vn,.string vt,.string op,.slice XA args.length c] 44)
  have Hb:=lh hb
  obtain⟨res,hres⟩:∃res,res=eV cs (n+1) d ((⟨k,nm,⟨vk,vn,vt⟩,op⟩,args):TX (n+1)):=⟨_,rfl⟩
  rw[<- hres] at Hst ⊢
  clear hb hx hs hres
  by_cases hd32:32<d
  ·have Hf:=lh (show res=(0,52) by rw[Hst.o,ae hd32]);have hdI:(32:Int)<(d:Int):=by omega
   go_enter Tryz.func103,Tryz.ntmps103;go_wp2_with fail;go_ret2;exact⟨by rw[Hf.o];rfl,t0⟩
  have hdI:¬(32:Int)<(d:Int):=by omega
  rcases hfo:gL ⟨k,nm,⟨vk,vn,vt⟩,op⟩ args.length with _|_
  ·have Hf:=lh (show res=(0,20) by rw[Hst.o,ab hd32,ae hfo]);rw[hfo] at Hform;clear hfo;go_enter Tryz.func103,Tryz.ntmps103;go_wp2_with fail;refine(Hform.o _).mono ?_;rintro e w1 ⟨rfl,t1⟩;go_wp2_with fail;go_ret2;exact⟨by rw[Hf.o];rfl,t0.trans0 t1⟩
  rw[hfo] at Hform
  by_cases hk2:k=2
  ·have Hf:=lh (show res=(vk,0) by rw[Hst.o,ab hd32,ab (by rw[hfo];simp),ae hk2]);subst hk2;clear hfo;go_enter Tryz.func103,Tryz.ntmps103;go_wp2_with fail;refine(Hform.o _).mono ?_;rintro e w1 ⟨rfl,t1⟩;have hb1:=t1.blk Hb.o (by simp);obtain⟨c0,c1,c2,c3,c4,c5,c6,_⟩:=gG hb1;go_wp2_with fail;go_ret2;exact⟨by rw[Hf.o];rfl,t0.trans0 t1⟩
  have q2:(k==2)=false:=by simpa using hk2
  by_cases hk1:k=1
  ·rcases hp:ef cs nm with _ | q
   ·have Hf:=lh (show res=(0,13) by rw[Hst.o,ab hd32,ab (by rw[hfo];simp),ab hk2,ae hk1];unfold rg;rw[hp]);rw[hp] at Hfind;subst hk1;clear hfo hp hk2;go_enter Tryz.func103,Tryz.ntmps103;go_wp2_with fail;refine(Hform.o _).mono ?_;rintro e w1 ⟨rfl,t1⟩;have hb1:=t1.blk Hb.o (by simp);obtain⟨c0,c1,c2,c3,c4,c5,c6,_⟩:=gG hb1;go_wp2_with fail;refine(Hfind.o _ (t0.trans0 t1)).mono ?_;rintro e w2 ⟨rfl,t2⟩;go_wp2_with fail;go_ret2;exact⟨by rw[Hf.o];rfl,(t0.trans0 t1).trans0 t2⟩
   have hql:=eS hp;have Hf:=lh (show res=(cs[q].typ,0) by rw[Hst.o,ab hd32,ab (by rw[hfo];simp),ab hk2,ae hk1];unfold rg;rw[hp];simp only;rw[aX hql];rfl);rw[hp] at Hfind;simp only[Option.getD_some,Option.isSome_some] at Hfind;subst hk1;clear hfo hp hk2;go_enter Tryz.func103,Tryz.ntmps103;go_wp2_with fail;refine(Hform.o _).mono ?_;rintro e w1 ⟨rfl,t1⟩;have hb1:=t1.blk Hb.o (by simp);obtain⟨c0,c1,c2,c3,c4,c5,c6,_⟩:=gG hb1;go_wp2_with fail;refine(Hfind.o _ (t0.trans0 t1)).mono ?_;rintro e w2 ⟨rfl,t2⟩;obtain⟨ad,b,off,rfl,hadd,f0,f1⟩:=(hcs.touch0 ((t0.trans0 t1).trans0 t2)).at_ q hql;have hqI:(q:Int)<(cs.length:Int):=by omega
   have hqI0:(0:Int)<=(q:Int):=by omega
   go_wp2_with fail;go_ret2;exact⟨by rw[Hf.o];rfl,(t0.trans0 t1).trans0 t2⟩
  have q1:(k==1)=false:=by simpa using hk1
  have hst2:=Hst.o
  rw[ab hd32,ab (by rw[hfo];simp),ab hk2,ab hk1] at hst2
  -- the rule is there
  have hfr:∃r,jd ⟨k,nm,⟨vk,vn,vt⟩,op⟩=some r/\args.length=r.args.length:=by
   unfold gL at hfo;rw[ab hk1,ab hk2,bh] at hfo;rcases hr:jd ⟨k,nm,⟨vk,vn,vt⟩,op⟩ with _|r
   ·rw[hr] at hfo;cases hfo.1
   rw[hr] at hfo;exact⟨r,rfl,aN hfo.1⟩
  obtain⟨r,hr,hrl⟩:=hfr
  rw[hr] at hst2
  have Hst2:=lh hst2
  have Hrl:=lh hrl
  have hrp:∀e w1,kW ⟨k,nm,⟨vk,vn,vt⟩,op⟩ args.length e w1->∃B c,e=.returned (.tuple #[.agg #[.string r.name,.slice B args.length c,.int .i64 r.o],.bool true])/\jj w1 B r.args:=λe w1 h=>by unfold kW at h;rw[hr] at h;obtain⟨B,c,he,hi⟩:=h;exact⟨B,c,by rw[he,aF hrl,hrl],hi⟩
  have Hrp:=lh hrp
  have Ih:=lh ih;have Ha2:=lh ha2
  clear hst2 hrp hr hrl hfo hk1 hk2 Hst ih ha2 ha1
  go_enter Tryz.func103,Tryz.ntmps103
  go_wp2_with fail
  refine(Hform.o _).mono ?_
  rintro e w1 ⟨rfl,t1⟩
  have hb1:=t1.blk Hb.o (by simp)
  obtain⟨c0,c1,c2,c3,c4,c5,c6,_⟩:=gG hb1
  have T1:=t0.trans0 t1
  go_wp2_with fail
  clear c0 c1 c2 c3 c4 c5 c6
  have Hb1:=lh hb1
  clear hb1
  go_loopw [10,54] (λv i wr=>∃(j:Nat)(B:Option Addr)(cB:Nat),j<=args.length/\i=.int .i64 j/\v=.slice B j cB/\Made 3 1 inE ((args.take j).map λa=>(eV cs n (d+1) a).1) B cB w1 wr/\Ga (∀a∈args.take j,decide ((eV cs n (d+1) a).2≠0)=false)) (λ_ i _=>args.length-(intOf i).toNat)
  case atStart=>exact⟨0,none,0,by omega,rfl,rfl,Made.nil _ _ _ _,lh (by simp)⟩
  case round =>
   obtain⟨j,B,cB,hj,rfl,rfl,hmd,Hno⟩:=hrel;have T2:=T1.trans0 hmd.t;by_cases hlt:j<args.length
   ·obtain⟨ad,b,off,y,rfl,hadd,hy,hcell⟩:=(h3.touch0 T2).at_ gW j hlt;have hsn:=au hlt;have hms:=rF (am hlt);have hay:=Ha2.o _ (am hlt);have hhit:=DY (p:=λa=>decide ((eV cs n (d+1) a).2≠0)) hlt;obtain⟨a,hae⟩:∃a,a=args[j]:=⟨_,rfl⟩;rw[<- hae] at hy hsn hms hay hhit;have ta:=(Touch.refl [] wr).alloc (.cells #[.int .i64 y.nd.kind,.string y.nd.name,.int .i64 y.nd.v.kind,.int .i64 y.nd.v.num,.string y.nd.v.text,.string y.nd.op,.slice y.A y.n y.c] 44);have Hc:=lh (Ih.o a y A cap cs.length cs rfl (d+1) _ (hy.touch0 ta) (hcs.touch0 (T2.trans0 ta)) hmb (by omega) hay (by omega));have Htl:=lh (show ((args.take j).map λa=>(eV cs n (d+1) a).1).length=j by rw[ay,aO];omega);have c0:=hcell 0 _ rfl;have c1:=hcell 1 _ rfl;have c2:=hcell 2 _ rfl;have c3:=hcell 3 _ rfl;have c4:=hcell 4 _ rfl;have c5:=hcell 5 _ rfl;have c6:=hcell 6 _ rfl;rw[aM] at c0;have Hsn:=lh hsn;have Hhit:=lh hhit;clear hsn hae hcell hms hay hhit;obtain⟨⟨k2,nm2,⟨vk2,vn2,vt2⟩,op2⟩,A2,m2,c2'⟩:=y;simp only[XC.val] at Hc;simp only at c0 c1 c2 c3 c4 c5 c6 ta;obtain⟨ty,hty⟩:∃ty,ty=(eV cs n (d+1) a).1:=⟨_,rfl⟩;obtain⟨er,her⟩:∃er,er=(eV cs n (d+1) a).2:=⟨_,rfl⟩;rw[<- hty,<- her] at Hc;have Hty:=lh hty;have Her:=lh her;clear hty her;by_cases he0:er=0
    ·have Hno2:=lh (show ∀a∈args.take (j+1),decide ((eV cs n (d+1) a).2≠0)=false from λa' ha'=>by
      rw[Hsn.o] at ha';rcases aZ.1 ha' with q|q
      ·exact Hno.o a' q
      rw[aI] at q;rw[q,<- Her.o,he0];rfl)
     subst he0;go_wp2_with fail;refine Hc.o.mono ?_;rintro e w2 ⟨rfl,t2⟩;have tb:=(Touch.refl [] w2).alloc (.cells #[.int .i64 ty] 3);have hmd2:=((hmd.touch0 ta).touch0 t2).touch0 tb;go_wp2_with (at_builtin;refine ez ?_);refine go ?_;refine eb rfl (.tmp 69) (.tmp 71) 97 rfl 3 _ 1 8 Ax db rfl (by omega) oH El B j cB _ Htl.o rfl hmd2.own
      (some ⟨w2.heap.size,0,none⟩) 1 1 [ty] rfl rfl (d9.one (enc:=inE) w2 3 ty #[.int .i64 ty] rfl) (by omega) (by omega) ?_
     intro B5 cB5 w5 hown5 ht5 hf5;go_wp2;go_roundw
     case rel=>exact⟨j+1,B5,cB5,by omega,by go_num,rfl,by rw[Hsn.o,aT];simp only[List.map_cons,List.map_nil];rw[<- Hty.o];exact hmd2.step hown5 ht5 hf5,Hno2⟩
     case measure=>simp[intOf];omega
    have Hf:=lh (show res=(0,er) by rw[Hst2.o,Hhit.o (by rw[<- Her.o];simpa using he0) Hno.o];simp only;rw[<- Her.o]);have e0:(er != 0)=true:=by simpa using he0
    clear he0;go_wp2_with fail;refine Hc.o.mono ?_;rintro e w2 ⟨rfl,t2⟩;go_wp2_with fail;go_ret2;exact⟨by rw[Hf.o];rfl,(T2.trans0 ta).trans0 t2⟩
   obtain rfl:j=args.length:=by omega
   rw[aH] at hmd Hno;have hst3:=Hst2.o;rw[B4 Hno.o] at hst3;simp only at hst3;obtain⟨bo,hbo⟩:∃bo,bo=fR r.args (args.map λa=>(eV cs n (d+1) a).1) 0:=⟨_,rfl⟩;rw[<- hbo] at hst3;have Hst3:=lh hst3;have Hfit:=lh λ(B0:Option Addr)(c0 c0':Nat)w' hi hj=>Ck B0 B c0 c0' args.length r.args (args.map λa=>(eV cs n (d+1) a).1) Hrl.o.symm (by rw[ay]) w' hi hj (by omega);rw[<- hbo] at Hfit;clear hst3 hbo;have hb2:=hmd.t.blk Hb1.o (by simp);obtain⟨c0,c1,c2,c3,c4,c5,c6,_⟩:=gG hb2;go_wp2_with fail;refine(Hrule.o _).mono ?_;rintro e w2 ⟨hp,t2⟩;obtain⟨B0,d0,rfl,hi⟩:=Hrp.o e w2 hp;clear c0 c1 c2 c3 c4 c5 c6;have tb:=(Touch.refl [] w2).alloc (.cells #[.string r.name,.slice B0 args.length d0,.int .i64 r.o] 202);have hbr:=ah w2 (.cells #[.string r.name,.slice B0 args.length d0,.int .i64 r.o] 202);obtain⟨z0,z1,z2,_⟩:=ee hbr;obtain⟨both,ok⟩:=bo;simp only at Hst3 Hfit;have T3:=(T2.trans0 t2).trans0 tb;cases ok
   ·go_wp2_with fail;refine(Hfit.o B0 d0 cB _ (hi.touch0 tb) ((hmd.touch0 t2).touch0 tb).own.rd).mono ?_;rintro e w' ⟨rfl,rfl⟩;go_wp2_with fail;go_ret2;exact⟨by rw[Hst3.o];rfl,T3⟩
   by_cases ho:r.o = -1
   ·have Hf:=lh (show res=(both,0) by rw[Hst3.o];simp only;rw[ae ho]);have q3:(r.o == -1)=true:=by simpa using ho
    clear ho;go_wp2_with fail;refine(Hfit.o B0 d0 cB _ (hi.touch0 tb) ((hmd.touch0 t2).touch0 tb).own.rd).mono ?_;rintro e w' ⟨rfl,rfl⟩;go_wp2_with fail;go_ret2;exact⟨by rw[Hf.o];rfl,T3⟩
   have Hf:=lh (show res=(r.o,0) by rw[Hst3.o];simp only;rw[ab ho]);have q3:(r.o == -1)=false:=by simpa using ho
   clear ho;go_wp2_with fail;refine(Hfit.o B0 d0 cB _ (hi.touch0 tb) ((hmd.touch0 t2).touch0 tb).own.rd).mono ?_;rintro e w' ⟨rfl,rfl⟩;go_wp2_with fail;go_ret2;exact⟨by rw[Hf.o];rfl,T3⟩
end
section
open Go.RowKit
def jY:ByteArray:=S [97,110,100]
def lF:ByteArray:=S [111,114]
def hZ:ByteArray:=S [101,105,116,104,101,114]
def mw:ByteArray:=S [105,102]
def kT:ByteArray:=S [99,97,116]
def nl(s:ByteArray):Int:=Lib.idxOfS [S [],S [61],S [33,61],S [60],S [60,61],S [62],S [62,61]] s
def gv(d:ND)(f:VD):Option (VD ⊕ Nat):=
 if d.op=jY then (if f.tru=true then some (.inr 1) else some (.inl (ofV 0)))
 else if d.op=lF then (if f.tru=true then some (.inl (ofV 1)) else some (.inr 1))
 else if d.name=hZ then (if f.kind=0 then some (.inr 1) else some (.inl f))
 else if d.name=mw then some (.inr (if f.tru=true then 1 else 2))
 else none
def nG(k:Int)(r:VD × Int):VD × Int:=if r.2=0/\k=4 then (iL r.1.tru,0) else r
def gS{α:Type}(ev:α->VD × Int)(d:ND)(args:List α)(f:VD):Option (VD × Int):=
 match gv d f with
 |none=>none
 |some (.inl v)=>some (v,0)
 |some (.inr q)=>match args[q]? with
  |none=>some (eQ,0)
  |some a=>some (nG d.kind (ev a))
def bothV(d:ND)(f s:VD):VD × Int:=
 if d.name=kT then kF f s else if 0<nl d.op then (iw (nl d.op) f s,0) else fZ ((d.op.data.toList.headD 0).toNat:Int) f s
def eG(cs:List CD)(row:List VD):(n:Nat)->TX n->VD × Int
 | 0,_=>(eQ,0)
 |n+1,e =>
  if e.1.kind=1 then (row.getD ((ef cs e.1.name).getD 0) eQ,0)
  else if e.1.kind=2 then (e.1.v,0)
  else match e.2 with
   | []=>(eQ,0)
   |a:: r =>
    if (eG cs row n a).2≠0 then (eQ,(eG cs row n a).2)
    else match gS (eG cs row n) e.1 (a:: r) (eG cs row n a).1 with
     |some z=>z
     |none=>match r with
      | []=>jM e.1 (eG cs row n a).1
      |b:: _=>if (eG cs row n b).2≠0 then (eQ,(eG cs row n b).2) else bothV e.1 (eG cs row n a).1 (eG cs row n b).1
theorem kw(cs:List CD)(row:List VD)(n:Nat)(e:TX (n+1)):eG cs row (n+1) e =
 if e.1.kind=1 then (row.getD ((ef cs e.1.name).getD 0) eQ,0)
 else if e.1.kind=2 then (e.1.v,0)
 else match e.2 with
  | []=>(eQ,0)
  |a:: r =>
   if (eG cs row n a).2≠0 then (eQ,(eG cs row n a).2)
   else match gS (eG cs row n) e.1 (a:: r) (eG cs row n a).1 with
    |some z=>z
    |none=>match r with
     | []=>jM e.1 (eG cs row n a).1
     |b:: _=>if (eG cs row n b).2≠0 then (eQ,(eG cs row n b).2) else bothV e.1 (eG cs row n a).1 (eG cs row n b).1:=rfl
def Ea(cs:List CD):(n:Nat)->TX n->Prop
 | 0,_=>True
 |n+1,e=>gL e.1 e.2.length=true/\(e.1.kind=1->(ef cs e.1.name).isSome=true)/\∀a∈e.2,Ea cs n a
theorem Bp(cs:List CD):∀(n d:Nat)(e:TX n),(eV cs n d e).2=0->Ea cs n e
 | 0,_,e=>e.elim
 |n+1,d,e=>λh=>by
  rw[nQ] at h;by_cases h1:32<d
  ·rw[ae h1] at h;cases h
  rw[ab h1] at h;by_cases h2:gL e.1 e.2.length=false
  ·rw[ae h2] at h;cases h
  rw[ab h2] at h;have h2':gL e.1 e.2.length=true:=by simpa using h2
  by_cases h3:e.1.kind=2
  ·refine⟨h2',λh4=>by omega,λa ha=> ?_⟩;unfold gL at h2';rw[ab (by omega),ae h3,bh,bh,bh] at h2';have:=aN h2'.2.2.1;rw[aV this] at ha;cases ha
  rw[ab h3] at h;by_cases h4:e.1.kind=1
  ·rw[ae h4] at h;refine⟨h2',λ_=> ?_,λa ha=> ?_⟩
   ·rcases hp:ef cs e.1.name with _ | q
    ·unfold rg at h;rw[hp] at h;cases h
    rfl
   unfold gL at h2';rw[ae h4,bh,bh] at h2';have:=aN h2'.2.1;rw[aV this] at ha;cases ha
  rw[ab h4] at h;refine⟨h2',λh=>absurd h h4,λa ha=> ?_⟩;rcases hf:e.2.find? (λa=>decide ((eV cs n (d+1) a).2≠0)) with _ | b
  ·have:=List.find?_eq_none.1 hf a ha;exact Bp cs n (d+1) a (by simpa using this)
  rw[hf] at h;have:=List.find?_some hf;simp only[decide_eq_true_eq] at this;exact absurd h this
theorem yO{d:ND}{n:Nat}(h:gL d n=true)(h1:d.kind≠1)(h2:d.kind≠2): (d.kind=3/\n=1/\d.name=S []/\(d.op=S [45]\/d.op=rB)) \/ (d.kind=4/\n=2/\d.name=S []/\(d.op=S [43]\/d.op=S [45]\/d.op=S [42]\/d.op=S [47]\/d.op=S [37]\/d.op=S [61]\/d.op=S [33,61]\/d.op=S [60]\/d.op=S [60,61]\/d.op=S [62]\/d.op=S [62,61]\/d.op=jY\/d.op=lF)) \/ (d.kind=5/\d.op=S []/\((n=1/\(d.name=wi\/d.name=mY\/d.name=nX))\/(n=2/\(d.name=kT\/d.name=hZ))\/(n=3/\d.name=mw))):=by
 unfold gL at h;rw[ab h1,ab h2,bh,bh] at h;obtain⟨ha,_,hc⟩:=h;have hr:∃r∈fC d.kind,r.name=nJ d/\n=r.args.length:=by
  unfold jd at ha;rcases hi:oC d with _|k
  ·rw[hi] at ha;cases ha
  rw[hi] at ha;unfold oC at hi;rw[bw] at hi;obtain⟨hk,hp,_⟩:=hi;simp only at ha;rw[aX hk] at ha;exact⟨_,am hk,aN hp,aN ha⟩
 obtain⟨r,hm,hn,hl⟩:=hr;unfold fC at hm;unfold nJ at hn;by_cases k3:d.kind=3
 ·left;rw[ab (by omega)] at hc hn;have hc':=aN hc;rw[ae k3] at hm;simp only[List.mem_cons,List.not_mem_nil,or_false] at hm;rcases hm with rfl|rfl
  ·exact⟨k3,hl,hc',.inl hn.symm⟩
  exact⟨k3,hl,hc',.inr hn.symm⟩
 rw[ab k3] at hm;by_cases k4:d.kind=4
 ·right;left;rw[ab (by omega)] at hc hn;have hc':=aN hc;rw[ae k4] at hm;simp only[List.mem_cons,List.not_mem_nil,or_false] at hm;refine⟨k4, ?_,hc', ?_⟩
  ·rcases hm with rfl | rfl | rfl | rfl | rfl | rfl | rfl | rfl | rfl | rfl | rfl | rfl | rfl<;>exact hl
  rcases hm with rfl | rfl | rfl | rfl | rfl | rfl | rfl | rfl | rfl | rfl | rfl | rfl | rfl<;>simp only at hn<;>rw[<- hn]<;>simp[jY,lF]
 rw[ab k4] at hm;by_cases k5:d.kind=5
 ·right;right;rw[ae k5] at hc hn;have hc':=aN hc;rw[ae k5] at hm;simp only[List.mem_cons,List.not_mem_nil,or_false] at hm;refine⟨k5,hc', ?_⟩;rcases hm with rfl|rfl|rfl|rfl|rfl|rfl
  ·exact .inl ⟨hl,.inl hn.symm⟩
  ·exact .inl ⟨hl,.inr (.inl hn.symm)⟩
  ·exact .inl ⟨hl,.inr (.inr hn.symm)⟩
  ·exact .inr (.inl ⟨hl,.inl hn.symm⟩)
  ·exact .inr (.inl ⟨hl,.inr hn.symm⟩)
  exact .inr (.inr ⟨hl,hn.symm⟩)
 rw[ab k5] at hm;cases hm
theorem sq(o:Int)(a b:VD)(M:Nat):(fZ o a b).1.text.size<=M:=by have h0:(S []).size=0:=rfl;unfold fZ;(repeat' split)<;>simp[eQ,ofV,h0]
theorem oW(b:Bool)(M:Nat):(iL b).text.size<=M:=by have h0:(S []).size=0:=rfl;cases b<;>simp[iL,ofV,h0]
theorem zd(d:ND)(v:VD)(M:Nat)(h:v.text.size<=M):(jM d v).1.text.size<=M:=by
 unfold jM;split
 ·exact oW _ _
 split
 ·exact oW _ _
 split
 ·exact h
 split
 ·exact aY _
 split
 ·exact h
 exact sq _ _ _ _
theorem As(d:ND)(f s:VD)(M:Nat)(hM:64<=M):(bothV d f s).1.text.size<=M:=by
 have h0:(S []).size=0:=rfl;unfold bothV;split
 ·unfold kF;split
  ·exact aY _
  split
  ·exact aY _
  show (f.text++s.text).size<=M;rw[ByteArray.size_append];omega
 split
 ·unfold iw;split
  ·exact aY _
  exact oW _ _
 exact sq _ _ _ _
theorem pY(cs:List CD)(row:List VD)(M:Nat)(hM:64<=M)(hr:∀ v∈row,v.text.size<=M):∀(n:Nat)(e:TX n),gj (λq=>q.v.text.size<=M) n e->(eG cs row n e).1.text.size<=M
 | 0,e=>e.elim
 |n+1,e=>λha=>by
  obtain⟨h1,h2⟩:=ha;rw[kw];generalize e.1=d at h1 h2 ⊢;generalize e.2=args at h1 h2 ⊢;split
  ·simp only;rw[bG];rcases hg:row[(ef cs d.name).getD 0]? with _|v
   ·exact aY _
   exact hr v (cV hg)
  split
  ·exact h1
  cases args with
  |nil=>exact aY _
  |cons a r =>
   have e1:=pY cs row M hM hr n a (h2 a aK)
   simp only
   split
   ·exact aY _
   ·rcases hl:gS (eG cs row n) d (a:: r) (eG cs row n a).1 with _ | z
    ·simp only;cases r with
     |nil=>exact zd _ _ _ e1
     |cons b r =>
      simp only
      split
      ·exact aY _
      ·exact As _ _ _ _ hM
    simp only;unfold gS at hl;rcases hv:gv d (eG cs row n a).1 with _|v
    ·rw[hv] at hl;cases hl
    rw[hv] at hl;cases v with
    |inl v =>
     cases hl
     unfold gv at hv
     (repeat' split at hv)<;>simp at hv<;>subst hv<;>first | exact e1 | exact aY _
    |inr q =>
     simp only at hl
     rcases hq:(a:: r)[q]? with _|x
     ·rw[hq] at hl;cases hl;exact aY _
     ·rw[hq] at hl;cases hl;have:=pY cs row M hM hr n x (h2 x (cV hq));unfold nG;split
      ·exact oW _ _
      exact this
end
section
open Go.RowKit
attribute [local go_sem ↓] d3 d4
def oA(n:Nat):Prop:=∀(e:TX n)(x:XC)(CA:Option Addr)(cc cm:Nat)(cs:List CD)(_:cs.length=cm)(RB:Option Addr)(rc rm:Nat)(row:List VD)(_:row.length=rm)(w:World),
 iJ iX jf n w x e->em w CA cs->eu w RB row->cm<=140737000000000->row.length=cs.length->Ea cs n e->(∀v∈row,v.text.size<=140737000000000)->gj (λq=>q.v.text.size<=140737000000000) n e ->
 Calls Tryz.prog 107 #[x.val,.slice CA cm cc,.slice RB rm rc] w λr w'=>r=.returned (.tuple #[(eG cs row n e).1.val,.int .i64 (eG cs row n e).2])/\Touch [] w w'
def yN(r:Option (VD × Int)):Value:=match r with
 |some z=>.tuple #[z.1.val,.int .i64 z.2,.bool true]
 |none=>.tuple #[eQ.val,.int .i64 0,.bool false]
theorem Da(n:Nat)(ih:oA n)(x:XC)(args:List (TX n))(v:VD)(CA:Option Addr)(cc cm:Nat)(cs:List CD)(hcm:cs.length=cm)(RB:Option Addr)(rc rm:Nat)(row:List VD)(hrm:row.length=rm)(w:World) (hxn:x.n=args.length) (ha:ki iX jf n w x.A args) (hcs:em w CA cs) (hrow:eu w RB row) (hmb:cm<=140737000000000) (hrl:row.length=cs.length) (hok:∀a∈args,Ea cs n a) (hrt:∀v∈row,v.text.size<=140737000000000) (hall:∀a∈args,gj (λq=>q.v.text.size<=140737000000000) n a) (hq2:∀q,gv x.nd v=some (.inr q)->q<args.length) : Calls Tryz.prog 148 #[x.val,.slice CA cm cc,.slice RB rm rc,v.val] w λr w'=>r=.returned (yN (gS (eG cs row n) x.nd args v))/\Touch [] w w':=by
 have htr:=λw'=>ow v w';obtain⟨tr,htre⟩:∃tr,tr=v.tru:=⟨_,rfl⟩;rw[<- htre] at htr;obtain⟨⟨k,nm,⟨vk,vn,vt⟩,op⟩,A,m,c⟩:=x;obtain⟨k1,n1,s1⟩:=v;dsimp only at hxn ha hq2;subst hxn;dsimp only[XC.val,VD.val];have t0:=(((Touch.refl [] w).alloc (.cells #[.int .i64 k,.string nm,.int .i64 vk,.int .i64 vn,.string vt,.string op,.slice A args.length c] 44)).alloc (.cells #[.int .i64 k1,.int .i64 n1,.string s1] 31)).alloc (.cells #[.int .i64 0,.int .i64 0,.string ⟨#[]⟩] 31);have hb1:=(((Touch.refl [] (w.alloc (.cells #[.int .i64 k,.string nm,.int .i64 vk,.int .i64 vn,.string vt,.string op,.slice A args.length c] 44))).alloc (.cells #[.int .i64 k1,.int .i64 n1,.string s1] 31)).alloc (.cells #[.int .i64 0,.int .i64 0,.string ⟨#[]⟩] 31)).blk (ah w (.cells #[.int .i64 k,.string nm,.int .i64 vk,.int .i64 vn,.string vt,.string op,.slice A args.length c] 44)) (by simp);have hb2:=((Touch.refl [] ((w.alloc (.cells #[.int .i64 k,.string nm,.int .i64 vk,.int .i64 vn,.string vt,.string op,.slice A args.length c] 44)).alloc (.cells #[.int .i64 k1,.int .i64 n1,.string s1] 31))).alloc (.cells #[.int .i64 0,.int .i64 0,.string ⟨#[]⟩] 31)).blk (ah (w.alloc (.cells #[.int .i64 k,.string nm,.int .i64 vk,.int .i64 vn,.string vt,.string op,.slice A args.length c] 44)) (.cells #[.int .i64 k1,.int .i64 n1,.string s1] 31)) (by simp)
 have hbr:=ah ((w.alloc (.cells #[.int .i64 k,.string nm,.int .i64 vk,.int .i64 vn,.string vt,.string op,.slice A args.length c] 44)).alloc (.cells #[.int .i64 k1,.int .i64 n1,.string s1] 31)) (.cells #[.int .i64 0,.int .i64 0,.string ⟨#[]⟩] 31);simp only[World.size_alloc] at hb2 hbr;obtain⟨W,hW⟩:∃W,W=((w.alloc (.cells #[.int .i64 k,.string nm,.int .i64 vk,.int .i64 vn,.string vt,.string op,.slice A args.length c] 44)).alloc (.cells #[.int .i64 k1,.int .i64 n1,.string s1] 31)).alloc (.cells #[.int .i64 0,.int .i64 0,.string ⟨#[]⟩] 31):=⟨_,rfl⟩;rw[<- hW] at hb1 hb2 hbr t0;have HW:=lh hW;have Hb1:=lh hb1;have Hb2:=lh hb2;have Hbr:=lh hbr;have T0:=lh t0;have Hnull:=lh λw'=>kY w';have Hof:=lh λn w'=>mR n w';simp only[VD.val,eQ,ofV,S] at Hnull Hof;clear hW hb1 hb2 hbr t0;simp only[VD.val] at htr;have HbT:=lh λw'=>nU true w';have HbF:=lh λw'=>nU false w';simp only[iL,if_true,Bool.false_eq_true,if_false,VD.val,ofV,S] at HbT HbF;have Htr:=lh htr;have q1:=mD op [97,110,100];have q2:=mD op [111,114];have q3:=mD nm [101,105,116,104,101,114];have q4:=mD nm [105,102];have hst:gv ⟨k,nm,⟨vk,vn,vt⟩,op⟩ ⟨k1,n1,s1⟩=(if op=jY then (if tr=true then some (.inr 1) else some (.inl (ofV 0))) else if op=lF then (if tr=true then some (.inl (ofV 1)) else some (.inr 1)) else if nm=hZ then (if k1=0 then some (.inr 1) else some (.inl ⟨k1,n1,s1⟩)) else if nm=mw then some (.inr (if tr=true then 1 else 2)) else none):=by rw[htre];rfl
 clear htre htr;go_enter Tryz.func148,Tryz.ntmps148;go_upto_region 1 with fail;rw[<- HW.o];go_cut [11] (λc wx=>c=.int .i64 1/\W=wx)
 case first =>go_wp2_with fail;go_meet;exact⟨rfl,rfl⟩
 case rest =>
 obtain⟨rfl,rfl⟩:=hcut;go_step;go_step;go_cut [11] (λv wx=>∃q:Nat,v=.int .i64 q/\Ga (gv ⟨k,nm,⟨vk,vn,vt⟩,op⟩ ⟨k1,n1,s1⟩=some (.inr q)/\Touch [] W wx))
 case first =>
  obtain⟨a0,a1,a2,a3,a4,a5,a6,_⟩:=gG Hb1.o;obtain⟨b0,b1,b2,_⟩:=ee Hb2.o;obtain⟨r0,r1,r2,f0,f1,f2⟩:=ee Hbr.o;by_cases h1:op=jY
  ·rw[aF (p:=op=S [97,110,100]) h1] at q1;rw[ae h1] at hst;clear h1 q2 q3 q4;go_wp2_with fail;clear a0 a1 a2 a3 a4 a5 a6 b0 b1 b2 r0 r1 r2 f0 f1 f2;refine(Htr.o _).mono ?_;rintro e w1 ⟨rfl,u1⟩;cases tr
   ·rw[ab (by simp)] at hst;have Hf:=lh (show gS (eG cs row n) ⟨k,nm,⟨vk,vn,vt⟩,op⟩ args ⟨k1,n1,s1⟩=some (ofV 0,(0:Int)) by unfold gS;rw[hst]);clear hst hq2;go_wp2_with fail;refine(Hof.o 0 _).mono ?_;rintro e w2 ⟨rfl,u2⟩;have hr:=u2.blk (u1.blk Hbr.o (by simp)) (by simp);obtain⟨r0,r1,r2,f0,f1,f2⟩:=ee hr;go_wp2_with fail;obtain⟨q1,q2⟩:=fN hr (.int .i64 1) (.int .i64 0) (.string ⟨#[]⟩);obtain⟨d0,d1,d2,_⟩:=ee q1;refine aG (v:=.tuple #[.agg #[.int .i64 1,.int .i64 0,.string ⟨#[]⟩],.int .i64 (0),.bool true]) (by simp[results,Tryz.results148,go_sem,d0,d1,d2]) rfl ⟨?_,((T0.o.trans0 u1).trans0 u2).trans q2 (λb hb=>.inr (by simp at hb;omega))⟩;rw[Hf.o];rfl
   rw[ae rfl] at hst;go_wp2_with fail;go_meet;exact⟨1,rfl,lh ⟨hst,u1⟩⟩
  rw[aC (p:=op=S [97,110,100]) h1] at q1;rw[ab h1] at hst;clear h1;by_cases h2:op=lF
  ·rw[aF (p:=op=S [111,114]) h2] at q2;rw[ae h2] at hst;clear h2 q3 q4;go_wp2_with fail;clear a0 a1 a2 a3 a4 a5 a6 b0 b1 b2 r0 r1 r2 f0 f1 f2;refine(Htr.o _).mono ?_;rintro e w1 ⟨rfl,u1⟩;cases tr
   ·rw[ab (by simp)] at hst;go_wp2_with fail;go_meet;exact⟨1,rfl,lh ⟨hst,u1⟩⟩
   rw[ae rfl] at hst;have Hf:=lh (show gS (eG cs row n) ⟨k,nm,⟨vk,vn,vt⟩,op⟩ args ⟨k1,n1,s1⟩=some (ofV 1,(0:Int)) by unfold gS;rw[hst]);clear hst hq2;go_wp2_with fail;refine(Hof.o 1 _).mono ?_;rintro e w2 ⟨rfl,u2⟩;have hr:=u2.blk (u1.blk Hbr.o (by simp)) (by simp);obtain⟨r0,r1,r2,f0,f1,f2⟩:=ee hr;go_wp2_with fail;obtain⟨q1,q2⟩:=fN hr (.int .i64 1) (.int .i64 1) (.string ⟨#[]⟩);obtain⟨d0,d1,d2,_⟩:=ee q1;refine aG (v:=.tuple #[.agg #[.int .i64 1,.int .i64 1,.string ⟨#[]⟩],.int .i64 (0),.bool true]) (by simp[results,Tryz.results148,go_sem,d0,d1,d2]) rfl ⟨?_,((T0.o.trans0 u1).trans0 u2).trans q2 (λb hb=>.inr (by simp at hb;omega))⟩;rw[Hf.o];rfl
  rw[aC (p:=op=S [111,114]) h2] at q2;rw[ab h2] at hst;clear h2;by_cases h3:nm=hZ
  ·rw[aF (p:=nm=S [101,105,116,104,101,114]) h3] at q3;rw[ae h3] at hst;clear h3 q4 Htr;by_cases h5:k1=0
   ·rw[ae h5] at hst;have q5:(k1 != 0)=false:=by simpa using h5
    go_wp2_with fail;go_meet;exact⟨1,rfl,lh ⟨hst,Touch.refl _ _⟩⟩
   rw[ab h5] at hst;have q5:(k1 != 0)=true:=by simpa using h5
   have Hf:=lh (show gS (eG cs row n) ⟨k,nm,⟨vk,vn,vt⟩,op⟩ args ⟨k1,n1,s1⟩=some ((⟨k1,n1,s1⟩:VD),(0:Int)) by unfold gS;rw[hst]);clear hst hq2 h5;go_wp2_with fail;obtain⟨q1,q2⟩:=fN Hbr.o (.int .i64 k1) (.int .i64 n1) (.string s1);obtain⟨d0,d1,d2,_⟩:=ee q1;refine aG (v:=.tuple #[.agg #[.int .i64 k1,.int .i64 n1,.string s1],.int .i64 (0),.bool true]) (by simp[results,Tryz.results148,go_sem,d0,d1,d2]) rfl ⟨?_,T0.o.trans q2 (λb hb=>.inr (by simp at hb;omega))⟩;rw[Hf.o];rfl
  rw[aC (p:=nm=S [101,105,116,104,101,114]) h3] at q3;rw[ab h3] at hst;clear h3;by_cases h4:nm=mw
  ·rw[aF (p:=nm=S [105,102]) h4] at q4;rw[ae h4] at hst;clear h4;go_wp2_with fail;clear a0 a1 a2 a3 a4 a5 a6 b0 b1 b2 r0 r1 r2 f0 f1 f2;refine(Htr.o _).mono ?_;rintro e w1 ⟨rfl,u1⟩;cases tr
   ·rw[ab (by simp)] at hst;go_wp2_with fail;go_meet;exact⟨2,rfl,lh ⟨hst,u1⟩⟩
   rw[ae rfl] at hst;go_wp2_with fail;go_meet;exact⟨1,rfl,lh ⟨hst,u1⟩⟩
  rw[aC (p:=nm=S [105,102]) h4] at q4;rw[ab h4] at hst;have Hf:=lh (show gS (eG cs row n) ⟨k,nm,⟨vk,vn,vt⟩,op⟩ args ⟨k1,n1,s1⟩=none by unfold gS;rw[hst]);clear h4 hst hq2 Htr;go_wp2_with fail;obtain⟨q1,q2⟩:=fN Hbr.o (.int .i64 0) (.int .i64 0) (.string ⟨#[]⟩);obtain⟨d0,d1,d2,_⟩:=ee q1;refine aG (v:=.tuple #[.agg #[.int .i64 0,.int .i64 0,.string ⟨#[]⟩],.int .i64 (0),.bool false]) (by simp[results,Tryz.results148,go_sem,d0,d1,d2]) rfl ⟨?_,T0.o.trans q2 (λb hb=>.inr (by simp at hb;omega))⟩;rw[Hf.o];rfl
 case rest =>
 obtain⟨q,rfl,HQ⟩:=hcut;obtain⟨w1,hw1⟩:∃w1,w1=wc:=⟨_,rfl⟩;subst hw1;have hq:=hq2 q HQ.o.1;have T1:=lh (T0.o.trans0 HQ.o.2);obtain⟨ad,b,off,y,rfl,hadd,hy,hcell⟩:=ha.at_ gW q hq;have Hev:=lh (ih args[q] y CA cc cm cs hcm RB rc rm row hrm w1 (hy.touch0 T1.o) (hcs.touch0 T1.o) (hrow.touch0 T1.o) hmb hrl (hok _ (am hq)) hrt (hall _ (am hq)));have hlz:gS (eG cs row n) ⟨k,nm,⟨vk,vn,vt⟩,op⟩ args ⟨k1,n1,s1⟩=some (nG k (eG cs row n args[q])):=by unfold gS;rw[HQ.o.1];simp only;rw[aX hq]
 obtain⟨⟨⟨rk,rn,rs⟩,rx⟩,hre⟩:∃r,r=eG cs row n args[q]:=⟨_,rfl⟩;rw[<- hre] at hlz Hev;obtain⟨⟨k2,nm2,⟨vk2,vn2,vt2⟩,op2⟩,A2,m2,c2'⟩:=y;simp only[XC.val,VD.val] at Hev;have Hlz:=lh hlz;have B1:=lh (HQ.o.2.blk Hb1.o (by simp));have BR:=lh (HQ.o.2.blk Hbr.o (by simp));have c0:=T1.o.cell (hcell 0 _ rfl) (by simp);have c1:=T1.o.cell (hcell 1 _ rfl) (by simp);have c2:=T1.o.cell (hcell 2 _ rfl) (by simp);have c3:=T1.o.cell (hcell 3 _ rfl) (by simp);have c4:=T1.o.cell (hcell 4 _ rfl) (by simp);have c5:=T1.o.cell (hcell 5 _ rfl) (by simp);have c6:=T1.o.cell (hcell 6 _ rfl) (by simp);rw[aM] at c0;simp only at c0 c1 c2 c3 c4 c5 c6;have hqI:(q:Int)<(args.length:Int):=by omega
 clear hcell hy hre hq hst q1 q2 q3 q4 hlz hq2;have a6:=d_ B1.o (i:=6) rfl;go_wp2_with fail;clear c0 c1 c2 c3 c4 c5 c6 a6;refine Hev.o.mono ?_;rintro e w2 ⟨rfl,u2⟩;have tb:=(Touch.refl [] w2).alloc (.cells #[.int .i64 rk,.int .i64 rn,.string rs] 31);have hbz:=ah w2 (.cells #[.int .i64 rk,.int .i64 rn,.string rs] 31);obtain⟨w3,hw3⟩:∃w3,w3=w2.alloc (.cells #[.int .i64 rk,.int .i64 rn,.string rs] 31):=⟨_,rfl⟩;rw[<- hw3] at tb hbz;have HB1:=lh (tb.blk (u2.blk B1.o (by simp)) (by simp));have HBR:=lh (tb.blk (u2.blk BR.o (by simp)) (by simp));have HT3:=lh ((T1.o.trans0 u2).trans0 tb);have HBZ:=lh hbz;have Hw3:=lh hw3;have hzl:=(cp.1 (u2.blk BR.o (by simp))).1;clear u2 tb hbz hw3;go_upto_region 16 with fail;rw[<- Hw3.o];go_cut [62] (λv wx=>v=.bool (decide (rx=0/\k=4))/\w3=wx)
 case first =>
  have a0:=d_ HB1.o (i:=0) rfl;by_cases hx:rx=0
  ·have Hd:=lh (show decide (rx=0/\k=4)=(k==4) by rw[cD];simp[hx]);have q5:(rx==0)=true:=by simpa using hx
   clear hx;go_wp2_with fail;go_meet;exact⟨by rw[Hd.o],rfl⟩
  have Hd:=lh (show decide (rx=0/\k=4)=false from aC λq=>hx q.1);have q5:(rx==0)=false:=by simpa using hx
  clear hx;go_wp2_with fail;go_meet;exact⟨by rw[Hd.o],rfl⟩
 case rest =>
 obtain⟨rfl,rfl⟩:=hcut;obtain⟨z0,z1,z2, -⟩:=ee HBZ.o;by_cases hx:rx=0/\k=4
 ·rw[aF hx];have Hf:=lh (Hlz.o.trans (bf some (show nG k (⟨rk,rn,rs⟩,rx)=(iL (VD.tru ⟨rk,rn,rs⟩),0) from ae hx)));have Hx:=lh hx;clear hx;obtain⟨bb,hbb⟩:∃bb,bb=VD.tru ⟨rk,rn,rs⟩:=⟨_,rfl⟩;have Ht2:=lh (ow ⟨rk,rn,rs⟩ w3);simp only[VD.val] at Ht2;rw[<- hbb] at Ht2 Hf;obtain⟨bn,hbn⟩:∃n,iL bb=⟨1,n,⟨#[]⟩⟩:=by cases bb<;>exact⟨_,rfl⟩
  have Hbit:=lh λw'=>nU bb w';rw[hbn] at Hf;simp only[hbn,VD.val] at Hbit;clear hbb hbn;go_wp2_with fail;refine Ht2.o.mono ?_;rintro e w4 ⟨rfl,u4⟩;go_wp2_with fail;refine(Hbit.o _).mono ?_;rintro e w5 ⟨rfl,u5⟩;have hz:=u5.blk (u4.blk HBZ.o (by simp)) (by simp);have hr:=u5.blk (u4.blk HBR.o (by simp)) (by simp);clear z0 z1 z2;obtain⟨z0,z1,z2,g0,g1,g2⟩:=ee hz;obtain⟨r0,r1,r2,f0,f1,f2⟩:=ee hr;go_wp2_with fail;obtain⟨y1,y2⟩:=fN hz (.int .i64 1) (.int .i64 bn) (.string ⟨#[]⟩);have hrz:=y2.blk hr (by simp only[List.mem_singleton];omega);obtain⟨q1,q2⟩:=fN hrz (.int .i64 1) (.int .i64 bn) (.string ⟨#[]⟩);obtain⟨d0,d1,d2,_⟩:=ee q1;refine aG (v:=.tuple #[.agg #[.int .i64 1,.int .i64 bn,.string ⟨#[]⟩],.int .i64 (rx),.bool true]) (by simp[results,Tryz.results148,go_sem,d0,d1,d2]) rfl ⟨?_,(((HT3.o.trans0 u4).trans0 u5).trans y2 (λb hb=>.inr (by simp at hb;omega))).trans q2 (λb hb=>.inr (by simp at hb;omega))⟩;rw[Hf.o,Hx.o.1];rfl
 rw[aC hx];have Hf:=lh (Hlz.o.trans (bf some (show nG k (⟨rk,rn,rs⟩,rx)=(⟨rk,rn,rs⟩,rx) from ab hx)));clear hx;obtain⟨r0,r1,r2,f0,f1,f2⟩:=ee HBR.o;go_wp2_with fail;obtain⟨q1,q2⟩:=fN HBR.o (.int .i64 rk) (.int .i64 rn) (.string rs);obtain⟨d0,d1,d2,_⟩:=ee q1;refine aG (v:=.tuple #[.agg #[.int .i64 rk,.int .i64 rn,.string rs],.int .i64 (rx),.bool true]) (by simp[results,Tryz.results148,go_sem,d0,d1,d2]) rfl ⟨?_,HT3.o.trans q2 (λb hb=>.inr (by simp at hb;omega))⟩;rw[Hf.o];rfl
end
section
open Go.RowKit
attribute [local go_sem ↓] d3 d4
theorem uy(s:ByteArray)(w:World):Calls Tryz.prog 150 #[.string s] w λe w'=>e=.returned (.int .i64 (nl s))/\Touch [] w w':=by
 have Hix:=lh λw' h=>Go.Proofs.Tryz.slices_Index_string w.heap.size 0 7 7 [S [],S [61],S [33,61],S [60],S [60,61],S [62],S [62,61]] s w' (by decide) (by decide) h;go_enter Tryz.func150,Tryz.ntmps150;go_wp2_with fail;refine(Hix.o _ ?_).mono ?_
 ·intro j hj;have hj':j<7:=hj;have:j=0\/j=1\/j=2\/j=3\/j=4\/j=5\/j=6:=by omega
  rcases this with rfl|rfl|rfl|rfl|rfl|rfl|rfl<;>exact d_ (ah w _) rfl
 rintro e w1 ⟨rfl,rfl⟩;go_wp2_with fail;go_ret;exact⟨rfl,(Touch.refl _ _).alloc _⟩
end
section
open Go.RowKit
theorem Dn(cs:List CD)(row:List VD)(n:Nat)(e:TX (n+1))(h1:e.1.kind≠1)(h2:e.1.kind≠2)(h0:0<e.2.length):eG cs row (n+1) e =
  if (eG cs row n e.2[0]).2≠0 then (eQ,(eG cs row n e.2[0]).2)
  else match gS (eG cs row n) e.1 e.2 (eG cs row n e.2[0]).1 with
   |some z=>z
   |none=>if h:1<e.2.length then (if (eG cs row n e.2[1]).2≠0 then (eQ,(eG cs row n e.2[1]).2) else bothV e.1 (eG cs row n e.2[0]).1 (eG cs row n e.2[1]).1) else jM e.1 (eG cs row n e.2[0]).1:=by
 rw[kw,ab h1,ab h2]
 revert h0
 generalize e.2=args
 intro h0
 cases args with
 |nil=>exact absurd h0 (by simp)
 |cons a r =>
  simp only[List.getElem_cons_zero]
  split
  ·rfl
  ·rcases hl:gS (eG cs row n) e.1 (a:: r) (eG cs row n a).1 with _ | z
   ·cases r with
    |nil=>rfl
    |cons b r=>rfl
   ·rfl
theorem nO{a b:List UInt8}(h:a≠b):S a≠S b:=λq=>h (uL q)
theorem EH{d:ND}{n:Nat}(h:gL d n=true)(h1:d.kind≠1)(h2:d.kind≠2)(v:VD)(q:Nat)(hq:gv d v=some (.inr q)):q<n:=by
 have w1:S [45]≠jY:=nO (by decide);have w2:S [45]≠lF:=nO (by decide);have w3:rB≠jY:=nO (by decide);have w4:rB≠lF:=nO (by decide);have w5:S []≠hZ:=nO (by decide);have w6:S []≠mw:=nO (by decide);have w7:S []≠jY:=nO (by decide);have w8:S []≠lF:=nO (by decide);have hq2:q<=2:=by unfold gv at hq;(repeat' split at hq)<;>simp at hq<;>(try omega)
 have hq1:q=2->d.op≠jY/\d.op≠lF/\d.name=mw:=by
  intro h2;unfold gv at hq;split at hq
  ·(split at hq<;>simp at hq<;>omega)
  split at hq
  ·(split at hq<;>simp at hq<;>omega)
  split at hq
  ·(split at hq<;>simp at hq<;>omega)
  split at hq
  ·exact⟨‹_›,‹_›,‹_›⟩
  cases hq
 have hq0:q≠0:=by intro h0;subst h0;unfold gv at hq;(repeat' split at hq)<;>simp at hq
 rcases yO h h1 h2 with ⟨_,hn,hnm,ho⟩|⟨_,hn,hnm,ho⟩|⟨_,ho,hh⟩
 ·exfalso;unfold gv at hq;rcases ho with ho|ho<;>rw[ho,hnm] at hq
  ·rw[ab w1,ab w2,ab w5,ab w6] at hq;cases hq
  rw[ab w3,ab w4,ab w5,ab w6] at hq;cases hq
 ·rcases Nat.lt_or_ge q 2 with h | h
  ·omega
  have:=(hq1 (by omega)).2.2;rw[hnm] at this;exact absurd this w6
 rcases hh with ⟨hn,hm⟩ | ⟨hn,hm⟩ | ⟨hn,hm⟩
 ·exfalso;unfold gv at hq;rw[ho,ab w7,ab w8] at hq;rcases hm with hm|hm|hm<;>rw[hm] at hq<;>simp[hZ,mw,wi,mY,nX,yv] at hq
 ·rcases Nat.lt_or_ge q 2 with h | h
  ·omega
  have:=(hq1 (by omega)).2.2;rw[this] at hm;rcases hm with hm|hm<;>exact absurd hm (nO (by decide))
 omega
theorem Er{d:ND}{n:Nat}(h:gL d n=true)(h1:d.kind≠1)(h2:d.kind≠2)(v:VD)(hn:n≠1)(hq:gv d v=none): d.name=kT\/(d.name≠kT/\1<=nl d.op/\nl d.op<=6)\/(d.name≠kT/\nl d.op<=0/\∃o:UInt8,d.op=S [o]/\((o.toNat:Int)=43\/(o.toNat:Int)=45\/(o.toNat:Int)=42\/(o.toNat:Int)=47\/(o.toNat:Int)=37)):=by
 have c0:S []≠kT:=nO (by decide);rcases yO h h1 h2 with ⟨_,hn',_⟩|⟨_,_,hnm,ho⟩|⟨_,ho,hh⟩
 ·exact absurd hn' hn
 ·right;rcases ho with ho|ho|ho|ho|ho|ho|ho|ho|ho|ho|ho|ho|ho
  ·right;rw[ho,hnm];exact⟨c0,by decide,43,rfl,by decide⟩
  ·right;rw[ho,hnm];exact⟨c0,by decide,45,rfl,by decide⟩
  ·right;rw[ho,hnm];exact⟨c0,by decide,42,rfl,by decide⟩
  ·right;rw[ho,hnm];exact⟨c0,by decide,47,rfl,by decide⟩
  ·right;rw[ho,hnm];exact⟨c0,by decide,37,rfl,by decide⟩
  ·left;rw[ho,hnm];exact⟨c0,by decide,by decide⟩
  ·left;rw[ho,hnm];exact⟨c0,by decide,by decide⟩
  ·left;rw[ho,hnm];exact⟨c0,by decide,by decide⟩
  ·left;rw[ho,hnm];exact⟨c0,by decide,by decide⟩
  ·left;rw[ho,hnm];exact⟨c0,by decide,by decide⟩
  ·left;rw[ho,hnm];exact⟨c0,by decide,by decide⟩
  ·unfold gv at hq;rw[ae ho] at hq;split at hq<;>cases hq
  unfold gv at hq;rw[ho] at hq;simp[lF,jY,yv] at hq;split at hq<;>cases hq
 rcases hh with ⟨hn',_⟩ | ⟨_,hm⟩ | ⟨_,hm⟩
 ·exact absurd hn' hn
 ·rcases hm with hm | hm
  ·exact .inl hm
  unfold gv at hq;rw[ho,hm] at hq;simp[jY,lF,yv] at hq;split at hq<;>cases hq
 unfold gv at hq;rw[ho,hm] at hq;simp[jY,lF,hZ,mw,yv] at hq
theorem AS{d:ND}{n:Nat}(h:gL d n=true)(h1:d.kind≠1)(h2:d.kind≠2):0<n:=by rcases yO h h1 h2 with ⟨_,hn,_⟩|⟨_,hn,_⟩|⟨_,_,⟨hn,_⟩|⟨hn,_⟩|⟨hn,_⟩⟩<;>omega
end
end Go.Proofs.YtafoklilkdnepaaGreatDoor
