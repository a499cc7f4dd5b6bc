/- Part 22 of the texts of this proof, one behind the other. No condition beyond those that its theorems state. -/
import Derived.Test.YtafoklilkdnepaaGreatDoorRe21
set_option linter.all false
set_option maxRecDepth 40000
set_option maxHeartbeats 25600000
namespace Go.Proofs.YtafoklilkdnepaaGreatDoor
section
open Go.RowKit
theorem wK(s:ByteArray)(hs:s.size<=140737000000000)(w:World): Calls Tryz.prog 113 #[.string s] w λe w'=>e=.returned (.bool (jE s.data.toList))/\w=w':=by have:=xp s.data.toList (by rw[j3];exact hs) w;rwa[m9] at this
theorem vN(A:Option Addr)(cap n:Nat)(cs:List CD)(hn:cs.length=n)(hok:∀ c∈cs,c.Ok)(w:World)(h:em w A cs)(hl:n<=140737000000000): Calls Tryz.prog 82 #[.slice A n cap] w λe w'=>e=.returned (.int .i64 (eB cs))/\Touch [] w w':=by
 subst hn;by_cases h0:cs.length<1\/16<cs.length
 ·have hc:eB cs=31:=by unfold eB;rw[ae h0]
  have Hc:=lh hc;clear hc;rcases h0 with h0|h0
  ·go_enter Tryz.func82,Tryz.ntmps82;go_wp2;go_ret;exact⟨ew Hc.o.symm,Touch.refl _ _⟩
  go_enter Tryz.func82,Tryz.ntmps82;go_wp2;go_ret;exact⟨ew Hc.o.symm,Touch.refl _ _⟩
 have h1:1<=cs.length:=by omega
 have h16:cs.length<=16:=by omega
 have hc:eB cs=nh (cs.take 0) (cs.drop 0):=by unfold eB;rw[ab h0];rfl
 have Hc:=lh hc;clear hc h0;go_enter Tryz.func82,Tryz.ntmps82;go_wp2;go_loopw [3] (λi wr=>∃k:Nat,k<=cs.length/\i=.int .i64 k/\Ga (eB cs=nh (cs.take k) (cs.drop k))/\Touch [] w wr) (λi _=>cs.length-(intOf i).toNat)
 case atStart=>exact⟨0,by omega,rfl,Hc,Touch.refl _ _⟩
 case round =>
 clear Hc;obtain⟨k,hk,rfl,Hc,ht⟩:=hrel;by_cases hlt:k<cs.length
 ·obtain⟨ad,b,off,rfl,hadd,c0,c1⟩:=(h.touch0 ht).at_ k hlt;have hcok:=hok _ (am hlt);have hst:=rh hlt;obtain⟨c,hce⟩:∃c,c=cs[k]:=⟨_,rfl⟩;rw[<- hce] at c0 c1 hst hcok;have Hst:=lh (Hc.o.trans hst);have Hce:=lh hce;clear hst Hc hce;obtain⟨hcn,hct1,hct2⟩:=hcok;have hname:=wK c.name hcn wr;rcases hnv:jE c.name.data.toList with _|_
  ·rw[hnv] at hname;have Hname:=lh hname;clear hname;have he:iV (cs.take k) c=13:=by unfold iV;rw[ae hnv]
   have He:=lh (show eB cs=13 by rw[Hst.o,he];rfl);clear he hnv;go_wp2_with (go_at_call 113;refine Hname.o.mono ?_;rintro e w1 ⟨rfl,rfl⟩);go_ret;exact⟨ew He.o.symm,ht⟩
  rw[hnv] at hname;have Hname:=lh hname;clear hname;by_cases hty:c.typ≠1/\c.typ≠2
  ·have he:iV (cs.take k) c=12:=by unfold iV;rw[ab (by rw[hnv];simp),ae hty]
   have He:=lh (show eB cs=12 by rw[Hst.o,he];rfl);clear he hnv;obtain⟨q1,q2⟩:=hty;have q1b:(c.typ==1)=false:=by rw[aw];exact q1
   have q2b:(c.typ==2)=false:=by rw[aw];exact q2
   have q1n:(c.typ != 1)=true:=by rw[bne,q1b];rfl
   have q2n:(c.typ != 2)=true:=by rw[bne,q2b];rfl
   go_wp2_with (go_at_call 113;refine Hname.o.mono ?_;rintro e w1 ⟨rfl,rfl⟩);go_ret;exact⟨ew He.o.symm,ht⟩
  have hty2:c.typ=1\/c.typ=2:=by omega
  have Htyn:=lh hty;have Hnv:=lh hnv;clear hty hnv;have c1':=c1;rcases hty2 with q|q;all_goals
  rw[q] at c1;clear q c1';go_wp2_with (go_at_call 113;refine Hname.o.mono ?_;rintro e w1 ⟨rfl,rfl⟩);obtain⟨wo,hwo⟩:∃wo:World,wo=wr:=⟨_,rfl⟩;clear Hname;go_loopw [4] (λi wr2=>∃j:Nat,j<=k/\i=.int .i64 j/\(∀m(hm:m<j),cs[m]?.map (·.name)≠some c.name)/\Touch [] w wr2) (λi _=>k-(intOf i).toNat)
  case atStart=>exact⟨0,by omega,rfl,λm hm=>absurd hm (by omega),ht⟩
  case round =>
  obtain⟨j,hj,rfl,hno,ht2⟩:=hrel;by_cases hjk:j<k
  ·obtain⟨ad2,b2,off2,e2,hadd2,e0,_⟩:=(h.touch0 ht2).at_ j (by omega);obtain rfl:ad=ad2:=by injection e2
   obtain⟨ad3,b3,off3,e3,hadd3,f0,_⟩:=(h.touch0 ht2).at_ k hlt;obtain rfl:ad=ad3:=by injection e3
   rw[hadd] at hadd3;cases hadd3;rw[<- Hce.o] at f0;obtain⟨d,hde⟩:∃d,d=cs[j]:=⟨_,rfl⟩;rw[<- hde] at e0;have Hde:=lh hde;have hjkI:(j:Int)<(k:Int):=by omega
   have hj0I:(0:Int)<=(j:Int):=by omega
   have hk0I:(0:Int)<=(k:Int):=by omega
   have hjlI:(j:Int)<(cs.length:Int):=by omega
   have hklI:(k:Int)<(cs.length:Int):=by omega
   have hno':=lh hno;clear hde e2 e3 hno c0 c1;have hbq:=jZ d.name c.name;by_cases hdc:d.name=c.name
   ·have hany:((cs.take k).any λd=>decide (d.name=c.name))=true:=cO.2 ⟨d,by
     rw[List.mem_iff_getElem?];exact⟨j,by rw[List.getElem?_take,ae hjk,Hde.o];exact aX _⟩,by simpa using hdc⟩
    have he:iV (cs.take k) c=14:=by unfold iV;rw[ab (by rw[Hnv.o];simp),ab Htyn.o,ae hany]
    have He:=lh (show eB cs=14 by rw[Hst.o,he];rfl);rw[aF hdc] at hbq;clear he hany hdc;go_wp2;go_quiet (fail);go_wp2;go_ret;exact⟨ew He.o.symm,ht2.drewN _⟩
   rw[aC hdc] at hbq;have Hdc:=lh hdc;clear hdc;go_wp2;go_quiet (fail);go_wp2;go_roundw
   case rel=>exact⟨j+1,by omega,by go_num,λm hm=>by
    by_cases hmj:m<j
    ·exact hno'.o m hmj
    obtain rfl:m=j:=by omega
    rw[aX (by omega),<- Hde.o];simpa using Hdc.o,ht2.drewN _⟩
   case measure=>simp[intOf];omega
  obtain rfl:j=k:=by omega
  have hany:¬((cs.take j).any λd=>decide (d.name=c.name))=true:=λha=>by
   obtain⟨d,hd,hde⟩:=cO.1 ha;obtain⟨m,hm⟩:=List.mem_iff_getElem?.1 hd;rw[List.getElem?_take] at hm;split at hm
   ·rename_i hmj;exact hno m hmj (by rw[hm];simpa using hde)
   cases hm
  have he:iV (cs.take j) c=0:=by unfold iV;rw[ab (by rw[Hnv.o];simp),ab Htyn.o,ab hany]
  have He:=lh (show eB cs=nh (cs.take (j+1)) (cs.drop (j+1)) by rw[Hst.o,he];rfl);clear he hany hno hwo;go_wp2;go_roundw
  case rel=>exact⟨j+1,by omega,by go_num,He,ht2⟩
  case measure=>simp[intOf];omega
 obtain rfl:k=cs.length:=by omega
 have He:=lh (show eB cs=0 by rw[Hc.o,bY];rfl);go_wp2;go_ret;exact⟨ew He.o.symm,ht⟩
end
section
open Go.RowKit
theorem yM(s:ByteArray):s.toList.isEmpty=decide (s.size=0):=by rw[jW,cD,List.isEmpty_iff,bF,<- j3,List.length_eq_zero_iff]
theorem ww(v:VD)(hs:v.text.size<=140737000000000)(w:World): Calls Tryz.prog 114 #[v.val] w λe w'=>e=.returned (.bool v.right)/\Touch [] w w':=by
 obtain⟨kd,num,text⟩:=v;obtain⟨t,rfl⟩:∃t,text=S t:=⟨_,(m9 _).symm⟩;have hsz:=ji t;simp only at hs;rw[hsz] at hs;have t0:=(Touch.refl [] w).alloc (.cells #[.int .i64 kd,.int .i64 num,.string (S t)] 130);have he:=yM (S t);rw[hsz] at he;have hr:VD.right ⟨kd,num,S t⟩=(if kd=0 then decide (num=0)&&decide (t.length=0) else if kd=1 then decide (t.length=0) else if kd=2 then decide (num=0)&&ij t else false):=by unfold VD.right;simp only[he];rw[wC]
 have Hr:=lh hr;clear hr he;have hbad:∀(b:Bool),VD.right ⟨kd,num,S t⟩=b->∀w',Touch [] w w'->(Ending.returned (.bool b)=Ending.returned (.bool (VD.right ⟨kd,num,S t⟩))/\Touch [] w w'):=λb hb w' ht=>⟨by rw[hb],ht⟩;have Hb:=lh hbad;clear hbad;dsimp only[VD.val] at *;by_cases hk:kd<0\/2<kd
 ·have Hf:=lh (Hb.o false (by rw[Hr.o,ab (by omega),ab (by omega),ab (by omega)]) _ t0);rcases hk with hk|hk
  ·go_enter dW,dN;go_wp2;go_ret;exact Hf.o
  go_enter dW,dN;go_wp2;go_ret;exact Hf.o
 by_cases hk1:kd≠1/\num≠0
 ·have Hf:=lh (Hb.o false (by
   rw[Hr.o];have:=hk1.2;split
   ·simp[this]
   rw[ab hk1.1];split<;>simp[this]) _ t0)
  have q1:(kd==1)=false:=by rw[aw];exact hk1.1
  have q1':(kd != 1)=true:=by rw[bne,q1];rfl
  have q2:(num==0)=false:=by rw[aw];exact hk1.2
  have q2':(num != 0)=true:=by rw[bne,q2];rfl
  clear hk1;go_enter dW,dN;go_wp2;go_ret;exact Hf.o
 by_cases hk2:kd≠2/\0<t.length
 ·have Hf:=lh (Hb.o false (by
   rw[Hr.o];have h0:decide (t.length=0)=false:=aC (by omega);rw[h0,ab hk2.1];split
   ·simp
   split<;>rfl) _ t0)
  have q1:(kd==2)=false:=by rw[aw];exact hk2.1
  have q1':(kd != 2)=true:=by rw[bne,q1];rfl
  obtain⟨_,q3⟩:=hk2;rcases(show kd=1\/(kd≠1/\num=0) by omega) with h1|⟨h1,h2⟩
  ·subst h1;clear hk1;go_enter dW,dN;go_wp2;go_ret;exact Hf.o
  subst h2;have q4:(kd==1)=false:=by rw[aw];exact h1
  have q4':(kd != 1)=true:=by rw[bne,q4];rfl
  clear hk1 h1;go_enter dW,dN;go_wp2;go_ret;exact Hf.o
 have hmain:(kd=2/\num=0)\/(kd=1/\t=[])\/(kd=0/\num=0/\t=[]):=by
  have hz:0<t.length\/t=[]:=by cases t;exact .inr rfl;exact .inl (by simp)
  rcases hz with hz|hz
  ·left;constructor<;>omega
  rcases(show kd=0\/kd=1\/kd=2 by omega) with e | e | e
  ·exact .inr (.inr ⟨e,by omega,hz⟩)
  ·exact .inr (.inl ⟨e,hz⟩)
  left;constructor<;>omega
 clear hk hk1 hk2;rcases hmain with ⟨rfl,rfl⟩|⟨rfl,rfl⟩|⟨rfl,rfl,rfl⟩
 ·by_cases h64:64<t.length
  ·have Hf:=lh (Hb.o false (by rw[Hr.o];simp[ij];omega) _ t0);go_enter dW,dN;go_wp2;go_ret;exact Hf.o
  go_enter dW,dN;go_wp2;go_loop [3] (λi=>∃k:Nat,k<=t.length/\i=.int .i64 k/\Ga ((t.take k).all ms=true)) (λi=>t.length-(intOf i).toNat)
  case atStart=>exact⟨0,by omega,rfl,lh rfl⟩
  case round =>
  obtain⟨k,hk,rfl,hall⟩:=hrel;by_cases hlt:k<t.length
  ·have hno:=lu (p:=ms) hlt;have hyes:=jt (p:=ms) hlt hall.o;have hg:=rZ t k (by rw[hsz];exact hlt);obtain⟨x,hx⟩:∃x,x=t[k]:=⟨_,rfl⟩;rw[<- hx] at hno hyes hg;have Hno:=lh hno;have Hyes:=lh hyes;have hxl:=x.toNat_lt;have hkI:(k:Int)<t.length:=by omega
   clear hno hyes hx hall;by_cases h1:x.toNat<32
   ·have Hf:=lh (Hb.o false (by rw[Hr.o];simp only[if_neg (show ¬(2:Int)=0 by omega),if_neg (show ¬(2:Int)=1 by omega),if_true,ij];rw[Hno.o (by simp[ms];omega)];rfl) _ t0);go_wp2;go_ret;exact Hf.o
   by_cases h2:126<x.toNat
   ·have Hf:=lh (Hb.o false (by rw[Hr.o];simp only[if_neg (show ¬(2:Int)=0 by omega),if_neg (show ¬(2:Int)=1 by omega),if_true,ij];rw[Hno.o (by simp[ms];omega)];rfl) _ t0);go_wp2;go_ret;exact Hf.o
   have Ha:=lh (Hyes.o (by simp[ms];omega));go_wp2;go_round
   case rel=>exact⟨k+1,by omega,by go_num,Ha⟩
   case measure=>simp[intOf];omega
  obtain rfl:k=t.length:=by omega
  have h:=hall.o;rw[aH] at h;have Hf:=lh (Hb.o true (by rw[Hr.o];simp only[if_neg (show ¬(2:Int)=0 by omega),if_neg (show ¬(2:Int)=1 by omega),if_true,ij];rw[h];simp;omega) _ t0);clear hall h;go_wp2;go_ret;exact Hf.o
 ·have Hf:=lh (Hb.o true (by rw[Hr.o];rfl) _ t0);go_enter dW,dN;go_wp2;refine b8 1 ?_;rw[bx];go_wp2;go_ret;exact Hf.o
 have Hf:=lh (Hb.o true (by rw[Hr.o];rfl) _ t0);go_enter dW,dN;go_wp2;refine b8 1 ?_;rw[bx];go_wp2;go_ret;exact Hf.o
end
section
open Go.RowKit
theorem w_(A:Option Addr)(cap n:Nat)(cs:List CD)(hn:cs.length=n)(B:Option Addr)(bcap m:Nat)(vs:List VD)(hm:vs.length=m)(hvk:∀ v∈vs,v.Ok 140737000000000) (w:World) (h:em w A cs) (hv:eu w B vs) (hl:n<=140737000000000) (hl2:m<=140737000000000) : Calls Tryz.prog 83 #[.slice A n cap,.slice B m bcap] w λe w'=>e=.returned (.bool (fw cs vs))/\Touch [] w w':=by
 subst hn hm;by_cases hlen:vs.length=cs.length
 ·have Hlen:=lh hlen;have hq:((cs.length:Int)==(vs.length:Int))=true:=by rw[dx];omega
  have hq':((cs.length:Int) != (vs.length:Int))=false:=by rw[bne,hq];rfl
  clear hlen;go_enter Tryz.func83,Tryz.ntmps83;go_wp2;clear hq hq';go_loopw [5] (λi wr=>∃k:Nat,k<=cs.length/\i=.int .i64 k/\Ga (((List.zipWith gK cs vs).take k).all id=true)/\Touch [] w wr) (λi _=>cs.length-(intOf i).toNat)
  case atStart=>exact⟨0,by omega,rfl,lh rfl,Touch.refl _ _⟩
  case round =>
  obtain⟨k,hk,rfl,Hall,ht⟩:=hrel;by_cases hlt2:k<cs.length
  ·have hlt:k<vs.length:=by have:=Hlen.o;omega
   obtain⟨ad,b,off,rfl,hadd,c0,c1⟩:=(h.touch0 ht).at_ k hlt2;obtain⟨bd,b2,off2,rfl,hadd2,d0,d1,d2⟩:=(hv.touch0 ht).at_ k hlt;have hno:=By hlt2 hlt;have hyes:=xI hlt2 hlt Hall.o;have hvok:=hvk _ (am hlt);obtain⟨c,hce⟩:∃c,c=cs[k]:=⟨_,rfl⟩;obtain⟨v,hve⟩:∃v,v=vs[k]:=⟨_,rfl⟩;rw[<- hce] at c0 c1 hno hyes;rw[<- hve] at d0 d1 d2 hno hyes hvok;have Hno:=lh hno;have Hyes:=lh hyes;obtain⟨_,_,hvt⟩:=hvok;obtain⟨kd,nm,tx⟩:=v;simp only at d0 d1 d2 hvt;have g0:=TW.cell d0;have g1:=TW.cell d1;have g2:=TW.cell d2;have g3:=TW.cell c1;clear hce hve hno hyes Hall c0 c1 d0 d1 d2;have hright:=λw'=>ww ⟨kd,nm,tx⟩ hvt w';simp only[VD.val] at hright;have hkI0:(0:Int)<=(k:Int):=by omega
   have hkI:(k:Int)<(cs.length:Int):=by omega
   have hkI2:(k:Int)<(vs.length:Int):=by omega
   rcases hvr:VD.right ⟨kd,nm,tx⟩ with _|_
   ·have Hf:=lh (Hno.o (by unfold gK;rw[hvr];rfl));rw[hvr] at hright;have Hright:=lh hright;clear hright hvr;go_wp2;refine eh wr (Touch.refl _ _) (by kernel_rfl) (by kernel_rfl) ?_;repeat (go_big_quiet_step (((go_at_call 114;exact Calls.tw _ (Hright.o _)))))
    refine aS ?_;rintro _ ⟨x2,rfl⟩;go_wp2;go_ret;exact⟨eo (by rw[Hf.o]),ht.trans0 x2.t⟩
   have Hr:=lh hvr;rw[hvr] at hright;have Hright:=lh hright;clear hright hvr;by_cases hk0:kd=0
   ·subst hk0;have Ha:=lh (Hyes.o (by unfold gK;rw[Hr.o];rfl));go_wp2;refine eh wr (Touch.refl _ _) (by kernel_rfl) (by kernel_rfl) ?_;repeat (go_big_quiet_step (((go_at_call 114;exact Calls.tw _ (Hright.o _)))))
    refine aS ?_;rintro _ ⟨x2,rfl⟩;go_wp2;go_roundw
    case rel=>exact⟨k+1,by omega,by go_num,Ha,ht.trans0 x2.t⟩
    case measure=>simp[intOf];omega
   have q0:(kd==0)=false:=by rw[aw];exact hk0
   have q0':(kd != 0)=true:=by rw[bne,q0];rfl
   by_cases hkt:kd=c.typ
   ·have Ha:=lh (Hyes.o (by unfold gK;rw[Hr.o];simp[hkt]));have q1:(kd==c.typ)=true:=by rw[dx];exact hkt
    have q1':(kd != c.typ)=false:=by rw[bne,q1];rfl
    clear hk0 hkt;go_wp2;refine eh wr (Touch.refl _ _) (by kernel_rfl) (by kernel_rfl) ?_;repeat (go_big_quiet_step (((go_at_call 114;exact Calls.tw _ (Hright.o _)))))
    refine aS ?_;rintro _ ⟨x2,rfl⟩;go_wp2;go_roundw
    case rel=>exact⟨k+1,by omega,by go_num,Ha,ht.trans0 x2.t⟩
    case measure=>simp[intOf];omega
   have Hf:=lh (Hno.o (by unfold gK;rw[Hr.o];simp[hkt,hk0]));have q1:(kd==c.typ)=false:=by rw[aw];exact hkt
   have q1':(kd != c.typ)=true:=by rw[bne,q1];rfl
   clear hk0 hkt;go_wp2;refine eh wr (Touch.refl _ _) (by kernel_rfl) (by kernel_rfl) ?_;repeat (go_big_quiet_step (((go_at_call 114;exact Calls.tw _ (Hright.o _)))))
   refine aS ?_;rintro _ ⟨x2,rfl⟩;go_wp2;go_ret;exact⟨eo (by rw[Hf.o]),ht.trans0 x2.t⟩
  obtain rfl:k=cs.length:=by omega
  have hall:=Hall.o;rw[bR (by rw[cu];omega)] at hall;have Hf:=lh (show fw cs vs=true by unfold fw;rw[hall,aF Hlen.o];rfl);clear hall Hall;go_wp2;go_ret;exact⟨eo (by rw[Hf.o]),ht⟩
 have Hf:=lh (show fw cs vs=false by unfold fw;rw[aC hlen];rfl);have hq:((cs.length:Int)==(vs.length:Int))=false:=by rw[aw];omega
 have hq':((cs.length:Int) != (vs.length:Int))=true:=by rw[bne,hq];rfl
 clear hlen;go_enter Tryz.func83,Tryz.ntmps83;go_wp2;go_ret;exact⟨eo (by rw[Hf.o]),Touch.refl _ _⟩
end
section
open Go.RowKit
theorem yP{a b:List UInt8}{k:Nat}(h1:k<a.length)(h2:k<b.length):Lib.compareBytes (a.drop k) (b.drop k)=if a[k]<b[k] then -1 else if b[k]<a[k] then 1 else Lib.compareBytes (a.drop (k+1)) (b.drop (k+1)):=by rw[bj h1,bj h2];rfl
theorem AQ(a b:List UInt8)(h:a=[]\/b=[]):Lib.compareBytes a b=if a.length<b.length then -1 else if b.length<a.length then 1 else 0:=by
 rcases h with rfl|rfl
 ·cases b<;>rfl
 cases a<;>rfl
theorem vw(a b:List UInt8)(ha:a.length<=9223372036854775807)(hb:b.length<=9223372036854775807)(w:World): Calls Tryz.prog 29 #[.string (S a),.string (S b)] w λe w'=>e=.returned (.int .i64 (Lib.compareBytes a b))/\Touch [] w w':=by
 have hsa:=ji a;have hsb:=ji b;go_enter Tryz.func29,Tryz.ntmps29;go_wp2;go_loopw [5] (λi wr=>∃k:Nat,k<=a.length/\k<=b.length/\i=.int .i64 k/\Ga (Lib.compareBytes a b=Lib.compareBytes (a.drop k) (b.drop k))/\Touch [] w wr) (λi _=>a.length-(intOf i).toNat)
 case atStart=>exact⟨0,by omega,by omega,rfl,lh rfl,Touch.refl _ _⟩
 case round =>
 obtain⟨k,hka,hkb,rfl,Ho,ht⟩:=hrel;by_cases hlt:k<a.length/\k<b.length
 ·obtain⟨h1,h2⟩:=hlt;have hst:=yP h1 h2;obtain⟨x,hx⟩:∃x,x=a[k]:=⟨_,rfl⟩;obtain⟨y,hy⟩:∃y,y=b[k]:=⟨_,rfl⟩;have hg:=rZ a k (by rw[hsa];exact h1);have hg2:=rZ b k (by rw[hsb];exact h2);rw[<- hx] at hst hg;rw[<- hy] at hst hg2;simp only[UInt8.lt_iff_toNat_lt] at hst;have hxl:=x.toNat_lt;have hyl:=y.toNat_lt;have Hst:=lh hst;have h1I:(k:Int)<(a.length:Int):=by omega
  have h2I:(k:Int)<(b.length:Int):=by omega
  have h0I:(0:Int)<=(k:Int):=by omega
  clear hst hx hy;rcases Nat.lt_trichotomy x.toNat y.toNat with hq|hq|hq
  ·have Hq:=lh (show Lib.compareBytes a b = -1 by rw[Ho.o,Hst.o,ae hq]);go_wp2;go_quiet (fail);go_wp2;go_ret;exact⟨ew Hq.o.symm,ht.drewN _⟩
  ·have Hq:=lh (show Lib.compareBytes a b=Lib.compareBytes (a.drop (k+1)) (b.drop (k+1)) by rw[Ho.o,Hst.o,ab (by omega),ab (by omega)]);obtain rfl:x=y:=UInt8.toNat_inj.1 hq;clear hq;go_wp2;go_quiet (fail);go_wp2;go_quiet (fail);go_wp2;go_roundw
   case rel=>exact⟨k+1,by omega,by omega,by go_num,Hq,ht.drewN _⟩
   case measure=>simp[intOf];omega
  have Hq:=lh (show Lib.compareBytes a b=1 by rw[Ho.o,Hst.o,ab (by omega),ae hq]);have hq2:¬x.toNat<y.toNat:=by omega
  go_wp2;go_quiet (fail);go_wp2;go_quiet (fail);go_wp2;go_ret;exact⟨ew Hq.o.symm,(ht.drewN _).drewN _⟩
 have hend:a.drop k=[]\/b.drop k=[]:=by
  rcases(show k=a.length\/k=b.length by omega) with e|e
  ·left;rw[e];exact bY
  right;rw[e];exact bY
 have hE:=AQ _ _ hend;rw[cF,cF] at hE;have HE:=lh hE;clear hE hend;rcases Nat.lt_trichotomy a.length b.length with hq|hq|hq
 ·have Hq:=lh (show Lib.compareBytes a b = -1 by rw[Ho.o,HE.o,ae (by omega)]);obtain rfl:k=a.length:=by omega
  have hqI:(a.length:Int)<(b.length:Int):=by omega
  clear HE Ho hlt;go_wp2;go_ret;exact⟨ew Hq.o.symm,ht⟩
 ·have Hq:=lh (show Lib.compareBytes a b=0 by rw[Ho.o,HE.o,ab (by omega),ab (by omega)]);obtain rfl:k=a.length:=by omega
  clear HE Ho hlt;go_wp2;go_ret;exact⟨ew Hq.o.symm,ht⟩
 have Hq:=lh (show Lib.compareBytes a b=1 by rw[Ho.o,HE.o,ab (by omega),ae (by omega)]);obtain rfl:k=b.length:=by omega
 have hqI:(b.length:Int)<(a.length:Int):=by omega
 clear HE Ho hlt;go_wp2;go_ret;exact⟨ew Hq.o.symm,ht⟩
theorem uH(a b:ByteArray)(ha:a.size<=9223372036854775807)(hb:b.size<=9223372036854775807)(w:World): Calls Tryz.prog 29 #[.string a,.string b] w λe w'=>e=.returned (.int .i64 (Lib.compareBytes a.data.toList b.data.toList))/\Touch [] w w':=by have:=vw a.data.toList b.data.toList (by rw[<- ji,m9];exact ha) (by rw[<- ji,m9];exact hb) w;rwa[m9,m9] at this
theorem mG(a b:VD)(ha:a.text.size<=9223372036854775807)(hb:b.text.size<=9223372036854775807)(w:World): Calls Tryz.prog 78 #[a.val,b.val] w λe w'=>e=.returned (.int .i64 (eU a b))/\Touch [] w w':=by
 obtain⟨k1,n1,s1⟩:=a;obtain⟨k2,n2,s2⟩:=b;have hB:=λw'=>uH s1 s2 ha hb w';have hc:eU ⟨k1,n1,s1⟩ ⟨k2,n2,s2⟩=jR [Lib.compareInt k1 k2,Lib.compareInt n1 n2,Lib.compareBytes s1.data.toList s2.data.toList]:=rfl;rw[hc];have HB:=lh hB;have t0:=(((Touch.refl [] w).alloc (.cells #[.int .i64 k1,.int .i64 n1,.string s1] 130)).alloc (.cells #[.int .i64 k2,.int .i64 n2,.string s2] 130));clear hB hc;dsimp only[VD.val];go_enter Tryz.func78,Tryz.ntmps78;rcases Int.lt_trichotomy k1 k2 with h1|rfl|h1
 ·have Hq:=lh (show jR [Lib.compareInt k1 k2,Lib.compareInt n1 n2,Lib.compareBytes s1.data.toList s2.data.toList] = -1 by rw[show Lib.compareInt k1 k2 = -1 by unfold Lib.compareInt;rw[ae h1]];rfl)
  have hq:(k1==k2)=false:=by rw[aw];omega
  have hq':(k1 != k2)=true:=by rw[bne,hq];rfl
  go_wp2;go_ret;exact⟨ew Hq.o.symm,t0⟩
 ·have Hz:=lh (show jR [Lib.compareInt k1 k1,Lib.compareInt n1 n2,Lib.compareBytes s1.data.toList s2.data.toList]=jR [Lib.compareInt n1 n2,Lib.compareBytes s1.data.toList s2.data.toList] by rw[show Lib.compareInt k1 k1=0 by unfold Lib.compareInt;simp];rfl)
  rcases Int.lt_trichotomy n1 n2 with h2|rfl|h2
  ·have Hq:=lh (show jR [Lib.compareInt n1 n2,Lib.compareBytes s1.data.toList s2.data.toList] = -1 by rw[show Lib.compareInt n1 n2 = -1 by unfold Lib.compareInt;rw[ae h2]];rfl)
   go_wp2;go_ret;exact⟨ew (by rw[Hz.o,Hq.o]),t0⟩
  ·have Hq:=lh (show jR [Lib.compareInt n1 n1,Lib.compareBytes s1.data.toList s2.data.toList]=Lib.compareBytes s1.data.toList s2.data.toList by rw[show Lib.compareInt n1 n1=0 by unfold Lib.compareInt;simp];simp only[jR];split<;>simp_all)
   go_wp2_with fail;refine(HB.o _).mono ?_;rintro e w1 ⟨rfl,t1⟩;go_wp2;go_ret;exact⟨ew (by rw[Hz.o,Hq.o]),t0.trans0 t1⟩
  have Hq:=lh (show jR [Lib.compareInt n1 n2,Lib.compareBytes s1.data.toList s2.data.toList]=1 by rw[show Lib.compareInt n1 n2=1 by unfold Lib.compareInt;rw[ab (by omega),ae h2]];rfl)
  have h2':¬n1<n2:=by omega
  go_wp2;go_ret;exact⟨ew (by rw[Hz.o,Hq.o]),t0⟩
 have Hq:=lh (show jR [Lib.compareInt k1 k2,Lib.compareInt n1 n2,Lib.compareBytes s1.data.toList s2.data.toList]=1 by rw[show Lib.compareInt k1 k2=1 by unfold Lib.compareInt;rw[ab (by omega),ae h1]];rfl)
 have hq:(k1==k2)=false:=by rw[aw];omega
 have hq':(k1 != k2)=true:=by rw[bne,hq];rfl
 have h1':¬k1<k2:=by omega
 go_wp2;go_ret;exact⟨ew Hq.o.symm,t0⟩
end
section
open Go.RowKit
theorem jN(A B:Option Addr)(c1 c2 n m:Nat)(l r:List VD)(hn:l.length=n)(hm:r.length=m)(hok:∀ v∈l,v.Ok 140737000000000)(hok2:∀ v∈r,v.Ok 140737000000000)(w:World)(h:eu w A l)(h2:eu w B r)(hl:n<=140737000000000)(hl2:m<=140737000000000): Calls Tryz.prog 51 #[.slice A n c1,.slice B m c2] w λe w'=>e=.returned (.int .i64 (ej l r))/\Touch [] w w':=by
 subst hn hm;go_enter Tryz.func51,Tryz.ntmps51;go_wp2;go_loopw [5] (λi wr=>∃k:Nat,k<=l.length/\k<=r.length/\i=.int .i64 k/\Ga (ej l r=ej (l.drop k) (r.drop k))/\Touch [] w wr) (λi _=>l.length-(intOf i).toNat)
 case atStart=>exact⟨0,by omega,by omega,rfl,lh rfl,Touch.refl _ _⟩
 case round =>
 obtain⟨k,hka,hkb,rfl,Ho,ht⟩:=hrel;by_cases hlt:k<l.length/\k<r.length
 ·obtain⟨h1,h2'⟩:=hlt;obtain⟨ad,b,off,rfl,hadd,c0,c1,c2⟩:=(h.touch0 ht).at_ k h1;obtain⟨bd,b2,off2,rfl,hadd2,d0,d1,d2⟩:=(h2.touch0 ht).at_ k h2';have hst:=oI h1 h2';have ho1:=hok _ (am h1);have ho2:=hok2 _ (am h2');obtain⟨x,hx⟩:∃x,x=l[k]:=⟨_,rfl⟩;obtain⟨y,hy⟩:∃y,y=r[k]:=⟨_,rfl⟩;rw[<- hx,<- hy] at hst;rw[<- hx] at c0 c1 c2 ho1;rw[<- hy] at d0 d1 d2 ho2;obtain⟨k1,n1,s1⟩:=x;obtain⟨k2,n2,s2⟩:=y;simp only at c0 c1 c2 d0 d1 d2;have hcv:=λw'=>mG ⟨k1,n1,s1⟩ ⟨k2,n2,s2⟩ (by have:=ho1.t;simp only at this ⊢;omega) (by have:=ho2.t;simp only at this ⊢;omega) w';simp only[VD.val] at hcv;obtain⟨q,hq⟩:∃q,q=eU ⟨k1,n1,s1⟩ ⟨k2,n2,s2⟩:=⟨_,rfl⟩;rw[<- hq] at hst hcv;have Hcv:=lh hcv;have Hst:=lh hst;have g0:=TW.cell c0;have g1:=TW.cell c1;have g2:=TW.cell c2;have f0:=TW.cell d0;have f1:=TW.cell d1;have f2:=TW.cell d2;have h1I:(k:Int)<(l.length:Int):=by omega
  have h2I:(k:Int)<(r.length:Int):=by omega
  have h0I:(0:Int)<=(k:Int):=by omega
  clear hst hcv hx hy hq c0 c1 c2 d0 d1 d2 ho1 ho2;by_cases h0:q=0
  ·subst h0;have Hq:=lh (show ej l r=ej (l.drop (k+1)) (r.drop (k+1)) by rw[Ho.o,Hst.o,ae rfl]);go_wp2;refine eh wr (Touch.refl _ _) (by kernel_rfl) (by kernel_rfl) ?_;repeat (go_big_quiet_step (((go_at_call 78;exact Calls.tw _ (Hcv.o _)))))
   refine aS ?_;rintro _ ⟨x2,rfl⟩;go_wp2;go_roundw
   case rel=>exact⟨k+1,by omega,by omega,by go_num,Hq,ht.trans0 x2.t⟩
   case measure=>simp[intOf];omega
  have Hq:=lh (show ej l r=q by rw[Ho.o,Hst.o,ab h0]);have hq:(q==0)=false:=by rw[aw];exact h0
  have hq':(q != 0)=true:=by rw[bne,hq];rfl
  go_wp2;refine eh wr (Touch.refl _ _) (by kernel_rfl) (by kernel_rfl) ?_;repeat (go_big_quiet_step (((go_at_call 78;exact Calls.tw _ (Hcv.o _)))))
  refine aS ?_;rintro _ ⟨x2,rfl⟩;go_wp2;go_ret;exact⟨ew Hq.o.symm,ht.trans0 x2.t⟩
 have hE:=l9 (l.drop k) (r.drop k) (by
  rcases(show l.length<=k\/r.length<=k by omega) with e|e
  ·exact .inl (b_ e)
  exact .inr (b_ e))
 rw[cF,cF] at hE;have HE:=lh hE;clear hE;rcases Nat.lt_trichotomy l.length r.length with hq|hq|hq
 ·have Hq:=lh (show ej l r = -1 by rw[Ho.o,HE.o,ae (by omega)]);obtain rfl:k=l.length:=by omega
  have hqI:(l.length:Int)<(r.length:Int):=by omega
  clear HE Ho hlt;go_wp2;go_ret;exact⟨ew Hq.o.symm,ht⟩
 ·have Hq:=lh (show ej l r=0 by rw[Ho.o,HE.o,ab (by omega),ab (by omega)]);obtain rfl:k=l.length:=by omega
  clear HE Ho hlt;go_wp2;go_ret;exact⟨ew Hq.o.symm,ht⟩
 have Hq:=lh (show ej l r=1 by rw[Ho.o,HE.o,ab (by omega),ae (by omega)]);obtain rfl:k=r.length:=by omega
 have hqI:(r.length:Int)<(l.length:Int):=by omega
 clear HE Ho hlt;go_wp2;go_ret;exact⟨ew Hq.o.symm,ht⟩
end
section
open Go.RowKit
theorem ip(A:Option Addr)(cap n:Nat)(cs:List CD)(hn:cs.length=n)(s:ByteArray)(w:World)(h:em w A cs)(hl:n<=140737000000000): Calls Tryz.prog 44 #[.slice A n cap,.string s] w λe w'=>e=.returned (.int .i64 (eM cs s))/\Touch [] w w':=by
 subst hn;go_enter Tryz.func44,Tryz.ntmps44;go_wp2;go_loopw [9] (λi wr=>∃k:Nat,k<=cs.length/\i=.int .i64 k/\Ga (∀j(hj:j<k)(hl:j<cs.length),cs[j].name≠s)/\Touch [] w wr) (λi _=>cs.length-(intOf i).toNat)
 case atStart=>exact⟨0,by omega,rfl,lh (λj hj=>absurd hj (by omega)),Touch.refl _ _⟩
 case round =>
 obtain⟨k,hk,rfl,Hno,ht⟩:=hrel;by_cases hlt:k<cs.length
 ·obtain⟨ad,b,off,rfl,hadd,c0,c1⟩:=(h.touch0 ht).at_ k hlt;have hyes:=qV (s:=s) hlt;obtain⟨c,hce⟩:∃c,c=cs[k]:=⟨_,rfl⟩;rw[<- hce] at c0 c1 hyes;obtain⟨cn,ct⟩:=c;dsimp only at c0 c1 hyes;have Hce:=lh hce;have Hyes:=lh hyes;clear hce hyes;have hbs:=jZ cn s;by_cases hcs:cn=s
  ·have Hp:=lh (Hyes.o hcs (λj hj=>Hno.o j hj (by omega)));rw[aF hcs] at hbs;clear hcs;go_wp2;go_ret;exact⟨ew (by unfold eM;rw[Hp.o]),ht.alloc _⟩
  rw[aC hcs] at hbs;have Hcs:=lh hcs;clear hcs;go_wp2;go_roundw
  case rel=>exact⟨k+1,by omega,by go_num,lh (λj hj hl=>by
   by_cases hjk:j=k
   ·subst hjk;rw[<- Hce.o];exact Hcs.o
   exact Hno.o j (by omega) hl),ht.alloc _⟩
  case measure=>simp[intOf];omega
 obtain rfl:k=cs.length:=by omega
 have Hp:=lh (qJ (cs:=cs) (s:=s) (λj hj=>Hno.o j hj hj));go_wp2;go_ret;exact⟨ew (by unfold eM;rw[Hp.o]),ht⟩
theorem vZ(A:Option Addr)(c m:Nat)(rows:List (List VD))(hm:rows.length=m)(hvk:fe rows)(w:World)(hv:eW w A rows)(hl2:m<=140737000000000): Calls Tryz.prog 57 #[.slice A m c] w λe w'=>e=.returned (.bool (gH rows))/\Touch [] w w':=by
 subst hm;go_enter Tryz.func57,Tryz.ntmps57;go_wp2;go_loopw [3] (λi wr=>∃j:Nat,(j<=rows.length\/j=1)/\1<=j/\i=.int .i64 j/\Ga (∀p(hp:p+1<rows.length),p+1<j->0<=ej (rows[p+1]) (rows[p]))/\Touch [] w wr) (λi _=>rows.length-(intOf i).toNat)
 case atStart=>exact⟨1,.inr rfl,aL _,rfl,lh (λp hp h=>by omega),Touch.refl _ _⟩
 case round =>
 obtain⟨j,hj,hj1,rfl,Hs,ht⟩:=hrel;by_cases hlt:j<rows.length
 ·obtain⟨p,rfl⟩:∃p,j=p+1:=⟨j-1,by omega⟩;have hp0:p<rows.length:=by omega
  obtain⟨bd,A1,c1,rfl,e1,hr1⟩:=(hv.touch0 ht).at_ (p+1) hlt;obtain⟨bd2,A2,c2,hbd,e2,hr2⟩:=(hv.touch0 ht).at_ p hp0;obtain rfl:bd=bd2:=by injection hbd
  have hv1:=hvk _ (am hlt);have hv2:=hvk _ (am hp0);have hno:=λh=>tG (rows:=rows) hlt h;have hne:=fL rows[p] rows[p+1];obtain⟨r1,hr1e⟩:∃r,r=rows[p+1]:=⟨_,rfl⟩;obtain⟨r2,hr2e⟩:∃r,r=rows[p]:=⟨_,rfl⟩;rw[<- hr1e] at e1 hr1 hv1 hno hne;rw[<- hr2e] at e2 hr2 hv2 hno hne;have hcv:=λw'(t:Touch [] wr w')=>jN A2 A1 c2 c1 r2.length r1.length r2 r1 rfl rfl hv2.2 hv1.2 w' (hr2.touch0 t) (hr1.touch0 t) hv2.1 hv1.1;have hcb:=s_ r2 r1;obtain⟨x,hx⟩:∃x,x=ej r2 r1:=⟨_,rfl⟩;rw[<- hx] at hcv hcb hne;rw[hne] at hno;have Hcv:=lh hcv;have Hno:=lh hno;have Hx:=lh hne;have Hr1:=lh hr1e;have Hr2:=lh hr2e;obtain⟨q,hq⟩:∃q,q=p+1:=⟨_,rfl⟩;have hi:(((p+1:Nat):Int))=(q:Int):=by omega
  rw[hi];rw[<- hq] at e1;have hw:IntKind.i64.wrap ((q:Int)-1)=(p:Int):=by rw[cU _ (by omega)];omega
  have hq00:(0:Int)<=(q:Int):=by omega
  have hqn:(q:Int)<(rows.length:Int):=by omega
  have hpp:(0:Int)<=(p:Int):=by omega
  have hpn:(p:Int)<(rows.length:Int):=by omega
  have g1:=TW.cell e1;have g2:=TW.cell e2;have Hq:=lh hq;clear hcv hno hx hne hr1e hr2e hi hq e1 e2 hr1 hr2 hv1 hv2 hbd;by_cases hx0:0<x
  ·have Hf:=lh (Hno.o (by omega));go_wp2;refine eh wr (Touch.refl _ _) (by kernel_rfl) (by kernel_rfl) ?_;repeat (go_big_quiet_step (((go_at_call 51;exact Calls.tw _ (Hcv.o _ (TW.t _))))))
   refine aS ?_;rintro _ ⟨x2,rfl⟩;go_wp2;go_ret;exact⟨eo (by rw[Hf.o]),ht.trans0 x2.t⟩
  have Hg:=lh (show ∀p'(hp:p'+1<rows.length),p'+1<q+1->0<=ej (rows[p'+1]) (rows[p']) from λp' hp h=>by
   by_cases he:p'+1<p+1
   ·exact Hs.o p' hp he
   obtain rfl:p'=p:=by have:=Hq.o;omega
   rw[<- Hr1.o,<- Hr2.o,Hx.o];omega)
  go_wp2;refine eh wr (Touch.refl _ _) (by kernel_rfl) (by kernel_rfl) ?_;repeat (go_big_quiet_step (((go_at_call 51;exact Calls.tw _ (Hcv.o _ (TW.t _))))))
  refine aS ?_;rintro _ ⟨x2,rfl⟩;go_wp2;go_roundw
  case rel=>exact⟨q+1,by have:=Hq.o;omega,by omega,by go_num,Hg,ht.trans0 x2.t⟩
  case measure=>simp[intOf];have:=Hq.o;omega
 have Hf:=lh (show gH rows=true from sr λp hp=>Hs.o p hp (by omega));have hle:((j:Int)<(rows.length:Int))=False:=bi (by omega);go_wp2;go_ret;exact⟨eo (by rw[Hf.o]),ht⟩
theorem xA(SA:Option Addr)(cap n:Nat)(cs:List CD)(hn:cs.length=n)(hok:∀ c∈cs,c.Ok)(A:Option Addr)(c m:Nat)(rows:List (List VD))(hm:rows.length=m)(hvk:fe rows)(w:World) (h:em w SA cs) (hv:eW w A rows) (hl:n<=140737000000000) (hl2:m<=140737000000000) : Calls Tryz.prog 55 #[.slice SA n cap,.slice A m c] w λe w'=>e=.returned (.int .i64 (e_ cs rows))/\Touch [] w w':=by
 subst hn hm;have Hck:=lh (vN SA cap cs.length cs rfl hok w h hl);have Hv:=lh (show e_ cs rows=if eB cs=0 then (if 4096<rows.length then 31 else if rows.all (fw cs)=true then 0 else 12) else eB cs from rfl);obtain⟨V,hV⟩:∃V,V=e_ cs rows:=⟨_,rfl⟩;rw[<- hV] at Hv ⊢;obtain⟨K,hK⟩:∃K,K=eB cs:=⟨_,rfl⟩;rw[<- hK] at Hv Hck;clear hV hK;by_cases h0:K=0;rotate_left
 ·have Hq:=lh (show V=K by rw[Hv.o,ab h0]);have q0:(K==0)=false:=by simpa using h0
  have q0':(K != 0)=true:=by simpa using h0
  go_enter Tryz.func55,Tryz.ntmps55;go_wp2_with fail;refine Hck.o.mono ?_;rintro e w1 ⟨rfl,t1⟩;go_wp2;go_ret;exact⟨ew Hq.o.symm,t1⟩
 subst h0;by_cases h1:4096<rows.length
 ·have Hq:=lh (show V=31 by rw[Hv.o,ae rfl,ae h1]);go_enter Tryz.func55,Tryz.ntmps55;go_wp2_with fail;refine Hck.o.mono ?_;rintro e w1 ⟨rfl,t1⟩;go_wp2;go_ret;exact⟨ew Hq.o.symm,t1⟩
 have Hq:=lh (show V=if rows.all (fw cs)=true then 0 else 12 by rw[Hv.o,ae rfl,ab h1]);clear Hv;go_enter Tryz.func55,Tryz.ntmps55;go_wp2_with fail;refine Hck.o.mono ?_;rintro e w1 ⟨rfl,t1⟩;go_wp2;go_loopw [6] (λi wr=>∃k:Nat,k<=rows.length/\i=.int .i64 k/\Ga ((rows.take k).all (fw cs)=true)/\Touch [] w wr) (λi _=>rows.length-(intOf i).toNat)
 case atStart=>exact⟨0,by omega,rfl,lh rfl,t1⟩
 case round =>
 obtain⟨k,hk,rfl,Hall,ht⟩:=hrel;by_cases hlt:k<rows.length
 ·obtain⟨bd,A1,c1,rfl,e1,hr1⟩:=(hv.touch0 ht).at_ k hlt;have hv1:=hvk _ (am hlt);have hno:=lu (p:=fw cs) hlt;have hyes:=jt (p:=fw cs) hlt Hall.o;obtain⟨r,hre⟩:∃r,r=rows[k]:=⟨_,rfl⟩;rw[<- hre] at e1 hr1 hv1 hno hyes;have hf:=w_ SA cap cs.length cs rfl A1 c1 r.length r rfl hv1.2 wr (h.touch0 ht) hr1 hl hv1.1;obtain⟨b,hb⟩:∃b,b=fw cs r:=⟨_,rfl⟩;rw[<- hb] at hf hno hyes;have Hf:=lh hf;have Hno:=lh hno;have Hyes:=lh hyes;have hkn:(k:Int)<(rows.length:Int):=by omega
  clear hf hno hyes hb hre hr1 hv1 Hall;cases b
  ·have Hz:=lh (show V=12 by rw[Hq.o,ab (by rw[Hno.o rfl];simp)]);go_wp2_with fail;refine Hf.o.mono ?_;rintro e w2 ⟨rfl,t2⟩;go_wp2;go_ret;exact⟨ew Hz.o.symm,ht.trans0 t2⟩
  go_wp2_with fail;refine Hf.o.mono ?_;rintro e w2 ⟨rfl,t2⟩;go_wp2_with fail;go_roundw
  case rel=>exact⟨k+1,by omega,by go_num,lh (Hyes.o (by first | trivial | rfl)),ht.trans0 t2⟩
  case measure=>simp[intOf];omega
 obtain rfl:k=rows.length:=by omega
 have hall:=Hall.o;rw[aH] at hall;have Hz:=lh (show V=0 by rw[Hq.o,ae hall]);clear hall Hall;go_wp2;go_ret;exact⟨ew Hz.o.symm,ht⟩
def h_(cs:List CD)(rows:List (List VD)):Bool:=decide (ft cs rows=0)
theorem zP(cs:List CD)(rows:List (List VD)):h_ cs rows=(decide (e_ cs rows=0)&&gH rows):=by
 unfold h_ ft;by_cases h:e_ cs rows=0
 ·rw[ae h,aF h,cM];rcases gH rows<;>simp
 rw[ab h,aC h,cL]
theorem rM(SA:Option Addr)(cap n:Nat)(cs:List CD)(hn:cs.length=n)(hok:∀ c∈cs,c.Ok)(A:Option Addr)(c m:Nat)(rows:List (List VD))(hm:rows.length=m)(hvk:fe rows)(hle:gR rows)(w:World) (h:em w SA cs) (hv:eW w A rows) (hl:n<=1000000) (hl2:m<=1000000) : Calls Tryz.prog 25 #[.agg #[.slice SA n cap,.slice A m c]] w λe w'=>e=.returned (.bool (h_ cs rows))/\Touch [] w w':=by
 subst hn hm;have t0:=(Touch.refl [] w).alloc (.cells #[.slice SA cs.length cap,.slice A rows.length c] 27);have hbx:=ah w (.cells #[.slice SA cs.length cap,.slice A rows.length c] 27);have Hr:=lh (jw A c rows.length rows rfl hl2 hle _ (hv.touch0 t0));have Hs:=lh λw'(t:Touch [] w w')=>zh SA cap cs.length cs rfl w' (h.touch0 t) (by omega);have HT0:=Gb t0 hbx;have Hv:=lh (zP cs rows);obtain⟨V,hV⟩:∃V,V=h_ cs rows:=⟨_,rfl⟩;rw[<- hV] at Hv ⊢;clear hV t0 hbx;go_enter Tryz.func25,Tryz.ntmps25;go_wp2_with fail;refine Hr.o.mono ?_;rintro e w1 ⟨B,c1,rfl,ho,t1,hf1⟩;have HO:=lh ho;have HT1:=lh (HT0.o.1.trans0 t1);have x0:=t1.cell (d_ HT0.o.2 (i:=0) (v:=.slice SA cs.length cap) rfl) (by simp);clear ho hf1 t1;go_wp2_with fail;refine(Hs.o _ HT1.o).mono ?_;rintro e w2 ⟨A2,c2,rfl,hm⟩;have HM:=lh hm;have Hck:=lh (xA A2 c2 cs.length cs rfl hok B c1 rows.length rows rfl hvk w2 hm.own.rd (HO.o.rowsAt.touch0 hm.t) (by omega) (by omega));obtain⟨K,hK⟩:∃K,K=e_ cs rows:=⟨_,rfl⟩;rw[<- hK] at Hck Hv;clear hm x0 hK;go_wp2_with fail;refine Hck.o.mono ?_;rintro e w3 ⟨rfl,t3⟩;have HT3:=lh (HM.o.t.trans0 t3);clear t3;by_cases h0:K=0
 ·subst h0;have Hso:=lh (vZ B c1 rows.length rows rfl hvk w3 (HO.o.rowsAt.touch0 HT3.o) (by omega));go_wp2_with fail;refine Hso.o.mono ?_;rintro e w4 ⟨rfl,t4⟩;go_wp2;go_ret;exact⟨eo (by rw[Hv.o];simp),HT1.o.trans0 (HT3.o.trans0 t4)⟩
 have q0:(K==0)=false:=by simpa using h0
 go_wp2;go_ret;exact⟨eo (by rw[Hv.o,aC h0,cL]),HT1.o.trans0 HT3.o⟩
end
end Go.Proofs.YtafoklilkdnepaaGreatDoor
