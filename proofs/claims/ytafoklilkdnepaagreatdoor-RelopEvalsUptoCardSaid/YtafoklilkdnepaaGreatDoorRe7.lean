/- Part 7 of the texts of this proof, one behind the other. No condition beyond those that its theorems state. -/
import Derived.Test.YtafoklilkdnepaaGreatDoorRe6
set_option linter.all false
set_option maxRecDepth 40000
set_option maxHeartbeats 25600000
namespace Go.Proofs.YtafoklilkdnepaaGreatDoor
section
open Go.RowKit
def fA(cs:List CD)(s:ByteArray):Option Int:=(ef cs s).map λk=>(cs.getD k ⟨⟨#[]⟩,0⟩).typ
def jD(a b:List CD):List (ByteArray × ByteArray)->Int
 | []=>0
 |p:: r=>match fA a p.1,fA b p.2 with
  |some s,some t=>if s=t then jD a b r else 12
  | _,_=>13
def iY(a b:List CD)(l:List (ByteArray × ByteArray)):Int:=if l.length=0 then 20 else jD a b l
theorem rj(a b:List CD)(l:List (ByteArray × ByteArray))(k:Nat)(h:k<l.length):jD a b (l.drop k)=match fA a l[k].1,fA b l[k].2 with
  |some s,some t=>if s=t then jD a b (l.drop (k+1)) else 12
  | _,_=>13:=by
 rw[bj h];rfl
theorem qL(x:PC)(on:List (ByteArray × ByteArray))(ho:x.on.n=on.length)(SA SB:Option Addr)(c1 c2 n1 n2:Nat)(a b:List CD)(h1:a.length=n1)(h2:b.length=n2)(hl1:n1<=1000000)(hl2:n2<=1000000)(hlo:on.length<=1000000)(w:World) (hr:d9 nz w x.on.A on) (ha:em w SA a) (hb:em w SB b) : Calls Tryz.prog 91 #[x.val,.slice SA n1 c1,.slice SB n2 c2] w λe w'=>e=.returned (.int .i64 (iY a b on))/\Touch [] w w':=by
 subst h1 h2;have Hv:=lh (show iY a b on=if on.length=0 then 20 else jD a b on from rfl);have HRD:=Gc hr ha hb;obtain⟨k0,k1,⟨A2,n2,c2'⟩,⟨⟨ck,cn,⟨cvk,cvn,cvt⟩,cop⟩,CA,cnn,cc⟩,⟨NA,nn,nc⟩,⟨EA,en,ec⟩,⟨OA,ol,oc⟩,⟨GA,gn,gc⟩,⟨BA,bn,bc⟩,count⟩:=x;simp only[PC.val] at *;subst ho;have t0:=(Touch.refl [] w).alloc (.cells #[.int .i64 k0,.string k1,.slice A2 n2 c2',.int .i64 ck,.string cn,.int .i64 cvk,.int .i64 cvn,.string cvt,.string cop,.slice CA cnn cc,.slice NA nn nc,.slice EA en ec,.slice OA on.length oc,.slice GA gn gc,.slice BA bn bc,.int .i64 count] 49);have HT0:=lh t0;clear t0 hr ha hb;by_cases hz:on.length=0
 ·have Hq:=lh (show iY a b on=20 by rw[Hv.o,ae hz]);have hzb:((on.length:Int)==0)=true:=by rw[hz];rfl
  clear hz;go_enter Tryz.func91,Tryz.ntmps91;go_wp2;go_ret;exact⟨ew Hq.o.symm,HT0.o⟩
 have Hq:=lh (show iY a b on=jD a b on by rw[Hv.o,ab hz]);have hzb:((on.length:Int)==0)=false:=by rw[aw];omega
 clear hz Hv;go_enter Tryz.func91,Tryz.ntmps91;go_wp2_with fail;go_loopw [20] (λi wr=>∃k:Nat,k<=on.length/\i=.int .i64 k/\Ga (iY a b on=jD a b (on.drop k))/\Ga (Touch [] w wr)) (λi _=>on.length-(intOf i).toNat)
 case atStart=>exact⟨0,by omega,rfl,lh (by rw[Hq.o,dA]),HT0⟩
 case round =>
 obtain⟨k,hk,rfl,Hd,HT⟩:=hrel;by_cases hlt:k<on.length
 ·obtain⟨ad,b1,o1,rfl,hadd,hc⟩:=d9.cells (HRD.o.1.touch0 HT.o) 2 lH (by omega) k hlt;have hst:=rj a b on k hlt;obtain⟨p,hp⟩:∃p,p=on[k]:=⟨_,rfl⟩;rw[<- hp] at hc hst;obtain⟨p1,p2⟩:=p;have e0:=hc 0 _ rfl;have e1:=hc 1 _ rfl;rw[aM] at e0;have ta:=(Touch.refl [] wr).alloc (.cells #[.string p1,.string p2] 39);have hbl:=ah wr (.cells #[.string p1,.string p2] 39);have hfa:=λw'(t:Touch [] wr w')=>fS SA c1 a.length a rfl p1 w' (HRD.o.2.1.touch0 (HT.o.trans0 t)) (by omega);have hfb:=λw'(t:Touch [] wr w')=>fS SB c2 b.length b rfl p2 w' (HRD.o.2.2.touch0 (HT.o.trans0 t)) (by omega);have hkn:(k:Int)<(on.length:Int):=by omega
  have HTa:=Gb ta hbl;rcases hpa:ef a p1 with _|i
  ·rw[hpa] at hfa;have Hq2:=lh (show iY a b on=13 by rw[Hd.o,hst];unfold fA;rw[hpa];rfl);have Hfa:=lh hfa;have Hfb:=lh hfb;clear hfa hfb hpa hst hc hp ta hbl;go_wp2_with fail;refine(Hfa.o _ HTa.o.1).mono ?_;rintro e w1 ⟨rfl,t1⟩;have T1:=HTa.o.1.trans0 t1;obtain⟨g0,g1,_,_⟩:=eL (t1.blk HTa.o.2 (by simp));have HT1:=lh T1;clear T1 t1;go_wp2_with fail;refine(Hfb.o _ HT1.o).mono ?_;rintro e w2 ⟨rfl,t2⟩;have HT2:=lh (HT1.o.trans0 t2);clear t2;go_wp2;go_ret;exact⟨ew Hq2.o.symm,HT.o.trans0 HT2.o⟩
  rw[hpa] at hfa;rcases hpb:ef b p2 with _|j
  ·rw[hpb] at hfb;have Hq2:=lh (show iY a b on=13 by rw[Hd.o,hst];unfold fA;rw[hpa,hpb];rfl);have Hfa:=lh hfa;have Hfb:=lh hfb;clear hfa hfb hpa hpb hst hc hp ta hbl;go_wp2_with fail;refine(Hfa.o _ HTa.o.1).mono ?_;rintro e w1 ⟨rfl,t1⟩;have T1:=HTa.o.1.trans0 t1;obtain⟨g0,g1,_,_⟩:=eL (t1.blk HTa.o.2 (by simp));have HT1:=lh T1;clear T1 t1;go_wp2_with fail;refine(Hfb.o _ HT1.o).mono ?_;rintro e w2 ⟨rfl,t2⟩;have HT2:=lh (HT1.o.trans0 t2);clear t2;go_wp2;go_ret;exact⟨ew Hq2.o.symm,HT.o.trans0 HT2.o⟩
  rw[hpb] at hfb;have hil:=eS hpa;have hjl:=eS hpb;obtain⟨ad2,b2,o2,rfl,hadd2,_,e3⟩:=(HRD.o.2.1.touch0 HT.o).at_ i hil;obtain⟨ad3,b3,o3,rfl,hadd3,_,e4⟩:=(HRD.o.2.2.touch0 HT.o).at_ j hjl;have hts:jD a b (on.drop k)=if a[i].typ=b[j].typ then jD a b (on.drop (k+1)) else 12:=by rw[hst];unfold fA;rw[hpa,hpb];simp[hil,hjl]
  obtain⟨s,hs⟩:∃s,s=a[i].typ:=⟨_,rfl⟩;obtain⟨t,ht⟩:∃t,t=b[j].typ:=⟨_,rfl⟩;rw[<- hs] at e3 hts;rw[<- ht] at e4 hts;have hi0:(0:Int)<=(i:Int):=by omega
  have hj0:(0:Int)<=(j:Int):=by omega
  have hin:(i:Int)<(a.length:Int):=by omega
  have hjn:(j:Int)<(b.length:Int):=by omega
  have HTS:=lh hts;have Hfa:=lh hfa;have Hfb:=lh hfb;clear hfa hfb hpa hpb hst hc hp ta hbl hts hs ht;by_cases hst:s=t
  ·subst hst;have Hn:=lh (show iY a b on=jD a b (on.drop (k+1)) by rw[Hd.o,HTS.o,ae rfl]);clear HTS;go_wp2_with fail;refine(Hfa.o _ HTa.o.1).mono ?_;rintro e w1 ⟨rfl,t1⟩;have T1:=HTa.o.1.trans0 t1;obtain⟨g0,g1,_,_⟩:=eL (t1.blk HTa.o.2 (by simp));have HT1:=lh T1;clear T1 t1;go_wp2_with fail;refine(Hfb.o _ HT1.o).mono ?_;rintro e w2 ⟨rfl,t2⟩;have e3':=(HT1.o.trans0 t2).cell e3 (by simp);have e4':=(HT1.o.trans0 t2).cell e4 (by simp);have HT2:=lh (HT1.o.trans0 t2);clear t2;go_wp2_with fail;go_quiet (fail);go_wp2_with fail;go_roundw
   case rel=>exact⟨k+1,by omega,by go_num,Hn,lh ((HT.o.trans0 HT2.o).drewN _)⟩
   case measure=>simp[intOf];omega
  have Hn:=lh (show iY a b on=12 by rw[Hd.o,HTS.o,ab hst]);have hq:(s==t)=false:=by rw[aw];exact hst
  have hq':(s != t)=true:=by rw[bne,hq];rfl
  clear HTS;go_wp2_with fail;refine(Hfa.o _ HTa.o.1).mono ?_;rintro e w1 ⟨rfl,t1⟩;have T1:=HTa.o.1.trans0 t1;obtain⟨g0,g1,_,_⟩:=eL (t1.blk HTa.o.2 (by simp));have HT1:=lh T1;clear T1 t1;go_wp2_with fail;refine(Hfb.o _ HT1.o).mono ?_;rintro e w2 ⟨rfl,t2⟩;have e3':=(HT1.o.trans0 t2).cell e3 (by simp);have e4':=(HT1.o.trans0 t2).cell e4 (by simp);have HT2:=lh (HT1.o.trans0 t2);clear t2;go_wp2_with fail;go_quiet (fail);go_wp2_with fail;go_ret;exact⟨ew Hn.o.symm,(HT.o.trans0 HT2.o).drewN _⟩
 obtain rfl:k=on.length:=by omega
 have Hn:=lh (show iY a b on=0 by rw[Hd.o,bY];rfl);go_wp2;go_ret;exact⟨ew Hn.o.symm,HT.o⟩
end
section
open Go.RowKit
def iM:ByteArray:=⟨#[99,111,117,110,116]⟩
def iD:ByteArray:=⟨#[115,117,109]⟩
def gB:ByteArray:=⟨#[109,105,110]⟩
def gZ:ByteArray:=⟨#[109,97,120]⟩
def fy:List ByteArray:=[⟨#[99,111,117,110,116]⟩,⟨#[115,117,109]⟩,⟨#[109,105,110]⟩,⟨#[109,97,120]⟩]
theorem AU(op col nm:ByteArray)(SA:Option Addr)(c n:Nat)(cs:List CD)(hn:cs.length=n)(hl:n<=1000000)(w:World)(h:em w SA cs)(HM:Ga (iz fy op=false)): Calls Tryz.prog 131 #[.agg #[.string op,.string col,.string nm],.slice SA n c] w λe w'=>e=.returned (.tuple #[.int .i64 0,.int .i64 20])/\Touch [] w w':=by
 have Hc:=lh λw'(t:Touch [] w w')A(h:d9 gD w' A fy)=>gU A 4 4 fy rfl op w' h (by omega);have t0:=(Touch.refl [] w).alloc (.cells #[.string op,.string col,.string nm] 79);have hb0:=ah w (.cells #[.string op,.string col,.string nm] 79);have tb:=t0.alloc (.cells #[.string ⟨#[99,111,117,110,116]⟩,.string ⟨#[115,117,109]⟩,.string ⟨#[109,105,110]⟩,.string ⟨#[109,97,120]⟩] 9);have hb1:=((Touch.refl [] (w.alloc (.cells #[.string op,.string col,.string nm] 79))).alloc (.cells #[.string ⟨#[99,111,117,110,116]⟩,.string ⟨#[115,117,109]⟩,.string ⟨#[109,105,110]⟩,.string ⟨#[109,97,120]⟩] 9)).blk hb0 (by simp);have hrd:=d9.row (enc:=gD) (w.alloc (.cells #[.string op,.string col,.string nm] 79)) 9 fy #[.string ⟨#[99,111,117,110,116]⟩,.string ⟨#[115,117,109]⟩,.string ⟨#[109,105,110]⟩,.string ⟨#[109,97,120]⟩] rfl;rw[ao] at hrd;have HB:=Gc tb hb1 hrd;have hfd:=λw'(t:Touch [] w w')=>fS SA c n cs hn col w' (h.touch0 t) (by omega);clear t0 hb0 tb hb1 hrd hfd hn h;go_enter dT,dL;go_wp2_with fail;refine(Hc.o _ HB.o.1 _ HB.o.2.2).mono ?_;rintro e w1 ⟨rfl,t1⟩;rw[HM.o];obtain⟨d0,d1,d2,_,_,_⟩:=eJ (t1.blk HB.o.2.1 (by simp));have HT:=Gb (HB.o.1.trans0 t1) (t1.blk HB.o.2.1 (by simp));clear t1;go_wp2;go_ret2;exact⟨rfl,HT.o.1⟩
theorem zu(op col nm:ByteArray)(SA:Option Addr)(c n:Nat)(cs:List CD)(hn:cs.length=n)(hl:n<=1000000)(w:World)(h:em w SA cs)(HM:Ga (iz fy op=true))(q5:col.toList.isEmpty=true)(q1:(op.toList==[99,111,117,110,116])=false): Calls Tryz.prog 131 #[.agg #[.string op,.string col,.string nm],.slice SA n c] w λe w'=>e=.returned (.tuple #[.int .i64 0,.int .i64 20])/\Touch [] w w':=by
 have Hc:=lh λw'(t:Touch [] w w')A(h:d9 gD w' A fy)=>gU A 4 4 fy rfl op w' h (by omega);have t0:=(Touch.refl [] w).alloc (.cells #[.string op,.string col,.string nm] 79);have hb0:=ah w (.cells #[.string op,.string col,.string nm] 79);have tb:=t0.alloc (.cells #[.string ⟨#[99,111,117,110,116]⟩,.string ⟨#[115,117,109]⟩,.string ⟨#[109,105,110]⟩,.string ⟨#[109,97,120]⟩] 9);have hb1:=((Touch.refl [] (w.alloc (.cells #[.string op,.string col,.string nm] 79))).alloc (.cells #[.string ⟨#[99,111,117,110,116]⟩,.string ⟨#[115,117,109]⟩,.string ⟨#[109,105,110]⟩,.string ⟨#[109,97,120]⟩] 9)).blk hb0 (by simp);have hrd:=d9.row (enc:=gD) (w.alloc (.cells #[.string op,.string col,.string nm] 79)) 9 fy #[.string ⟨#[99,111,117,110,116]⟩,.string ⟨#[115,117,109]⟩,.string ⟨#[109,105,110]⟩,.string ⟨#[109,97,120]⟩] rfl;rw[ao] at hrd;have HB:=Gc tb hb1 hrd;have hfd:=λw'(t:Touch [] w w')=>fS SA c n cs hn col w' (h.touch0 t) (by omega);clear t0 hb0 tb hb1 hrd hfd hn h;go_enter dT,dL;go_wp2_with fail;refine(Hc.o _ HB.o.1 _ HB.o.2.2).mono ?_;rintro e w1 ⟨rfl,t1⟩;rw[HM.o];obtain⟨d0,d1,d2,_,_,_⟩:=eJ (t1.blk HB.o.2.1 (by simp));have HT:=Gb (HB.o.1.trans0 t1) (t1.blk HB.o.2.1 (by simp));clear t1;go_wp2;go_ret2;exact⟨rfl,HT.o.1⟩
theorem AD(op col nm:ByteArray)(SA:Option Addr)(c n:Nat)(cs:List CD)(hn:cs.length=n)(hl:n<=1000000)(w:World)(h:em w SA cs)(HM:Ga (iz fy op=true))(q5:col.toList.isEmpty=true)(q1:(op.toList==[99,111,117,110,116])=true): Calls Tryz.prog 131 #[.agg #[.string op,.string col,.string nm],.slice SA n c] w λe w'=>e=.returned (.tuple #[.int .i64 1,.int .i64 0])/\Touch [] w w':=by
 have Hc:=lh λw'(t:Touch [] w w')A(h:d9 gD w' A fy)=>gU A 4 4 fy rfl op w' h (by omega);have t0:=(Touch.refl [] w).alloc (.cells #[.string op,.string col,.string nm] 79);have hb0:=ah w (.cells #[.string op,.string col,.string nm] 79);have tb:=t0.alloc (.cells #[.string ⟨#[99,111,117,110,116]⟩,.string ⟨#[115,117,109]⟩,.string ⟨#[109,105,110]⟩,.string ⟨#[109,97,120]⟩] 9);have hb1:=((Touch.refl [] (w.alloc (.cells #[.string op,.string col,.string nm] 79))).alloc (.cells #[.string ⟨#[99,111,117,110,116]⟩,.string ⟨#[115,117,109]⟩,.string ⟨#[109,105,110]⟩,.string ⟨#[109,97,120]⟩] 9)).blk hb0 (by simp);have hrd:=d9.row (enc:=gD) (w.alloc (.cells #[.string op,.string col,.string nm] 79)) 9 fy #[.string ⟨#[99,111,117,110,116]⟩,.string ⟨#[115,117,109]⟩,.string ⟨#[109,105,110]⟩,.string ⟨#[109,97,120]⟩] rfl;rw[ao] at hrd;have HB:=Gc tb hb1 hrd;have hfd:=λw'(t:Touch [] w w')=>fS SA c n cs hn col w' (h.touch0 t) (by omega);have Hf:=lh hfd;clear t0 hb0 tb hb1 hrd hfd hn h;go_enter dT,dL;go_wp2_with fail;refine(Hc.o _ HB.o.1 _ HB.o.2.2).mono ?_;rintro e w1 ⟨rfl,t1⟩;rw[HM.o];obtain⟨d0,d1,d2,_,_,_⟩:=eJ (t1.blk HB.o.2.1 (by simp));have HT:=Gb (HB.o.1.trans0 t1) (t1.blk HB.o.2.1 (by simp));clear t1;go_wp2_with fail;refine(Hf.o _ HT.o.1).mono ?_;rintro e w2 ⟨rfl,t2⟩;obtain⟨f0,f1,f2,_,_,_⟩:=eJ (t2.blk HT.o.2 (by simp));have HT2:=lh (HT.o.1.trans0 t2);clear t2;go_wp2;go_ret2;exact⟨rfl,HT2.o⟩
theorem Bl(op col nm:ByteArray)(SA:Option Addr)(c n:Nat)(cs:List CD)(hn:cs.length=n)(hl:n<=1000000)(w:World)(h:em w SA cs)(HM:Ga (iz fy op=true))(q5:col.toList.isEmpty=false)(hp:ef cs col=none): Calls Tryz.prog 131 #[.agg #[.string op,.string col,.string nm],.slice SA n c] w λe w'=>e=.returned (.tuple #[.int .i64 0,.int .i64 13])/\Touch [] w w':=by
 have Hc:=lh λw'(t:Touch [] w w')A(h:d9 gD w' A fy)=>gU A 4 4 fy rfl op w' h (by omega);have t0:=(Touch.refl [] w).alloc (.cells #[.string op,.string col,.string nm] 79);have hb0:=ah w (.cells #[.string op,.string col,.string nm] 79);have tb:=t0.alloc (.cells #[.string ⟨#[99,111,117,110,116]⟩,.string ⟨#[115,117,109]⟩,.string ⟨#[109,105,110]⟩,.string ⟨#[109,97,120]⟩] 9);have hb1:=((Touch.refl [] (w.alloc (.cells #[.string op,.string col,.string nm] 79))).alloc (.cells #[.string ⟨#[99,111,117,110,116]⟩,.string ⟨#[115,117,109]⟩,.string ⟨#[109,105,110]⟩,.string ⟨#[109,97,120]⟩] 9)).blk hb0 (by simp);have hrd:=d9.row (enc:=gD) (w.alloc (.cells #[.string op,.string col,.string nm] 79)) 9 fy #[.string ⟨#[99,111,117,110,116]⟩,.string ⟨#[115,117,109]⟩,.string ⟨#[109,105,110]⟩,.string ⟨#[109,97,120]⟩] rfl;rw[ao] at hrd;have HB:=Gc tb hb1 hrd;have hfd:=λw'(t:Touch [] w w')=>fS SA c n cs hn col w' (h.touch0 t) (by omega);rw[hp] at hfd;have Hf:=lh hfd;clear hp;clear t0 hb0 tb hb1 hrd hfd hn h;go_enter dT,dL;go_wp2_with fail;refine(Hc.o _ HB.o.1 _ HB.o.2.2).mono ?_;rintro e w1 ⟨rfl,t1⟩;rw[HM.o];obtain⟨d0,d1,d2,_,_,_⟩:=eJ (t1.blk HB.o.2.1 (by simp));have HT:=Gb (HB.o.1.trans0 t1) (t1.blk HB.o.2.1 (by simp));clear t1;go_wp2_with fail;refine(Hf.o _ HT.o.1).mono ?_;rintro e w2 ⟨rfl,t2⟩;obtain⟨f0,f1,f2,_,_,_⟩:=eJ (t2.blk HT.o.2 (by simp));have HT2:=lh (HT.o.1.trans0 t2);clear t2;go_wp2;go_ret2;exact⟨rfl,HT2.o⟩
theorem Bj(op col nm:ByteArray)(SA:Option Addr)(c n:Nat)(cs:List CD)(hn:cs.length=n)(hl:n<=1000000)(w:World)(h:em w SA cs)(HM:Ga (iz fy op=true))(q5:col.toList.isEmpty=false)(i:Nat)(hp:ef cs col=some i)(t:Int)(ht:fA cs col=some t)(q2:(op.toList==[115,117,109])=true)(h2:t=2): Calls Tryz.prog 131 #[.agg #[.string op,.string col,.string nm],.slice SA n c] w λe w'=>e=.returned (.tuple #[.int .i64 0,.int .i64 12])/\Touch [] w w':=by
 have Hc:=lh λw'(t:Touch [] w w')A(h:d9 gD w' A fy)=>gU A 4 4 fy rfl op w' h (by omega);have t0:=(Touch.refl [] w).alloc (.cells #[.string op,.string col,.string nm] 79);have hb0:=ah w (.cells #[.string op,.string col,.string nm] 79);have tb:=t0.alloc (.cells #[.string ⟨#[99,111,117,110,116]⟩,.string ⟨#[115,117,109]⟩,.string ⟨#[109,105,110]⟩,.string ⟨#[109,97,120]⟩] 9);have hb1:=((Touch.refl [] (w.alloc (.cells #[.string op,.string col,.string nm] 79))).alloc (.cells #[.string ⟨#[99,111,117,110,116]⟩,.string ⟨#[115,117,109]⟩,.string ⟨#[109,105,110]⟩,.string ⟨#[109,97,120]⟩] 9)).blk hb0 (by simp);have hrd:=d9.row (enc:=gD) (w.alloc (.cells #[.string op,.string col,.string nm] 79)) 9 fy #[.string ⟨#[99,111,117,110,116]⟩,.string ⟨#[115,117,109]⟩,.string ⟨#[109,105,110]⟩,.string ⟨#[109,97,120]⟩] rfl;rw[ao] at hrd;have HB:=Gc tb hb1 hrd;have hfd:=λw'(t:Touch [] w w')=>fS SA c n cs hn col w' (h.touch0 t) (by omega);rw[hp] at hfd;have Hf:=lh hfd;have hil:=eS hp;obtain⟨ad2,b2,o2,rfl,hadd2,_,e3⟩:=h.at_ i hil;have hts:cs[i].typ=t:=by unfold fA at ht;rw[hp] at ht;simpa [hil] using ht
 rw[hts] at e3;have hi0:(0:Int)<=(i:Int):=by omega
 have hin:(i:Int)<(n:Int):=by omega
 have E3:=lh e3;clear hts ht e3;subst h2;clear hp;clear t0 hb0 tb hb1 hrd hfd hn h;go_enter dT,dL;go_wp2_with fail;refine(Hc.o _ HB.o.1 _ HB.o.2.2).mono ?_;rintro e w1 ⟨rfl,t1⟩;rw[HM.o];obtain⟨d0,d1,d2,_,_,_⟩:=eJ (t1.blk HB.o.2.1 (by simp));have HT:=Gb (HB.o.1.trans0 t1) (t1.blk HB.o.2.1 (by simp));clear t1;go_wp2_with fail;refine(Hf.o _ HT.o.1).mono ?_;rintro e w2 ⟨rfl,t2⟩;obtain⟨f0,f1,f2,_,_,_⟩:=eJ (t2.blk HT.o.2 (by simp));have e3':=(HT.o.1.trans0 t2).cell E3.o (by simp);have HT2:=lh (HT.o.1.trans0 t2);clear t2;go_wp2;go_ret2;exact⟨rfl,HT2.o⟩
theorem CI(op col nm:ByteArray)(SA:Option Addr)(c n:Nat)(cs:List CD)(hn:cs.length=n)(hl:n<=1000000)(w:World)(h:em w SA cs)(HM:Ga (iz fy op=true))(q5:col.toList.isEmpty=false)(i:Nat)(hp:ef cs col=some i)(t:Int)(ht:fA cs col=some t)(q2:(op.toList==[115,117,109])=true)(q3:(op.toList==[109,105,110])=false)(q4:(op.toList==[109,97,120])=false)(h2:t≠2): Calls Tryz.prog 131 #[.agg #[.string op,.string col,.string nm],.slice SA n c] w λe w'=>e=.returned (.tuple #[.int .i64 1,.int .i64 0])/\Touch [] w w':=by
 have Hc:=lh λw'(t:Touch [] w w')A(h:d9 gD w' A fy)=>gU A 4 4 fy rfl op w' h (by omega);have t0:=(Touch.refl [] w).alloc (.cells #[.string op,.string col,.string nm] 79);have hb0:=ah w (.cells #[.string op,.string col,.string nm] 79);have tb:=t0.alloc (.cells #[.string ⟨#[99,111,117,110,116]⟩,.string ⟨#[115,117,109]⟩,.string ⟨#[109,105,110]⟩,.string ⟨#[109,97,120]⟩] 9);have hb1:=((Touch.refl [] (w.alloc (.cells #[.string op,.string col,.string nm] 79))).alloc (.cells #[.string ⟨#[99,111,117,110,116]⟩,.string ⟨#[115,117,109]⟩,.string ⟨#[109,105,110]⟩,.string ⟨#[109,97,120]⟩] 9)).blk hb0 (by simp);have hrd:=d9.row (enc:=gD) (w.alloc (.cells #[.string op,.string col,.string nm] 79)) 9 fy #[.string ⟨#[99,111,117,110,116]⟩,.string ⟨#[115,117,109]⟩,.string ⟨#[109,105,110]⟩,.string ⟨#[109,97,120]⟩] rfl;rw[ao] at hrd;have HB:=Gc tb hb1 hrd;have hfd:=λw'(t:Touch [] w w')=>fS SA c n cs hn col w' (h.touch0 t) (by omega);rw[hp] at hfd;have Hf:=lh hfd;have hil:=eS hp;obtain⟨ad2,b2,o2,rfl,hadd2,_,e3⟩:=h.at_ i hil;have hts:cs[i].typ=t:=by unfold fA at ht;rw[hp] at ht;simpa [hil] using ht
 rw[hts] at e3;have hi0:(0:Int)<=(i:Int):=by omega
 have hin:(i:Int)<(n:Int):=by omega
 have E3:=lh e3;clear hts ht e3;have h2q:(t==2)=false:=by rw[aw];exact h2
 clear hp;clear t0 hb0 tb hb1 hrd hfd hn h;go_enter dT,dL;go_wp2_with fail;refine(Hc.o _ HB.o.1 _ HB.o.2.2).mono ?_;rintro e w1 ⟨rfl,t1⟩;rw[HM.o];obtain⟨d0,d1,d2,_,_,_⟩:=eJ (t1.blk HB.o.2.1 (by simp));have HT:=Gb (HB.o.1.trans0 t1) (t1.blk HB.o.2.1 (by simp));clear t1;go_wp2_with fail;refine(Hf.o _ HT.o.1).mono ?_;rintro e w2 ⟨rfl,t2⟩;obtain⟨f0,f1,f2,_,_,_⟩:=eJ (t2.blk HT.o.2 (by simp));have e3':=(HT.o.1.trans0 t2).cell E3.o (by simp);have HT2:=lh (HT.o.1.trans0 t2);clear t2;go_wp2;go_ret2;exact⟨rfl,HT2.o⟩
theorem DX(op col nm:ByteArray)(SA:Option Addr)(c n:Nat)(cs:List CD)(hn:cs.length=n)(hl:n<=1000000)(w:World)(h:em w SA cs)(HM:Ga (iz fy op=true))(q5:col.toList.isEmpty=false)(i:Nat)(hp:ef cs col=some i)(t:Int)(ht:fA cs col=some t)(q2:(op.toList==[115,117,109])=false)(q3:(op.toList==[109,105,110])=true): Calls Tryz.prog 131 #[.agg #[.string op,.string col,.string nm],.slice SA n c] w λe w'=>e=.returned (.tuple #[.int .i64 t,.int .i64 0])/\Touch [] w w':=by
 have Hc:=lh λw'(t:Touch [] w w')A(h:d9 gD w' A fy)=>gU A 4 4 fy rfl op w' h (by omega);have t0:=(Touch.refl [] w).alloc (.cells #[.string op,.string col,.string nm] 79);have hb0:=ah w (.cells #[.string op,.string col,.string nm] 79);have tb:=t0.alloc (.cells #[.string ⟨#[99,111,117,110,116]⟩,.string ⟨#[115,117,109]⟩,.string ⟨#[109,105,110]⟩,.string ⟨#[109,97,120]⟩] 9);have hb1:=((Touch.refl [] (w.alloc (.cells #[.string op,.string col,.string nm] 79))).alloc (.cells #[.string ⟨#[99,111,117,110,116]⟩,.string ⟨#[115,117,109]⟩,.string ⟨#[109,105,110]⟩,.string ⟨#[109,97,120]⟩] 9)).blk hb0 (by simp);have hrd:=d9.row (enc:=gD) (w.alloc (.cells #[.string op,.string col,.string nm] 79)) 9 fy #[.string ⟨#[99,111,117,110,116]⟩,.string ⟨#[115,117,109]⟩,.string ⟨#[109,105,110]⟩,.string ⟨#[109,97,120]⟩] rfl;rw[ao] at hrd;have HB:=Gc tb hb1 hrd;have hfd:=λw'(t:Touch [] w w')=>fS SA c n cs hn col w' (h.touch0 t) (by omega);rw[hp] at hfd;have Hf:=lh hfd;have hil:=eS hp;obtain⟨ad2,b2,o2,rfl,hadd2,_,e3⟩:=h.at_ i hil;have hts:cs[i].typ=t:=by unfold fA at ht;rw[hp] at ht;simpa [hil] using ht
 rw[hts] at e3;have hi0:(0:Int)<=(i:Int):=by omega
 have hin:(i:Int)<(n:Int):=by omega
 have E3:=lh e3;clear hts ht e3;clear hp;clear t0 hb0 tb hb1 hrd hfd hn h;go_enter dT,dL;go_wp2_with fail;refine(Hc.o _ HB.o.1 _ HB.o.2.2).mono ?_;rintro e w1 ⟨rfl,t1⟩;rw[HM.o];obtain⟨d0,d1,d2,_,_,_⟩:=eJ (t1.blk HB.o.2.1 (by simp));have HT:=Gb (HB.o.1.trans0 t1) (t1.blk HB.o.2.1 (by simp));clear t1;go_wp2_with fail;refine(Hf.o _ HT.o.1).mono ?_;rintro e w2 ⟨rfl,t2⟩;obtain⟨f0,f1,f2,_,_,_⟩:=eJ (t2.blk HT.o.2 (by simp));have e3':=(HT.o.1.trans0 t2).cell E3.o (by simp);have HT2:=lh (HT.o.1.trans0 t2);clear t2;go_wp2;go_ret2;exact⟨rfl,HT2.o⟩
theorem CE(op col nm:ByteArray)(SA:Option Addr)(c n:Nat)(cs:List CD)(hn:cs.length=n)(hl:n<=1000000)(w:World)(h:em w SA cs)(HM:Ga (iz fy op=true))(q5:col.toList.isEmpty=false)(i:Nat)(hp:ef cs col=some i)(t:Int)(ht:fA cs col=some t)(q2:(op.toList==[115,117,109])=false)(q3:(op.toList==[109,105,110])=false)(q4:(op.toList==[109,97,120])=true): Calls Tryz.prog 131 #[.agg #[.string op,.string col,.string nm],.slice SA n c] w λe w'=>e=.returned (.tuple #[.int .i64 t,.int .i64 0])/\Touch [] w w':=by
 have Hc:=lh λw'(t:Touch [] w w')A(h:d9 gD w' A fy)=>gU A 4 4 fy rfl op w' h (by omega);have t0:=(Touch.refl [] w).alloc (.cells #[.string op,.string col,.string nm] 79);have hb0:=ah w (.cells #[.string op,.string col,.string nm] 79);have tb:=t0.alloc (.cells #[.string ⟨#[99,111,117,110,116]⟩,.string ⟨#[115,117,109]⟩,.string ⟨#[109,105,110]⟩,.string ⟨#[109,97,120]⟩] 9);have hb1:=((Touch.refl [] (w.alloc (.cells #[.string op,.string col,.string nm] 79))).alloc (.cells #[.string ⟨#[99,111,117,110,116]⟩,.string ⟨#[115,117,109]⟩,.string ⟨#[109,105,110]⟩,.string ⟨#[109,97,120]⟩] 9)).blk hb0 (by simp);have hrd:=d9.row (enc:=gD) (w.alloc (.cells #[.string op,.string col,.string nm] 79)) 9 fy #[.string ⟨#[99,111,117,110,116]⟩,.string ⟨#[115,117,109]⟩,.string ⟨#[109,105,110]⟩,.string ⟨#[109,97,120]⟩] rfl;rw[ao] at hrd;have HB:=Gc tb hb1 hrd;have hfd:=λw'(t:Touch [] w w')=>fS SA c n cs hn col w' (h.touch0 t) (by omega);rw[hp] at hfd;have Hf:=lh hfd;have hil:=eS hp;obtain⟨ad2,b2,o2,rfl,hadd2,_,e3⟩:=h.at_ i hil;have hts:cs[i].typ=t:=by unfold fA at ht;rw[hp] at ht;simpa [hil] using ht
 rw[hts] at e3;have hi0:(0:Int)<=(i:Int):=by omega
 have hin:(i:Int)<(n:Int):=by omega
 have E3:=lh e3;clear hts ht e3;clear hp;clear t0 hb0 tb hb1 hrd hfd hn h;go_enter dT,dL;go_wp2_with fail;refine(Hc.o _ HB.o.1 _ HB.o.2.2).mono ?_;rintro e w1 ⟨rfl,t1⟩;rw[HM.o];obtain⟨d0,d1,d2,_,_,_⟩:=eJ (t1.blk HB.o.2.1 (by simp));have HT:=Gb (HB.o.1.trans0 t1) (t1.blk HB.o.2.1 (by simp));clear t1;go_wp2_with fail;refine(Hf.o _ HT.o.1).mono ?_;rintro e w2 ⟨rfl,t2⟩;obtain⟨f0,f1,f2,_,_,_⟩:=eJ (t2.blk HT.o.2 (by simp));have e3':=(HT.o.1.trans0 t2).cell E3.o (by simp);have HT2:=lh (HT.o.1.trans0 t2);clear t2;go_wp2;go_ret2;exact⟨rfl,HT2.o⟩
theorem ze(op col nm:ByteArray)(SA:Option Addr)(c n:Nat)(cs:List CD)(hn:cs.length=n)(hl:n<=1000000)(w:World)(h:em w SA cs)(HM:Ga (iz fy op=true))(q5:col.toList.isEmpty=false)(i:Nat)(hp:ef cs col=some i)(t:Int)(ht:fA cs col=some t)(q2:(op.toList==[115,117,109])=false)(q3:(op.toList==[109,105,110])=false)(q4:(op.toList==[109,97,120])=false): Calls Tryz.prog 131 #[.agg #[.string op,.string col,.string nm],.slice SA n c] w λe w'=>e=.returned (.tuple #[.int .i64 1,.int .i64 0])/\Touch [] w w':=by
 have Hc:=lh λw'(t:Touch [] w w')A(h:d9 gD w' A fy)=>gU A 4 4 fy rfl op w' h (by omega);have t0:=(Touch.refl [] w).alloc (.cells #[.string op,.string col,.string nm] 79);have hb0:=ah w (.cells #[.string op,.string col,.string nm] 79);have tb:=t0.alloc (.cells #[.string ⟨#[99,111,117,110,116]⟩,.string ⟨#[115,117,109]⟩,.string ⟨#[109,105,110]⟩,.string ⟨#[109,97,120]⟩] 9);have hb1:=((Touch.refl [] (w.alloc (.cells #[.string op,.string col,.string nm] 79))).alloc (.cells #[.string ⟨#[99,111,117,110,116]⟩,.string ⟨#[115,117,109]⟩,.string ⟨#[109,105,110]⟩,.string ⟨#[109,97,120]⟩] 9)).blk hb0 (by simp);have hrd:=d9.row (enc:=gD) (w.alloc (.cells #[.string op,.string col,.string nm] 79)) 9 fy #[.string ⟨#[99,111,117,110,116]⟩,.string ⟨#[115,117,109]⟩,.string ⟨#[109,105,110]⟩,.string ⟨#[109,97,120]⟩] rfl;rw[ao] at hrd;have HB:=Gc tb hb1 hrd;have hfd:=λw'(t:Touch [] w w')=>fS SA c n cs hn col w' (h.touch0 t) (by omega);rw[hp] at hfd;have Hf:=lh hfd;have hil:=eS hp;obtain⟨ad2,b2,o2,rfl,hadd2,_,e3⟩:=h.at_ i hil;have hts:cs[i].typ=t:=by unfold fA at ht;rw[hp] at ht;simpa [hil] using ht
 rw[hts] at e3;have hi0:(0:Int)<=(i:Int):=by omega
 have hin:(i:Int)<(n:Int):=by omega
 have E3:=lh e3;clear hts ht e3;clear hp;clear t0 hb0 tb hb1 hrd hfd hn h;go_enter dT,dL;go_wp2_with fail;refine(Hc.o _ HB.o.1 _ HB.o.2.2).mono ?_;rintro e w1 ⟨rfl,t1⟩;rw[HM.o];obtain⟨d0,d1,d2,_,_,_⟩:=eJ (t1.blk HB.o.2.1 (by simp));have HT:=Gb (HB.o.1.trans0 t1) (t1.blk HB.o.2.1 (by simp));clear t1;go_wp2_with fail;refine(Hf.o _ HT.o.1).mono ?_;rintro e w2 ⟨rfl,t2⟩;obtain⟨f0,f1,f2,_,_,_⟩:=eJ (t2.blk HT.o.2 (by simp));have e3':=(HT.o.1.trans0 t2).cell E3.o (by simp);have HT2:=lh (HT.o.1.trans0 t2);clear t2;go_wp2;go_ret2;exact⟨rfl,HT2.o⟩
def fU(cs:List CD)(a:AG):Int × Int:=
 if iz fy a.op=false then (0,20)
 else if a.col=⟨#[]⟩ then (if a.op=iM then (1,0) else (0,20))
 else match fA cs a.col with
  |none=>(0,13)
  |some t=>if a.op=iD/\t=2 then (0,12) else if a.op=gB\/a.op=gZ then (t,0) else (1,0)
theorem eK(x:ByteArray)(l:List UInt8)(b:ByteArray)(hb:b.data.toList=l):(x.toList==l)=decide (x=b):=by rw[<- hb,<- jW,jZ]
theorem fi(s:ByteArray):s.toList.isEmpty=decide (s=⟨#[]⟩):=by
 rw[jW];obtain⟨⟨l⟩⟩:=s;rcases l with _|⟨x,l⟩
 ·simp
 simp
theorem EV(a:AG)(SA:Option Addr)(c n:Nat)(cs:List CD)(hn:cs.length=n)(hl:n<=1000000)(w:World)(h:em w SA cs): Calls Tryz.prog 131 #[.agg #[.string a.op,.string a.col,.string a.name],.slice SA n c] w λe w'=>e=.returned (.tuple #[.int .i64 (fU cs a).1,.int .i64 (fU cs a).2])/\Touch [] w w':=by
 obtain⟨op,col,nm⟩:=a;dsimp only;rcases hm:iz fy op with _|_
 ·have e:fU cs ⟨op,col,nm⟩=(0,20):=by unfold fU;rw[ae hm]
  rw[e];exact AU op col nm SA c n cs hn hl w h (lh hm)
 have hm':¬iz fy op=false:=by rw[hm];simp
 have e0:fU cs ⟨op,col,nm⟩=(if col=⟨#[]⟩ then (if op=iM then ((1,0):Int × Int) else (0,20)) else match fA cs col with
  |none=>(0,13)
  |some t=>if op=iD/\t=2 then (0,12) else if op=gB\/op=gZ then (t,0) else (1,0)):=by unfold fU;rw[ab hm']
 rw[e0];by_cases h5:col=⟨#[]⟩
 ·rw[ae h5];have q5:col.toList.isEmpty=true:=by rw[fi];exact aF h5
  by_cases h1:op=iM
  ·rw[ae h1];exact AD op col nm SA c n cs hn hl w h (lh hm) q5 ((eK op _ iM rfl).trans (aF h1))
  rw[ab h1];exact zu op col nm SA c n cs hn hl w h (lh hm) q5 ((eK op _ iM rfl).trans (aC h1))
 rw[ab h5];have q5:col.toList.isEmpty=false:=by rw[fi];exact aC h5
 rcases hp:ef cs col with _|i
 ·have ht:fA cs col=none:=by unfold fA;rw[hp];rfl
  rw[ht];exact Bl op col nm SA c n cs hn hl w h (lh hm) q5 hp
 obtain⟨t,ht⟩:∃t,fA cs col=some t:=⟨_,by unfold fA;rw[hp];rfl⟩;rw[ht];dsimp only;by_cases h2:op=iD
 ·have n3:¬op=gB:=by rw[h2];decide
  have n4:¬op=gZ:=by rw[h2];decide
  by_cases h22:t=2
  ·rw[ae ⟨h2,h22⟩];exact Bj op col nm SA c n cs hn hl w h (lh hm) q5 i hp t ht ((eK op _ iD rfl).trans (aF h2)) h22
  rw[ab (λq=>h22 q.2),ab (λq=>q.elim n3 n4)];exact CI op col nm SA c n cs hn hl w h (lh hm) q5 i hp t ht ((eK op _ iD rfl).trans (aF h2)) ((eK op _ gB rfl).trans (aC n3)) ((eK op _ gZ rfl).trans (aC n4)) h22
 rw[ab (λq=>h2 q.1)];have q2:(op.toList==[115,117,109])=false:=(eK op _ iD rfl).trans (aC h2);by_cases h3:op=gB
 ·rw[ae (.inl h3)];exact DX op col nm SA c n cs hn hl w h (lh hm) q5 i hp t ht q2 ((eK op _ gB rfl).trans (aF h3))
 have q3:(op.toList==[109,105,110])=false:=(eK op _ gB rfl).trans (aC h3);by_cases h4:op=gZ
 ·rw[ae (.inr h4)];exact CE op col nm SA c n cs hn hl w h (lh hm) q5 i hp t ht q2 q3 ((eK op _ gZ rfl).trans (aF h4))
 rw[ab (λq=>q.elim h3 h4)];exact ze op col nm SA c n cs hn hl w h (lh hm) q5 i hp t ht q2 q3 ((eK op _ gZ rfl).trans (aC h4))
end
section
open Go.RowKit
def jQ(cs acc:List CD):List ByteArray->Option (List CD)
 | []=>some acc
 |n:: r=>match ef cs n with
  |none=>none
  |some i=>jQ cs (acc++[cs.getD i ⟨⟨#[]⟩,0⟩]) r
def jP(cs acc:List CD):List AG->Int × List CD
 | []=>(0,acc)
 |a:: r=>if (fU cs a).2=0 then jP cs (acc++[⟨a.name,(fU cs a).1⟩]) r else ((fU cs a).2,[])
def g_(cs:List CD)(names:List ByteArray)(aggs:List AG):Int × List CD:=match jQ cs [] names with
 |none=>(13,[])
 |some l=>jP cs l aggs
theorem wz(cs acc:List CD)(l:List ByteArray)(k:Nat)(h:k<l.length):jQ cs acc (l.drop k)=match ef cs l[k] with
  |none=>none
  |some i=>jQ cs (acc++[cs.getD i ⟨⟨#[]⟩,0⟩]) (l.drop (k+1)):=by
 rw[bj h];rfl
theorem uS(cs acc:List CD)(l:List AG)(k:Nat)(h:k<l.length):jP cs acc (l.drop k)=if (fU cs l[k]).2=0 then jP cs (acc++[⟨l[k].name,(fU cs l[k]).1⟩]) (l.drop (k+1)) else ((fU cs l[k]).2,[]):=by rw[bj h];rfl
def fB(v:Int × List CD)(w:World)(e:Ending)(w':World):Prop:=∃A c,e=.returned (.tuple #[.slice A v.2.length c,.int .i64 v.1])/\Made 29 2 fQ v.2 A c w w'
theorem fB.err{w w':World}(k:Int)(ht:Touch [] w w'):fB (k,[]) w (.returned (.tuple #[.slice none 0 0,.int .i64 k])) w':=⟨none,0,rfl,(Made.nil _ _ _ _).touch0 ht⟩
theorem se(x:PC)(names:List ByteArray)(aggs:List AG)(hnn:x.names.n=names.length)(han:x.aggs.n=aggs.length)(SA:Option Addr)(c1 n1:Nat)(a:List CD)(h1:a.length=n1)(hl1:n1<=1000000)(hln:names.length<=100000)(hla:aggs.length<=100000)(w:World) (hr:d9 gD w x.names.A names) (hg:d9 lK w x.aggs.A aggs) (ha:em w SA a) : Calls Tryz.prog 92 #[x.val,.slice SA n1 c1] w (fB (g_ a names aggs) w):=by
 subst h1;have Hv:=lh (show g_ a names aggs=match jQ a [] names with | none=>(13,[]) | some l=>jP a l aggs from rfl);obtain⟨V,hV⟩:∃V,V=g_ a names aggs:=⟨_,rfl⟩;rw[<- hV] at Hv ⊢;clear hV;have HRD:=Gc hr hg ha;obtain⟨k0,k1,⟨A2,n2,c2'⟩,⟨⟨ck,cn,⟨cvk,cvn,cvt⟩,cop⟩,CA,cnn,cc⟩,⟨NA,nn,nc⟩,⟨EA,en,ec⟩,⟨OA,ol,oc⟩,⟨GA,gn,gc⟩,⟨BA,bn,bc⟩,count⟩:=x;simp only[PC.val] at *;subst hnn han;obtain⟨W,hW⟩:∃W,W=w.alloc (.cells #[.int .i64 k0,.string k1,.slice A2 n2 c2',.int .i64 ck,.string cn,.int .i64 cvk,.int .i64 cvn,.string cvt,.string cop,.slice CA cnn cc,.slice NA names.length nc,.slice EA en ec,.slice OA ol oc,.slice GA aggs.length gc,.slice BA bn bc,.int .i64 count] 49):=⟨_,rfl⟩;have t0:Touch [] w W:=hW ▸ (Touch.refl [] w).alloc _;have hb0:=hW ▸ ah w (.cells #[.int .i64 k0,.string k1,.slice A2 n2 c2',.int .i64 ck,.string cn,.int .i64 cvk,.int .i64 cvn,.string cvt,.string cop,.slice CA cnn cc,.slice NA names.length nc,.slice EA en ec,.slice OA ol oc,.slice GA aggs.length gc,.slice BA bn bc,.int .i64 count] 49);have c10:W.cell? ⟨w.heap.size,10,none⟩=some (.slice NA names.length nc):=d_ hb0 rfl;have c13:W.cell? ⟨w.heap.size,13,none⟩=some (.slice GA aggs.length gc):=d_ hb0 rfl;have HW:=lh hW;have HT0:=Gb t0 c13;have HRW:=Gc (hr.touch0 t0) (hg.touch0 t0) (ha.touch0 t0);clear t0 hb0 hW c13 hr hg ha;go_enter Tryz.func92,Tryz.ntmps92;go_wp2_with fail;rw[<- HW.o]
 go_loopw [6,18] (λo i wr=>∃(k:Nat)(A:Option Addr)(c:Nat)(acc:List CD),k<=names.length/\i=.int .i64 k/\o=.slice A k c/\Ga (acc.length=k)/\Ga (jQ a [] names=jQ a acc (names.drop k))/\Ga (Made 29 2 fQ acc A c W wr)) (λ_ i _=>names.length-(intOf i).toNat)
 case atStart=>exact⟨0,none,0,[],by omega,rfl,rfl,lh rfl,lh (by rw[dA]),lh (Made.nil _ _ _ _)⟩
 case round =>
 obtain⟨k,A,c,acc,hk,rfl,rfl,HL,Hd,HM⟩:=hrel;by_cases hlt:k<names.length
 ·obtain⟨ad,b1,o1,rfl,hadd,hc⟩:=d9.cells (HRW.o.1.touch0 HM.o.t) 1 iR (by omega) k hlt;rw[bO] at hadd;have e0:=hc 0 _ rfl;rw[aM] at e0;have hst:=wz a acc names k hlt;obtain⟨p,hp⟩:∃p,p=names[k]:=⟨_,rfl⟩;rw[<- hp] at hst e0;have hfa:=λw'(t:Touch [] W w')=>fS SA c1 a.length a rfl p w' (HRW.o.2.2.touch0 t) (by omega);have hkn:(k:Int)<(names.length:Int):=by omega
  rcases hpa:ef a p with _|i
  ·rw[hpa] at hfa;have Hq2:=lh (show V=(13,[]) by rw[Hv.o,Hd.o,hst,hpa]);have Hfa:=lh (hfa _ HM.o.t);clear hfa hpa hst hc hp;go_wp2_with fail;refine Hfa.o.mono ?_;rintro e w1 ⟨rfl,t1⟩;go_wp2;go_ret2;rw[Hq2.o];exact fB.err 13 ((HT0.o.1.trans0 HM.o.t).trans0 t1)
  rw[hpa] at hfa;have hil:=eS hpa;obtain⟨ad2,b2,o2,rfl,hadd2,e2,e3⟩:=(HRW.o.2.2.touch0 HM.o.t).at_ i hil;have hts:jQ a acc (names.drop k)=jQ a (acc++[a[i]]) (names.drop (k+1)):=by rw[hst,hpa];simp[hil]
  obtain⟨cd,hcd⟩:∃cd,cd=a[i]:=⟨_,rfl⟩;rw[<- hcd] at e2 e3 hts;obtain⟨cnm,cty⟩:=cd;have hi0:(0:Int)<=(i:Int):=by omega
  have hin:(i:Int)<(a.length:Int):=by omega
  have Hn:=lh (show jQ a [] names=jQ a (acc++[⟨cnm,cty⟩]) (names.drop (k+1)) by rw[Hd.o,hts]);have Hfa:=lh (hfa _ HM.o.t);clear hfa hpa hst hc hp hts hcd;go_wp2_with fail;refine Hfa.o.mono ?_;rintro e w1 ⟨rfl,t1⟩;have e2':=t1.cell e2 (by simp);have e3':=t1.cell e3 (by simp);have HM1:=lh (HM.o.touch0 t1);clear t1 HM;go_wp2_with (at_builtin;refine ez ?_);refine go ?_;have ta:=(Touch.refl [] w1).alloc (.cells #[.string cnm,.int .i64 cty] 29);refine eb (enc:=fQ) rfl (.tmp 30) (.tmp 35) 24 rfl 29 _ 2 24 gN bC rfl (by omega) eZ gq A k c acc HL.o rfl (HM1.o.touch0 ta).own
   (some ⟨w1.heap.size,0,none⟩) 1 1 [⟨cnm,cty⟩] rfl rfl (d9.one (enc:=fQ) w1 29 ⟨cnm,cty⟩ _ rfl) (by omega) (by omega) ?_
  intro A' c' w' hown ht hf;have HX:=lh ((HM1.o.touch0 ta).step hown ht hf);clear hown ht hf ta;go_wp2_with fail;go_roundw
  case rel=>exact⟨k+1,A',c',acc++[⟨cnm,cty⟩],by omega,by go_num,rfl,lh (by rw[az,HL.o];rfl),Hn,HX⟩
  case measure=>simp[intOf];omega
 obtain rfl:k=names.length:=by omega
 have Hl:=lh (show V=jP a acc (aggs.drop 0) by rw[Hv.o,Hd.o,bY,dA];rfl);have d13:=HM.o.t.cell HT0.o.2 (by simp);clear Hd Hv;go_wp2_with fail;go_loopw [6,41] (λo i w1=>∃(j m:Nat)(A:Option Addr)(c:Nat)(acc:List CD),j<=aggs.length/\m<=200000/\i=.int .i64 j/\o=.slice A m c/\Ga (acc.length=m/\m=names.length+j)/\Ga (V=jP a acc (aggs.drop j))/\Ga (Made 29 2 fQ acc A c W w1)) (λ_ i _=>aggs.length-(intOf i).toNat)
 case atStart=>exact⟨0,names.length,A,c,acc,by omega,by omega,rfl,rfl,lh ⟨HL.o,rfl⟩,Hl,HM⟩
 case round =>
 clear Hl HM HL hlt d13;obtain⟨j,m,A,c,acc,hj,hmb,rfl,rfl,HL,Hd,HM⟩:=hrel;by_cases hlt:j<aggs.length
 ·obtain⟨ad,b1,o1,rfl,hadd,hc⟩:=d9.cells (HRW.o.2.1.touch0 HM.o.t) 3 kq (by omega) j hlt;have hst:=uS a acc aggs j hlt;obtain⟨p,hp⟩:∃p,p=aggs[j]:=⟨_,rfl⟩;rw[<- hp] at hst hc;have e0:=hc 0 _ rfl;have e1:=hc 1 _ rfl;have e2:=hc 2 _ rfl;rw[aM] at e0;have hag:=λw'(t:Touch [] W w')=>EV p SA c1 a.length a rfl (by omega) w' (HRW.o.2.2.touch0 t);obtain⟨op,col,nm⟩:=p;dsimp only at e0 e1 e2 hag hst;have ta:=(Touch.refl [] wr).alloc (.cells #[.string op,.string col,.string nm] 79);have hbl:=ah wr (.cells #[.string op,.string col,.string nm] 79);obtain⟨g,hg⟩:∃g,g=fU a ⟨op,col,nm⟩:=⟨_,rfl⟩;rw[<- hg] at hag hst;obtain⟨ty,er⟩:=g;dsimp only at hag hst;have hkn:(j:Int)<(aggs.length:Int):=by omega
  have Hag:=lh (hag _ (HM.o.t.trans0 ta));have HTa:=Gb ta hbl;by_cases her:er=0
  ·subst her;have Hn:=lh (show V=jP a (acc++[⟨nm,ty⟩]) (aggs.drop (j+1)) by rw[Hd.o,hst,ae rfl]);clear hag hst hc hp hg ta hbl;go_wp2_with fail;refine Hag.o.mono ?_;rintro e w1 ⟨rfl,t1⟩;obtain⟨g0,g1,g2,_,_,_⟩:=eJ (t1.blk HTa.o.2 (by simp));have HM1:=lh ((HM.o.touch0 HTa.o.1).touch0 t1);clear t1 HM;go_wp2_with (at_builtin;refine ez ?_);refine go ?_;have ta:=(Touch.refl [] w1).alloc (.cells #[.string nm,.int .i64 ty] 29);refine eb (enc:=fQ) rfl (.tmp 54) (.tmp 59) 24 rfl 29 _ 2 24 gN bC rfl (by omega) eZ gq A m c acc HL.o.1 rfl (HM1.o.touch0 ta).own
    (some ⟨w1.heap.size,0,none⟩) 1 1 [⟨nm,ty⟩] rfl rfl (d9.one (enc:=fQ) w1 29 ⟨nm,ty⟩ _ rfl) (by omega) (by omega) ?_
   intro A' c' w' hown ht hf;have HX:=lh ((HM1.o.touch0 ta).step hown ht hf);clear hown ht hf ta;go_wp2_with fail;go_roundw
   case rel=>exact⟨j+1,m+1,A',c',acc++[⟨nm,ty⟩],by omega,by have:=HL.o.2;omega,by go_num,rfl,lh ⟨by rw[az,HL.o.1];rfl,by rw[HL.o.2];omega⟩,Hn,HX⟩
   case measure=>simp[intOf];omega
  have Hn:=lh (show V=(er,[]) by rw[Hd.o,hst,ab her]);have hq:(er==0)=false:=by rw[aw];exact her
  have hq':(er != 0)=true:=by rw[bne,hq];rfl
  clear hag hst hc hp hg ta hbl;go_wp2_with fail;refine Hag.o.mono ?_;rintro e w1 ⟨rfl,t1⟩;go_wp2;go_ret2;rw[Hn.o];exact fB.err er (((HT0.o.1.trans0 HM.o.t).trans0 HTa.o.1).trans0 t1)
 obtain rfl:j=aggs.length:=by omega
 have Hn:=lh (show V=(0,acc) by rw[Hd.o,bY];rfl);clear Hd;go_wp2;go_ret2;rw[Hn.o];obtain⟨hm1,_⟩:=HL.o;subst hm1;exact⟨A,c,rfl,HM.o.own,HT0.o.1.trans0 HM.o.t,λb hb=>bm HT0.o.1.size (HM.o.f b hb)⟩
end
section
open Go.RowKit
theorem rt:(Tryz.prog.info? 29).map (λi=>(i.zero,i.size,i.bytes))=some (some (.agg #[.string ⟨#[]⟩,.int .i64 0]),2,24):=gN
theorem ep.room{α:Type}(t k:Nat)(enc:α->List Value)(w:World)(c:Nat)(cells:Array Value)(hm:c<=maxLen)(hr:cells.size=c*k):ep t k enc (w.alloc (.cells cells t)) (some ⟨w.heap.size,0,none⟩) c []:=
 ⟨by simp,.inr ⟨w.heap.size,c,cells,rfl,aY _,ah w _,aY _,hm,by rw[hr],by simp⟩⟩
theorem Bb(n:Nat)(hn:n<=1000000)(w:World): Calls Tryz.prog 129 #[.slice none 0 0,.int .i64 n] w λe w'=>∃A c,e=.returned (.slice A 0 c)/\Made 29 2 fQ [] A c w w':=by
 obtain⟨i0,hi0,hz0,hz1,hz2⟩:=info_parts rt;go_enter Tryz.func129,Tryz.ntmps129;by_cases h0:n=0
 ·subst h0;go_wp2;go_ret;exact⟨none,0,rfl,Made.nil _ _ _ _⟩
 have hn0:0<n:=by omega
 have hge:=grownCap_ge w n 0 29;have hle:=grownCap_le_maxLen w n 0 29 (by simp only[maxLen];omega);have hold:(Builtin.firstCells i0.size 0 (.slice none 0 0)).run Tryz.prog w.drew=.ok ([]:List Value).toArray w.drew:=run_firstCells_none w.drew i0.size 0 0 0;have hrz:∀ty,(Builtin.append_ #[24,3] ty #[.slice none 0 0,.int .i64 (n:Int)]).run Tryz.prog w=_:=λty=>
  Lib.run_append_grow_zeros w 24 3 ty 29 i0 (.agg #[.string ⟨#[]⟩,.int .i64 0]) .i64 .i64 bC cN hi0 hz0 none 0 0 [] hold n hn0 (by omega) (by omega) (by omega)
   (by rw[hz2];omega) (by rw[hz2];exact growslice_fits (by omega) (by omega))
 simp only[Nat.zero_add] at hrz;have hsz:(([]:List Value).toArray++Builtin.zeroCells (Value.agg #[.string ⟨#[]⟩,.int .i64 0]).cells n++Builtin.zeroCells (Value.agg #[.string ⟨#[]⟩,.int .i64 0]).cells (grownCap w n 0 29-n)).size=grownCap w n 0 29*2:=by rw[de,de,size_zeroCells,size_zeroCells];simp[Value.cells];omega
 have hcut:=ep.room 29 2 fQ w.drew (grownCap w n 0 29) _ hle hsz;obtain⟨W,hW⟩:∃W,W=w.drew.alloc (.cells (([]:List Value).toArray++Builtin.zeroCells (Value.agg #[.string ⟨#[]⟩,.int .i64 0]).cells n++Builtin.zeroCells (Value.agg #[.string ⟨#[]⟩,.int .i64 0]).cells (grownCap w n 0 29-n)) 29):=⟨_,rfl⟩;obtain⟨G,hG⟩:∃G,G=grownCap w n 0 29:=⟨_,rfl⟩;have tW:Touch [] w W:=by rw[hW];exact((Touch.refl [] w).drew).alloc _
 rw[<- hW] at hrz hcut;rw[<- hG] at hrz hcut hge hle;have hws:w.drew.heap.size=w.heap.size:=rfl;rw[hws] at hcut;unfold maxLen at hle;clear hW hG hold hsz hws;go_wp2_with (at_builtin;refine Lib.wpList_append_run _ rfl _ _ _ _ rfl _ _ rfl rfl _ _ (hrz _) ?_);go_ret;exact⟨_,G,rfl,hcut,tW,by simp[ed]⟩
theorem qU(A1 A2:Option Addr)(n1 n2 c1 c2:Nat)(l1 l2:List CD)(e1:l1.length=n1)(e2:l2.length=n2)(h1:n1<=1000)(h2:n2<=1000)(k1:n1<=c1)(k2:n2<=c2)(w:World)(r1:em w A1 l1)(r2:em w A2 l2): Calls Tryz.prog 90 #[.slice (some ⟨w.heap.size,0,none⟩) 2 2] (w.alloc (.cells #[.slice A1 n1 c1,.slice A2 n2 c2] 24)) λe w'=> ∃A c,e=.returned (.slice A (l1++l2).length c)/\Made 29 2 fQ (l1++l2) A c w w':=by
 subst e1 e2;have t0:=(Touch.refl [] w).alloc (.cells #[.slice A1 l1.length c1,.slice A2 l2.length c2] 24);have hb:=ah w (.cells #[.slice A1 l1.length c1,.slice A2 l2.length c2] 24);obtain⟨W,hW⟩:∃W,W=w.alloc (.cells #[.slice A1 l1.length c1,.slice A2 l2.length c2] 24):=⟨_,rfl⟩;have hWs:w.heap.size<W.heap.size:=by rw[hW,ao];omega
 rw[<- hW] at t0 hb ⊢;have d0:=d_ hb (i:=0) rfl;have d1:=d_ hb (i:=1) rfl;have hlen:(l1++l2).length=l1.length+l2.length:=az;have Hlen:=lh hlen;clear hW hlen;go_enter Tryz.func90,Tryz.ntmps90;go_wp2;refine b8 3 ?_;rw[bx];go_wp2;rw[bx];go_wp2;rw[bx];go_wp2_with fail;have hgr:=Bb (l1.length+l2.length) (by omega) W;rw[Int.natCast_add] at hgr;refine hgr.mono ?_;rintro e w1 ⟨A3,c3,rfl,hm3⟩;have b1:=hm3.t.blk hb (by simp);have f0:=d_ b1 (i:=0) rfl;have f1:=d_ b1 (i:=1) rfl;have T1:=t0.trans0 hm3.t;go_wp2_with fail;refine b8 3 ?_;rw[bx];go_wp2_with (at_builtin;refine ez ?_);refine go ?_;refine eb rfl (.tmp 31) (.tmp 32) 24 rfl 29 _ 2 24 rt bC rfl (by omega) eZ gq A3 0 c3 [] rfl rfl hm3.own
  A1 l1.length c1 l1 rfl rfl (r1.touch0 T1) (by omega) (by omega) ?_
 intro A4 c4 w4 hown4 ht4 hf4;have hm4:=hm3.step hown4 ht4 hf4;have b4:=hm4.t.blk hb (by simp);have g0:=d_ b4 (i:=0) rfl;have g1:=d_ b4 (i:=1) rfl;rw[cw] at hm4;go_wp2_with fail;rw[bx];go_wp2_with (at_builtin;refine ez ?_);refine go ?_;refine eb rfl (.tmp 31) (.tmp 32) 24 rfl 29 _ 2 24 rt bC rfl (by omega) eZ gq A4 l1.length c4 l1 rfl rfl hm4.own
  A2 l2.length c2 l2 rfl rfl (r2.touch0 (t0.trans0 hm4.t)) (by omega) (by omega) ?_
 intro A5 c5 w5 hown5 ht5 hf5;have hm5:=hm4.step hown5 ht5 hf5;go_wp2_with fail;rw[bx];go_wp2;go_ret;exact⟨A5,c5,pu Hlen.o.symm,hm5.own,t0.trans0 hm5.t,λb hb=>by have:=hm5.f b hb;omega⟩
end
end Go.Proofs.YtafoklilkdnepaaGreatDoor
