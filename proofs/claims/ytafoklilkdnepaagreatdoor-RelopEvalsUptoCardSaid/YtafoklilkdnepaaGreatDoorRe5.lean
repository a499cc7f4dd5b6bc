/- Part 5 of the texts of this proof, one behind the other. No condition beyond those that its theorems state. -/
import Derived.Test.YtafoklilkdnepaaGreatDoorRe4
set_option linter.all false
set_option maxRecDepth 40000
set_option maxHeartbeats 25600000
namespace Go.Proofs.YtafoklilkdnepaaGreatDoor
section
open Go.RowKit
variable (FN:Nat) (CL:List Value)
theorem DZ(hFN:∀ (args:Array Value) (wk:World),(callFunc FN args).run Tryz.prog wk=.ok (.enter FN args) wk)(G c n:Nat)(hn:n<=100000)(S:Nat->SL)(R:Nat->Nat->Int)(D:Nat->Nat)(hRD:∀ x y,R x y<0 ↔ D x<D y)(w0:World)(hC:ll FN CL S R G n w0)(a m b mid:Nat)(ham:a+1<m)(hmb:m+1<b)(hb:b<=n)(hmid:mid=(a+b) / 2) (hl:∀s,a<s->s<mid->mK FN CL S G c n D w0 a s mid) (hr:∀e,mid<e->e<b->mK FN CL S G c n D w0 mid e b):mK FN CL S G c n D w0 a m b:=by
 intro f wr hR hT hs1 hs2 hlr hfn;obtain⟨W0,hW0⟩:∃W0,W0=wr:=⟨_,rfl⟩;subst hW0;have HR:=lh hR;have HT:=lh hT;have HS:=Gc hs1 hs2 hlr;have HC:=lh hC;have HF:=lh hfn;have HLc:=lh hl;have HRc:=lh hr;have HM:=lh hmid;have b1:a<mid:=by omega
 have b2:mid<b:=by omega
 have e1:((m:Int)-(a:Int)==1)=false:=by simp;omega
 have e2:((b:Int)-(m:Int)==1)=false:=by simp;omega
 have e3:((a:Int)+(b:Int)) / 2=(mid:Int):=by omega
 obtain⟨lo,hi,hlh⟩:∃lo hi:Nat,(mid<m/\lo=mid+m-b/\hi=mid)\/(m<=mid/\lo=a/\hi=m):=by
  by_cases q:mid<m
  ·exact⟨_,_,.inl ⟨q,rfl,rfl⟩⟩
  exact⟨_,_,.inr ⟨by omega,rfl,rfl⟩⟩
 have hlo:a<=lo:=by omega
 have hhi:hi<=mid:=by omega
 have hhm:hi<=m:=by omega
 have hlohi:lo<=hi:=by omega
 have HLH:=lh hlh;obtain⟨p,hp⟩:∃p,p=mid+m-1:=⟨_,rfl⟩;have hp1:∀x,lo<=x->x<hi->m<=p-x/\p-x<b/\x<=p:=by intro x h1 h2;omega
 have HP1:=lh hp1;have hpm:p<2*n:=by omega
 have HP:=lh hp;clear hR hT hs1 hs2 hlr hC hfn hl hr hp1;go_enter Tryz.func178,Tryz.ntmps178;rcases hlh with ⟨z1,z2,z3⟩|⟨z1,z2,z3⟩;all_goals
 first
  |have y1:(mid:Int)<(m:Int):=by omega
   have y2:(mid:Int)+(m:Int)-(b:Int)=(lo:Int):=by omega
  |have y1:((mid:Int)<(m:Int))=False:=by simp;omega
 have y3:(mid:Int)+(m:Int)-1=(p:Int):=by omega
 clear z2 z3 hp hmid;go_wp2_with fail;go_loopw [20,21] (λx y w1=>∃i j:Nat,lo<=i/\i<=j/\j<=hi/\x=.int .i64 i/\y=.int .i64 j/\Ga (∀h,lo<=h->h<i->fW D (f h) (f (p-h)))/\Ga (∀h,j<=h->h<hi->fW D (f (p-h)) (f h))/\Ga (Touch [] W0 w1)) (λx y _=>(intOf y).toNat-(intOf x).toNat)
 case atStart=>exact⟨lo,hi,by omega,hlohi,by omega,by have:=HLH.o;go_num,by have:=HLH.o;go_num,lh (λh q1 q2=>absurd q1 (by omega)),lh (λh q1 q2=>absurd q1 (by omega)),lh (Touch.refl _ _)⟩
 case round =>
 obtain⟨i,j,hi1,hij,hj,rfl,rfl,HL,HH,HW⟩:=hrel;have hT1:Touch [G] w0 wr:=HT.o.trans HW.o (by simp);have hR1:fc S wr G c n f:=HR.o.touch0 HW.o;by_cases hlt:i<j
 ·obtain⟨h,hh⟩:∃h,h=(i+j) / 2:=⟨_,rfl⟩;have hhi1:i<=h:=by omega
  have hhj:h<j:=by omega
  have hP2:=HP1.o h (by omega) (by omega);have ch:=TW.cell (hR1.cell h (by omega));obtain⟨x,hx⟩:∃x,x=p-h:=⟨_,rfl⟩;have hxn:x<n:=by omega
  have ca:=TW.cell (hR1.cell x hxn);obtain⟨r,hr⟩:∃r,r=R (f x) (f h):=⟨_,rfl⟩;have hc:∀x8:TW wr,Calls Tryz.prog FN ((Value.slice (SL.A (S (f x))) (SL.n (S (f x))) (SL.c (S (f x)))):: (Value.slice (SL.A (S (f h))) (SL.n (S (f h))) (SL.c (S (f h)))):: CL).toArray x8.w λe w'=>e=.returned (.int .i64 r)/\Touch [] x8.w w':=λx8=>by rw[hr];exact HC.o _ (Touch.trans hT1 x8.t (by simp)) (f x) (f h) (HF.o _ (by omega)) (HF.o _ (by omega))
  have HR1:=lh hR1;have HT1:=lh hT1;have HCC:=lh hc;have HQ:=lh hr;have HX:=lh hx;have HP2:=lh hP2;have he:((i:Int)+(j:Int)) / 2=(h:Int):=by omega
  have he2:(p:Int)-(h:Int)=(x:Int):=by omega
  clear hR1 hT1 hc hr hh hx hP2;go_wp2_with fail;by_cases hr0:r<0
  ·refine eh wr (Touch.refl _ _) (by kernel_rfl) (by kernel_rfl) ?_;repeat (go_big_quiet_step (((exact Calls.tw _ (HCC.o _)))))
   refine aS ?_;rintro _ ⟨x9,rfl⟩;go_wp2_with fail;go_roundw
   case rel =>
    have q:=(hRD _ _).1 (HQ.o ▸ hr0);have q2:fW D (f (p-h)) (f h):=by rw[<- HX.o];exact .inl (by omega)
    exact⟨i,h,by omega,by omega,by omega,rfl,by go_num,HL,lh (λy x1 x2=>pD HS.o.1 (by omega) x1 (by omega) (qj HS.o.2.1 (HP1.o y (by omega) (by omega)).1 (by omega) (HP2.o).2.1 q2)),lh (HW.o.trans0 x9.t)⟩
   case measure=>simp[intOf];omega
  have hr1:(r<0)=False:=by simp;omega
  refine eh wr (Touch.refl _ _) (by kernel_rfl) (by kernel_rfl) ?_;repeat (go_big_quiet_step (((exact Calls.tw _ (HCC.o _)))))
  refine aS ?_;rintro _ ⟨x9,rfl⟩;go_wp2_with fail;go_roundw
  case rel =>have q:=mt (hRD (f x) (f h)).2 (HQ.o ▸ hr0);have q2:fW D (f h) (f (p-h)):=(qm (HS.o.2.2 h (p-h) (by omega) (by omega) (by omega) (by omega))).2 (by rw[<- HX.o];omega);exact⟨h+1,j,by omega,by omega,hj,by go_num,rfl,lh (λy x1 x2=>qj HS.o.1 (by omega) (show y<=h by omega) (by omega) (pD HS.o.2.1 (HP2.o).1 (by omega) (HP1.o y (by omega) (by omega)).2.1 q2)),HH,lh (HW.o.trans0 x9.t)⟩
  case measure=>simp[intOf];omega
 obtain⟨s,hs⟩:∃s,s=i:=⟨_,rfl⟩;obtain rfl:s=j:=by omega
 subst hs;have HR1:=lh hR1;have HW1:Ga (Touch [G] W0 wr):=lh (HW.o.mono (by simp));have hmo:=Fm (by omega) (by omega) HS.o.1 HS.o.2.1 HS.o.2.2 HM.o HLH.o hi1 hj (λx x1 x2=>by rw[<- HP.o];exact HL.o x x1 x2) (λx x1 x2=>by rw[<- HP.o];exact HH.o x x1 x2);obtain⟨hMid,m1,m2,m3,m4,m5,m6,m7,m8⟩:=hmo;obtain⟨e,hee⟩:∃e,e=mid+m-s:=⟨_,rfl⟩;rw[<- hee] at hMid m4 m5 m6;obtain⟨g,hg⟩:∃g,g=fM f s m e:=⟨_,rfl⟩;rw[<- hg] at hMid;have hgn:=hMid.lt hb HF.o;have HMid:=lh hMid;have HGn:=lh hgn;have HGg:=lh hg;have he:(mid:Int)+(m:Int)-(s:Int)=(e:Int):=by omega
 have hee1:e+s=mid+m:=by omega
 clear hMid hgn hg hee hR1 hT1 HL HH;rcases(by omega:s<m/\s<mid\/m<=s\/s<m/\mid<=s) with q1|q1|q1;all_goals
 first
  |have p1:((s:Int)<(m:Int)):=by omega
   have p2:((m:Int)<(e:Int)):=by omega
   have hro:=yZ G c n hn S f s m e (by omega) (by omega) (by omega) (.func (.func FN) #[] CL.toArray) wr HR1.o;rw[<- HGg.o] at hro;have HRo:=lh hro;clear hro;go_wp2_with fail;refine HRo.o.mono ?_;rintro e' w2 ⟨rfl,hr2,ht2⟩;have HR2:=lh hr2;have HT2:=lh (HW1.o.trans ht2 (λb hb=>.inl hb));clear hr2 ht2 HRo
  |first
    |have p1:((s:Int)<(m:Int))=False:=by simp;omega
    |have p1:((s:Int)<(m:Int)):=by omega
     have p2:((m:Int)<(e:Int))=False:=by simp;omega
   obtain⟨w2,hw2⟩:∃w2,w2=wr:=⟨_,rfl⟩;subst hw2;have hx:fM f s m e=f:=by first | rw[show e=m by omega,D2] | rw[show s=m by omega,zG]
   have HR2:Ga (fc S w2 G c n g):=lh (by rw[HGg.o,hx];exact HR1.o);have HT2:=lh HW1.o
 rcases(by omega:a<s/\s<mid\/s<=a\/a<s/\mid<=s) with q2|q2|q2;all_goals try (exfalso;omega)
 all_goals
 first
  |have p3:((a:Int)<(s:Int)):=by omega
   have p4:((s:Int)<(mid:Int)):=by omega
   have hlo2:=HLc.o s (by omega) (by omega) g w2 HR2.o (HT.o.trans HT2.o (λb hb=>.inl hb)) HMid.o.s1 HMid.o.s2 HMid.o.l1 HGn.o;have HLo:=lh hlo2;clear hlo2;go_wp2_with fail;refine HLo.o.mono ?_;rintro e' w3 ⟨rfl,g1,hr3,hm3,ht3⟩;have HR3:=lh hr3;have HM3:=lh hm3;have HT3:=lh (HT2.o.trans ht3 (λb hb=>.inl hb));clear hr3 hm3 ht3 HLo
  |first
    |have p3:((a:Int)<(s:Int))=False:=by simp;omega
    |have p3:((a:Int)<(s:Int)):=by omega
     have p4:((s:Int)<(mid:Int))=False:=by simp;omega
   obtain⟨w3,hw3⟩:∃w3,w3=w2:=⟨_,rfl⟩;subst hw3;obtain⟨g1,hg1⟩:∃g1,g1=g:=⟨_,rfl⟩;have HR3:Ga (fc S w3 G c n g1):=lh (by rw[hg1];exact HR2.o);have HM3:Ga (SM D g a mid g1):=lh (by rw[hg1];exact EE HMid.o (by omega));have HT3:=lh HT2.o;clear hg1
 rcases(by omega:mid<e/\e<b\/e<=mid\/mid<e/\b<=e) with q3|q3|q3;all_goals try (exfalso;omega)
 all_goals
 first
  |have p5:((mid:Int)<(e:Int)):=by omega
   have p6:((e:Int)<(b:Int)):=by omega
   have hlo2:=HRc.o e (by omega) (by omega) g1 w3 HR3.o (HT.o.trans HT3.o (λb hb=>.inl hb)) (HMid.o.s3.cong (λk hk=>HM3.o.o k (.inr hk))) (HMid.o.s4.cong (λk hk=>HM3.o.o k (.inr (by omega)))) (HMid.o.l2.cong (λk hk=>HM3.o.o k (.inr hk))) (HM3.o.lt (by omega) HGn.o);have HLo:=lh hlo2;clear hlo2;go_wp2_with fail;refine HLo.o.mono ?_;rintro e' w4 ⟨rfl,g2,hr4,hm4,ht4⟩;have HR4:=lh hr4;have HM4:=lh hm4;have HT4:=lh (HT3.o.trans ht4 (λb hb=>.inl hb));clear hr4 hm4 ht4 HLo
  |first
    |have p5:((mid:Int)<(e:Int))=False:=by simp;omega
    |have p5:((mid:Int)<(e:Int)):=by omega
     have p6:((e:Int)<(b:Int))=False:=by simp;omega
   obtain⟨w4,hw4⟩:∃w4,w4=w3:=⟨_,rfl⟩;subst hw4;obtain⟨g2,hg2⟩:∃g2,g2=g1:=⟨_,rfl⟩;have HR4:Ga (fc S w4 G c n g2):=lh (by rw[hg2];exact HR3.o);have HM4:Ga (SM D g1 mid b g2):=lh (by rw[hg2];exact Dz HMid.o (by omega) (λk hk=>HM3.o.o k (.inr hk)));have HT4:=lh HT3.o;clear hg2
 go_wp2;go_end0;exact⟨rfl,g2,HR4.o,CS HMid.o (by omega) (by omega) HM3.o HM4.o,HT4.o⟩
theorem xJ(hFN:∀ (args:Array Value) (wk:World),(callFunc FN args).run Tryz.prog wk=.ok (.enter FN args) wk)(G c n:Nat)(hn:n<=100000)(S:Nat->SL)(R:Nat->Nat->Int)(D:Nat->Nat)(hRD:∀ x y,R x y<0 ↔ D x<D y)(w0:World)(hC:ll FN CL S R G n w0):∀k a m b:Nat,b-a<=k->a<m->m<b->b<=n->mK FN CL S G c n D w0 a m b:=by
 intro k;induction k with
 |zero=>intro a m b h1 h2 h3 _;omega
 |succ k ih =>
  intro a m b hk ham hmb hb
  by_cases q1:m=a+1
  ·subst q1;exact AO FN CL hFN G c n hn S R D hRD w0 hC a b hmb hb
  ·by_cases q2:b=m+1
   ·subst q2;exact DW FN CL hFN G c n hn S R D hRD w0 hC a m (by omega) hb
   exact DZ FN CL hFN G c n hn S R D hRD w0 hC a m b ((a+b) / 2) (by omega) (by omega) hb rfl (λs h1 h2=>ih a s _ (by omega) h1 h2 (by omega)) (λe h1 h2=>ih _ e b (by omega) h1 h2 hb)
end
section
open Go.RowKit
variable (FN:Nat) (CL:List Value)
theorem xY(hFN:∀ (args:Array Value) (wk:World),(callFunc FN args).run Tryz.prog wk=.ok (.enter FN args) wk)(G c n:Nat)(hn:n<=100000)(S:Nat->SL)(R:Nat->Nat->Int)(D:Nat->Nat)(hRD:∀ x y,R x y<0 ↔ D x<D y)(w0:World)(hC:ll FN CL S R G n w0)(a b:Nat)(hab:a<b)(hb:b<=n)(f:Nat->Nat)(wr:World)(hR:fc S wr G c n f)(hT:Touch [G] w0 wr)(hup:Up f a b)(hfn:∀ k,k<n->f k<n): Calls Tryz.prog 177 #[.slice (some ⟨G,0,none⟩) n c,.int .i64 a,.int .i64 b,.func (.func FN) #[] CL.toArray] wr λe w'=> e=.returned (.tuple #[])/\∃g,fc S w' G c n g/\SM D f a b g/\Touch [G] wr w':=by
 obtain⟨W0,hW0⟩:∃W0,W0=wr:=⟨_,rfl⟩;subst hW0;have HR:=lh hR;have HT:=lh hT;have HU:=lh hup;have HC:=lh hC;have HF:=lh hfn;clear hR hT hup hC hfn;go_enter Tryz.func177,Tryz.ntmps177;go_wp2_with fail;go_loopw [8] (λy w1=>∃(i:Nat)(g:Nat->Nat),a+1<=i/\i<=b/\y=.int .i64 i/\Ga (fc S w1 G c n g)/\Ga (SM D f a i g)/\Ga (Touch [G] W0 w1)) (λy _=>b-(intOf y).toNat)
 case atStart=>exact⟨a+1,f,by omega,by omega,by go_num,HR,lh (SM.self (λi j h1 h2 h3=>absurd h1 (by omega))),lh (Touch.refl _ _)⟩
 case round =>
 obtain⟨i,g,hi,hib,rfl,HG,HM,HTg⟩:=hrel;obtain⟨W1,hW1⟩:∃W1,W1=wr:=⟨_,rfl⟩;subst hW1;by_cases hlt:i<b
 ·have H0:Ga (fc S W1 G c n (fM g i i (i+1))):=lh (by rw[zG];exact HG.o);have HFg:=lh (HM.o.lt (by omega:i<=n) HF.o);go_wp2_with fail;go_loopw [9] (λy w1=>∃j:Nat,a<=j/\j<=i/\y=.int .i64 j/\Ga (fc S w1 G c n (fM g j i (i+1)))/\Ga (∀h,j<=h->h<i->fW D (g i) (g h))/\Ga (Touch [G] W0 w1)) (λy _=>(intOf y).toNat)
  case atStart=>exact⟨i,by omega,by omega,rfl,H0,lh (λh q1 q2=>absurd q1 (by omega)),HTg⟩
  case round =>
  clear H0 HTg HG HR;obtain⟨k',hk,hki,rfl,HRk,HH,HTk⟩:=hrel;by_cases hlk:a<k'
  ·obtain⟨k,hkj⟩:∃k,k'=k+1:=⟨k'-1,by omega⟩;have hlt2:(a:Int)<(k':Int):=by omega
   have ca:=TW.cell (HRk.o.cell k (by omega));have cb:=TW.cell (HRk.o.cell k' (by omega));have fa:=HRk.o.free k;have fb:=HRk.o.free k';have hat:=ud g i k (by omega);have hdn:=Av g i k (by omega);rw[<- hkj] at hat hdn;rw[hat.1] at ca;rw[hat.2] at cb;obtain⟨x,hx⟩:∃x,x=g i:=⟨_,rfl⟩;obtain⟨y,hy⟩:∃y,y=g k:=⟨_,rfl⟩;rw[<- hy] at ca;rw[<- hx] at cb;have hxn:x<n:=by rw[hx];exact HFg.o _ (by omega)
   have hyn:y<n:=by rw[hy];exact HFg.o _ (by omega)
   have hs:∀q:TW wr,fc S ((q.w.setCell ⟨G,k',none⟩ (Value.slice (SL.A (S y)) (SL.n (S y)) (SL.c (S y)))).setCell ⟨G,k,none⟩ (Value.slice (SL.A (S x)) (SL.n (S x)) (SL.c (S x)))) G c n (fM g k i (i+1)):=λq=>by have z:=((HRk.o.touch0 q.t).set k' y (by omega)).set k x (by omega);rw[hx,hy,hdn,<- hx,<- hy] at z;exact z
   obtain⟨r,hr⟩:∃r,r=R x y:=⟨_,rfl⟩;have hc:∀x8:TW wr,Calls Tryz.prog FN ((Value.slice (SL.A (S x)) (SL.n (S x)) (SL.c (S x))):: (Value.slice (SL.A (S y)) (SL.n (S y)) (SL.c (S y))):: CL).toArray x8.w λe w'=>e=.returned (.int .i64 r)/\Touch [] x8.w w':=λx8=>by rw[hr];exact HC.o _ (Touch.trans (HT.o.trans HTk.o (λb hb=>.inl hb)) x8.t (by simp)) x y hxn hyn
   have HCC:=lh hc;have HQ:=lh hr;have HX:=lh hx;have HY:=lh hy;have HS2:=lh hs;have HT2:=lh (fun q:TW wr=>((Touch.trans HTk.o q.t (by simp)).setCell (p:=⟨G,k',none⟩) (.inl (by simp)) (Value.slice (SL.A (S y)) (SL.n (S y)) (SL.c (S y)))).setCell (p:=⟨G,k,none⟩) (.inl (by simp)) (Value.slice (SL.A (S x)) (SL.n (S x)) (SL.c (S x))));have e3:(k':Int)-1=(k:Int):=by omega
   have hne:k'≠k:=by omega
   have HK:=lh hkj;have hkn:k<n:=by omega
   have hkn2:k'<n:=by omega
   clear hat hx hy hs hc hr hkj hdn;go_wp2_with fail;by_cases hr0:r<0
   ·refine eh wr (Touch.refl _ _) (by kernel_rfl) (by kernel_rfl) ?_;repeat (go_big_quiet_step (((exact Calls.tw _ (HCC.o _)))))
    refine aS ?_;rintro _ ⟨x9,rfl⟩;have fa9:=(HRk.o.touch0 x9.t).free k;have fb9:=(HRk.o.touch0 x9.t).free k';go_wp2_with fail;go_region;go_wp2_with fail;go_roundw
    case rel =>
     have hkj:=HK.o;have q:=(hRD _ _).1 (HQ.o ▸ hr0);have q2:fW D (g i) (g k):=by rw[<- HX.o,<- HY.o];exact .inl (by omega)
     refine⟨k,by omega,by omega,by go_num,lh ((HS2.o x9).touch0 (Touch.refl [] _).drew),lh (λh q1 q3=>pD HM.o.srt (by omega) q1 q3 q2),lh (HT2.o x9).drew⟩
    case measure=>simp[intOf];omega
   have hr1:(r<0)=False:=by simp;omega
   refine eh wr (Touch.refl _ _) (by kernel_rfl) (by kernel_rfl) ?_;repeat (go_big_quiet_step (((exact Calls.tw _ (HCC.o _)))))
   refine aS ?_;rintro _ ⟨x9,rfl⟩;go_wp2_with fail;go_roundw
   case rel =>have q:=mt (hRD x y).2 (HQ.o ▸ hr0);have q2:fW D (g k) (g i):=(qm (Fl HU.o HM.o hlt (by have:=HK.o;omega) (by have:=HK.o;omega))).2 (by rw[<- HX.o,<- HY.o];omega);have hkj:=HK.o;exact⟨i+1,_,by omega,by omega,by go_num,lh (HRk.o.touch0 x9.t),lh (yb (by omega) HM.o (sL (by omega) HM.o.srt hk hki (λh q1 q3=>qj HM.o.srt q1 (show h<=k by omega) (by omega) q2) HH.o)),lh (Touch.trans HTk.o x9.t (by simp))⟩
   case measure=>simp[intOf];omega
  obtain rfl:a=k':=by omega
  go_wp2_with fail;go_quiet (fail);go_wp2_with fail;go_roundw
  case rel =>exact⟨i+1,_,by omega,by omega,by go_num,lh (HRk.o.touch0 ((Touch.refl [] _).drewN _)),lh (yb (by omega) HM.o (sL (by omega) HM.o.srt (aL _) hki (λh q1 q3=>absurd q1 (by omega)) HH.o)),lh (HTk.o.drewN _)⟩
  case measure=>simp[intOf];omega
 obtain rfl:i=b:=by omega
 go_wp2;go_end0;exact⟨rfl,g,HG.o,HM.o,HTg.o⟩
end
section
def fJ(D f:Nat->Nat)(a b:Nat):Prop:=lx D f a b/\∀x,pZ f a b x ↔ a<=x/\x<b
theorem fJ.cong{D f g:Nat->Nat}{a b:Nat}(h:fJ D f a b)(e:∀ k,a<=k->k<b->g k=f k):fJ D g a b:=by
 refine⟨λi j h1 h2 h3=>by rw[e i h1 (by omega),e j (by omega) h3];exact h.1 i j h1 h2 h3,λx=> ?_⟩;rw[<- h.2 x];constructor
 ·rintro⟨i,h1,h2,h3⟩;exact⟨i,h1,h2,by rw[<- e i h1 h2];exact h3⟩
 rintro⟨i,h1,h2,h3⟩;exact⟨i,h1,h2,by rw[e i h1 h2];exact h3⟩
theorem fJ.same{D f:Nat->Nat}{a b b':Nat}(h:fJ D f a b)(e:b=b'):fJ D f a b':=e ▸ h
theorem fJ.lr{D f:Nat->Nat}{a m b:Nat}(h1:fJ D f a m)(h2:fJ D f m b):Lr f a m b:=λi j q1 q2 q3 q4=>by have:=(h1.2 (f i)).1 ⟨i,q1,q2,rfl⟩;have:=(h2.2 (f j)).1 ⟨j,q3,q4,rfl⟩;omega
theorem fJ.join{D f g:Nat->Nat}{a m b:Nat}(ham:a<=m)(hmb:m<=b)(h1:fJ D f a m)(h2:fJ D f m b)(h:SM D f a b g):fJ D g a b:=by
 refine⟨h.srt,λx=> ?_⟩;rw[h.seg x];constructor
 ·rintro⟨i,q1,q2,rfl⟩;by_cases q:i<m
  ·have:=(h1.2 (f i)).1 ⟨i,q1,q,rfl⟩;omega
  have:=(h2.2 (f i)).1 ⟨i,by omega,q2,rfl⟩;omega
 rintro⟨q1,q2⟩;by_cases q:x<m
 ·obtain⟨i,z1,z2,z3⟩:=(h1.2 x).2 ⟨q1,q⟩;exact⟨i,z1,by omega,z3⟩
 obtain⟨i,z1,z2,z3⟩:=(h2.2 x).2 ⟨by omega,q2⟩;exact⟨i,by omega,z2,z3⟩
theorem fJ.ins{D f g:Nat->Nat}{a b:Nat}(hid:∀ k,a<=k->f k=k)(h:SM D f a b g):fJ D g a b:=by
 refine⟨h.srt,λx=> ?_⟩;rw[h.seg x];constructor
 ·rintro⟨i,q1,q2,rfl⟩;rw[hid i q1];exact⟨q1,q2⟩
 rintro⟨q1,q2⟩;exact⟨x,q1,q2,hid x q1⟩
def qT(D f:Nat->Nat)(bs n:Nat):Prop:=∀q,q*bs<n->fJ D f (q*bs) (min (q*bs+bs) n)
structure Ph1 (D f:Nat->Nat) (n q:Nat):Prop where
 done:∀p,p<q->fJ D f (p*20) (p*20+20)
 rest:∀k,q*20<=k->f k=k
theorem Ph1.zero(D:Nat->Nat)(n:Nat):Ph1 D (λk=>k) n 0:=⟨λp h=>absurd h (by omega),λ_ _=>rfl⟩
theorem Ph1.next{D f g:Nat->Nat}{n q:Nat}(h:Ph1 D f n q)(hs:SM D f (q*20) (q*20+20) g):Ph1 D g n (q+1) where
 done:=λp hp=>by
  by_cases e:p=q
  ·subst e;exact fJ.ins h.rest hs
  exact(h.done p (by omega)).cong λk k1 k2=>hs.o k (by omega)
 rest:=λk hk=>by rw[hs.o k (by omega)];exact h.rest k (by omega)
theorem Ph1.last{D f g:Nat->Nat}{n q:Nat}(h:Ph1 D f n q)(hq:q*20<=n)(hn:n<q*20+20)(hs:SM D f (q*20) n g):qT D g 20 n:=λp hp=>by
 by_cases e:p=q
 ·subst e;exact(fJ.ins h.rest hs).same (by omega)
 exact((h.done p (by omega)).cong λk k1 k2=>hs.o k (by omega)).same (by omega)
theorem Ph1.up{D f:Nat->Nat}{n q b:Nat}(h:Ph1 D f n q):Up f (q*20) b:=λi j h1 h2 _=>by rw[h.rest i h1,h.rest j (by omega)];exact h2
structure Ph2 (D f:Nat->Nat) (bs n q:Nat):Prop where
 done:∀p,p<q->fJ D f (p*(2*bs)) (p*(2*bs)+2*bs)
 rest:∀p,2*q<=p->p*bs<n->fJ D f (p*bs) (min (p*bs+bs) n)
theorem Ph2.zero{D f:Nat->Nat}{bs n:Nat}(h:qT D f bs n):Ph2 D f bs n 0:=⟨λp h=>absurd h (by omega),λp _ hp=>h p hp⟩
theorem rq(q bs:Nat):2*q*bs=q*(2*bs):=by rw[Nat.mul_comm 2 q,Nat.mul_assoc]
theorem Ph2.two{D f:Nat->Nat}{bs n q:Nat}(h:Ph2 D f bs n q)(hb:0<bs)(hn:q*(2*bs)+bs<n):fJ D f (q*(2*bs)) (q*(2*bs)+bs)/\fJ D f (q*(2*bs)+bs) (min (q*(2*bs)+2*bs) n):=by
 have e:=rq q bs;have e2:(2*q+1)*bs=q*(2*bs)+bs:=by rw[dD,e,dj]
 have h1:=h.rest (2*q) (aL _) (by rw[e];omega);have h2:=h.rest (2*q+1) (by omega) (by rw[e2];omega);rw[e] at h1;rw[e2] at h2;exact⟨h1.same (by omega),h2.same (by omega)⟩
theorem Ph2.next{D f g:Nat->Nat}{bs n q:Nat}(h:Ph2 D f bs n q)(hb:0<bs)(hn:q*(2*bs)+2*bs<=n)(hs:SM D f (q*(2*bs)) (q*(2*bs)+2*bs) g):Ph2 D g bs n (q+1) where
 done:=λp hp=>by
  by_cases e:p=q
  ·subst e;obtain⟨h1,h2⟩:=h.two hb (by omega);exact fJ.join (m:=p*(2*bs)+bs) (by omega) (by omega) h1 (h2.same (by omega)) hs
  have h1:p*(2*bs)+2*bs<=q*(2*bs):=by have:(p+1)*(2*bs)<=q*(2*bs):=dE _ (by omega);rw[dD,dj] at this;exact this
  exact(h.done p (by omega)).cong λk k1 k2=>hs.o k (by omega)
 rest:=λp hp hpn=>by
  have h1:q*(2*bs)+2*bs<=p*bs:=by have:(2*(q+1))*bs<=p*bs:=dE _ hp;rw[rq,dD,dj] at this;exact this
  exact(h.rest p (by omega) hpn).cong λk k1 k2=>hs.o k (by omega)
theorem Ph2.last{D f g:Nat->Nat}{bs n q:Nat}(h:Ph2 D f bs n q)(hb:0<bs)(hm:q*(2*bs)+bs<n)(hn:n<q*(2*bs)+2*bs)(hs:SM D f (q*(2*bs)) n g):qT D g (2*bs) n:=λp hp=>by
 by_cases e:p=q
 ·subst e;obtain⟨h1,h2⟩:=h.two hb hm;have:=fJ.join (m:=p*(2*bs)+bs) (by omega) (by omega) h1 (h2.same (b':=n) (by omega)) hs;exact this.same (by omega)
 have hpq:p<q:=by
  rcases Nat.lt_or_ge p q with z|z
  ·exact z
  have:(q+1)*(2*bs)<=p*(2*bs):=dE _ (by omega);rw[dD,dj] at this;omega
 have h1:p*(2*bs)+2*bs<=q*(2*bs):=by have:(p+1)*(2*bs)<=q*(2*bs):=dE _ (by omega);rw[dD,dj] at this;exact this
 exact((h.done p hpq).cong λk k1 k2=>hs.o k (by omega)).same (by omega)
theorem Ph2.quit{D f:Nat->Nat}{bs n q:Nat}(h:Ph2 D f bs n q)(hb:0<bs)(hq:q*(2*bs)<=n)(hm:n<=q*(2*bs)+bs):qT D f (2*bs) n:=λp hp=>by
 by_cases hpq:p<q
 ·by_cases z:p*(2*bs)+2*bs<=n
  ·exact(h.done p hpq).same (by omega)
  exfalso;have:(p+1)*(2*bs)<=q*(2*bs):=dE _ (by omega);rw[dD,dj] at this;omega
 have e:p=q:=by
  rcases Nat.lt_or_ge q p with z|z
  ·have:(q+1)*(2*bs)<=p*(2*bs):=dE _ (by omega);rw[dD,dj] at this;omega
  omega
 subst e;have e2:=rq p bs;have h1:=h.rest (2*p) (aL _) (by rw[e2];exact hp);rw[e2] at h1;exact h1.same (by omega)
theorem qT.all{D f:Nat->Nat}{bs n:Nat}(h:qT D f bs n)(hn:0<n)(hb:n<=bs):fJ D f 0 n:=by have:=h 0 (by omega);rw[bQ] at this;exact this.same (by omega)
end
section
open Go.RowKit
variable (FN:Nat) (CL:List Value)
def yp(S:Nat->SL)(G c n:Nat)(D f:Nat->Nat)(a b:Nat)(w:World)(e:Ending)(w':World):Prop:=e=.returned (.tuple #[])/\∃g,fc S w' G c n g/\SM D f a b g/\Touch [G] w w'
theorem Ce(hFN:∀ (args:Array Value) (wk:World),(callFunc FN args).run Tryz.prog wk=.ok (.enter FN args) wk)(G c n:Nat)(hn:n<=100000)(S:Nat->SL)(D:Nat->Nat)(a:Nat)(ha:a<=n)(f:Nat->Nat)(w:World)(hR:fc S w G c n f): Calls Tryz.prog 177 #[.slice (some ⟨G,0,none⟩) n c,.int .i64 a,.int .i64 a,.func (.func FN) #[] CL.toArray] w (yp S G c n D f a a w):=by
 have HP:Ga (yp S G c n D f a a w (.returned (.tuple #[])) w):=lh ⟨rfl,f,hR,SM.self (λi j h1 h2 h3=>absurd h1 (by omega)),Touch.refl _ _⟩;generalize yp S G c n D f a a w=P at HP ⊢;clear hR;go_enter Tryz.func177,Tryz.ntmps177;go_wp2_with fail;go_loop [8] (λy=>y=.int .i64 (a+1:Nat)) (λ_=>0)
 case atStart=>go_num
 case round =>
 obtain rfl:=hrel;have:(((a+1:Nat):Int)<(a:Int))=False:=by simp;omega
 go_wp2;go_end0;exact HP.o
theorem xj(hFN:∀ (args:Array Value) (wk:World),(callFunc FN args).run Tryz.prog wk=.ok (.enter FN args) wk)(G c n:Nat)(h0:0<n)(hn:n<=100000)(S:Nat->SL)(R:Nat->Nat->Int)(D:Nat->Nat)(hRD:∀ x y,R x y<0 ↔ D x<D y)(w0:World)(hC:ll FN CL S R G n w0)(w:World)(hR:fc S w G c n (fun k=>k))(hT:Touch [G] w0 w): Calls Tryz.prog 143 #[.slice (some ⟨G,0,none⟩) n c,.int .i64 n,.func (.func FN) #[] CL.toArray] w λe w'=>e=.returned (.tuple #[])/\∃g,fc S w' G c n g/\fJ D g 0 n/\Touch [G] w w':=by
 have HT:=lh hT;have HC:=lh hC;have HR:=lh hR;clear hR hT hC;go_enter Tryz.func143,Tryz.ntmps143;go_wp2;go_loopw [7,8] (λa b w1=>∃(q:Nat)(p:Nat)(f:Nat->Nat),p=q*20/\p<=n/\a=.int .i64 p/\b=.int .i64 ((p:Int)+20)/\Ga (fc S w1 G c n f)/\Ga (Ph1 D f n q)/\Ga (∀k,k<n->f k<n)/\Ga (Touch [G] w w1)) (λa _ _=>n-(intOf a).toNat)
 case atStart=>exact⟨0,0,λk=>k,by omega,by omega,rfl,rfl,HR,lh (Ph1.zero D n),lh (λ_ h=>h),lh (Touch.refl _ _)⟩
 case round =>
 clear HR;obtain⟨q,p,f,hp,hpn,rfl,rfl,HR,HP,HF,HTw⟩:=hrel;have Hp:=lh hp;have HT1:Ga (Touch [G] w0 wr):=lh (HT.o.trans HTw.o (λb hb=>.inl hb));clear hp;by_cases hb:p+20<=n
 ·have hl:(p:Int)+20<=(n:Int):=by omega
  have hi:=xY FN CL hFN G c n hn S R D hRD w0 HC.o p (p+20) (by omega) hb f wr HR.o HT1.o (by rw[Hp.o];exact HP.o.up) HF.o;rw[show ((p+20:Nat):Int)=(p:Int)+20 by omega] at hi;have Hi:=lh hi;clear hi;go_wp2_with fail;refine Hi.o.mono ?_;rintro e w1 ⟨rfl,g,hr1,hm1,ht1⟩;have HR1:=lh hr1;have HM1:=lh hm1;have HT2:=lh (HTw.o.trans ht1 (λb hb=>.inl hb));clear hr1 hm1 ht1 Hi;go_wp2_with fail;go_roundw
  case rel=>exact⟨q+1,p+20,g,by have:=Hp.o;omega,hb,by go_num,by go_num,HR1,lh (HP.o.next (by rw[<- Hp.o];exact HM1.o)),lh (HM1.o.lt hb HF.o),HT2⟩
  case measure=>simp[intOf];omega
 have hl:((p:Int)+20<=(n:Int))=False:=by simp;omega
 have hi:Calls Tryz.prog 177 #[.slice (some ⟨G,0,none⟩) n c,.int .i64 p,.int .i64 n,.func (.func FN) #[] CL.toArray] wr (yp S G c n D f p n wr):=by
  by_cases e:p=n
  ·rw[e];exact Ce FN CL hFN G c n hn S D n (aL _) f wr HR.o
  exact xY FN CL hFN G c n hn S R D hRD w0 HC.o p n (by omega) (aL _) f wr HR.o HT1.o (by rw[Hp.o];exact HP.o.up) HF.o
 have Hi:=lh hi;clear hi;go_wp2_with fail;refine Hi.o.mono ?_;rintro e w2 ⟨rfl,g,hr1,hm1,ht1⟩;have HR1:=lh hr1;have HT2:=lh (HTw.o.trans ht1 (λb hb=>.inl hb));have HL:Ga (qT D g 20 n):=lh (HP.o.last (by rw[<- Hp.o];exact hpn) (by rw[<- Hp.o];omega) (by rw[<- Hp.o];exact hm1));have HF1:=lh (hm1.lt (aL _) HF.o);clear hr1 hm1 ht1 Hi HR HP HF HTw HT1 Hp;go_wp2_with fail;go_loopw [6,7,8,9] (λa _ _ _ w1=>∃(bs:Nat)(f:Nat->Nat),20<=bs/\bs<=200000/\a=.int .i64 bs/\Ga (fc S w1 G c n f)/\Ga (qT D f bs n)/\Ga (∀k,k<n->f k<n)/\Ga (Touch [G] w w1)) (λa _ _ _ _=>n-(intOf a).toNat)
 case atStart=>exact⟨20,g,by omega,by omega,rfl,HR1,HL,HF1,HT2⟩
 case round =>
 clear HR1 HL HF1 HT2;obtain⟨bs,f,hbs,hbs2,rfl,HR,HL,HF,HTw⟩:=hrel;by_cases hbn:bs<n
 ·obtain⟨tb,htb⟩:∃tb,tb=2*bs:=⟨_,rfl⟩;have e2:2*(bs:Int)=(tb:Int):=by omega
  have e3:(bs:Int)*2=(tb:Int):=by omega
  have hlt:(bs:Int)<(n:Int):=by omega
  have htb1:bs<tb:=by omega
  have htb2:tb<=200000:=by omega
  have htb3:tb<=bs+bs:=by omega
  have htb4:bs+bs<=tb:=by omega
  have HTB:=lh htb;have HP0:Ga (Ph2 D f bs n 0):=lh (Ph2.zero HL.o);clear htb;go_wp2_with fail;go_loopw [7,8] (λa b w1=>∃(q:Nat)(p:Nat)(f:Nat->Nat),p<=n/\a=.int .i64 p/\b=.int .i64 ((p:Int)+(tb:Int))/\Ga (p=q*(2*bs))/\Ga (fc S w1 G c n f)/\Ga (Ph2 D f bs n q)/\Ga (∀k,k<n->f k<n)/\Ga (Touch [G] w w1)) (λa _ _=>n-(intOf a).toNat)
  case atStart=>exact⟨0,0,f,by omega,rfl,by go_num,lh (by omega),HR,HP0,HF,HTw⟩
  case round =>
  clear HR HP0 HF HTw HL;obtain⟨q,p,f,hpn,rfl,rfl,Hp,HR,HP,HF,HTw⟩:=hrel;have HT1:Ga (Touch [G] w0 wr):=lh (HT.o.trans HTw.o (λb hb=>.inl hb));by_cases hb:p+tb<=n
  ·have hl:(p:Int)+(tb:Int)<=(n:Int):=by omega
   have hpq:q*(2*bs)+2*bs<=n:=by rw[<- Hp.o,<- HTB.o];exact hb
   obtain⟨g1,g2⟩:=HP.o.two (by omega) (by omega);have g2':=g2.same (b':=p+tb) (by rw[<- Hp.o,<- HTB.o];omega);rw[<- Hp.o] at g1 g2';have hsm:=xJ FN CL hFN G c n hn S R D hRD w0 HC.o n p (p+bs) (p+tb) (by omega) (by omega) (by omega) hb f wr HR.o HT1.o g1.1 g2'.1 (g1.lr g2') HF.o;rw[show ((p+bs:Nat):Int)=(p:Int)+(bs:Int) by omega,show ((p+tb:Nat):Int)=(p:Int)+(tb:Int) by omega] at hsm;have HS:=lh hsm;have Hpq:=lh hpq;clear hsm hpq g1 g2 g2';go_wp2_with fail;refine HS.o.mono ?_;rintro e w1 ⟨rfl,g,hr1,hm1,ht1⟩;have HR1:=lh hr1;have HM1:=lh hm1;have HT2:=lh (HTw.o.trans ht1 (λb hb=>.inl hb));clear hr1 hm1 ht1 HS;go_wp2_with fail;go_roundw
   case rel=>exact⟨q+1,p+tb,g,hb,by go_num,by go_num,lh (by rw[dD,dj,<- Hp.o,<- HTB.o]),HR1,lh (HP.o.next (by omega) Hpq.o (by rw[<- Hp.o,<- HTB.o];exact HM1.o)),lh (HM1.o.lt hb HF.o),HT2⟩
   case measure=>simp[intOf];omega
  have hl:((p:Int)+(tb:Int)<=(n:Int))=False:=by simp;omega
  by_cases hm:p+bs<n
  ·have hl2:(p:Int)+(bs:Int)<(n:Int):=by omega
   obtain⟨g1,g2⟩:=HP.o.two (by omega) (by rw[<- Hp.o];exact hm);have g2':=g2.same (b':=n) (by rw[<- Hp.o,<- HTB.o];omega);rw[<- Hp.o] at g1 g2';have hsm:=xJ FN CL hFN G c n hn S R D hRD w0 HC.o n p (p+bs) n (by omega) (by omega) hm (aL _) f wr HR.o HT1.o g1.1 g2'.1 (g1.lr g2') HF.o;rw[show ((p+bs:Nat):Int)=(p:Int)+(bs:Int) by omega] at hsm;have HS:=lh hsm;clear hsm g1 g2 g2';go_wp2_with fail;refine HS.o.mono ?_;rintro e w1 ⟨rfl,g,hr1,hm1,ht1⟩;have HR1:=lh hr1;have HM1:=lh hm1;have HT2:=lh (HTw.o.trans ht1 (λb hb=>.inl hb));have HZ:Ga (qT D g tb n):=lh (by have:=HP.o.last (by omega) (by rw[<- Hp.o];exact hm) (by rw[<- Hp.o,<- HTB.o];omega) (by rw[<- Hp.o];exact hm1);rw[<- HTB.o] at this;exact this)
   clear hr1 hm1 ht1 HS;go_wp2_with fail;go_roundw
   case rel=>exact⟨tb,g,by omega,by omega,by go_num,HR1,HZ,lh (HM1.o.lt (aL _) HF.o),HT2⟩
   case measure=>simp[intOf];omega
  have hl2:((p:Int)+(bs:Int)<(n:Int))=False:=by simp;omega
  have HZ:Ga (qT D f tb n):=lh (by have:=HP.o.quit (by omega) (by rw[<- Hp.o];exact hpn) (by rw[<- Hp.o];omega);rw[<- HTB.o] at this;exact this)
  go_wp2_with fail;go_roundw
  case rel=>exact⟨tb,f,by omega,by omega,by go_num,HR,HZ,HF,HTw⟩
  case measure=>simp[intOf];omega
 have hlt:((bs:Int)<(n:Int))=False:=by simp;omega
 go_wp2_with fail;go_end0;exact⟨rfl,f,HR.o,HL.o.all h0 (by omega),HTw.o⟩
theorem nB(hFN:∀ (args:Array Value) (wk:World),(callFunc FN args).run Tryz.prog wk=.ok (.enter FN args) wk)(G c n:Nat)(h0:0<n)(hn:n<=100000)(S:Nat->SL)(R:Nat->Nat->Int)(D:Nat->Nat)(hRD:∀ x y,R x y<0 ↔ D x<D y)(w0:World)(hC:ll FN CL S R G n w0)(w:World)(hR:fc S w G c n (fun k=>k))(hT:Touch [G] w0 w): Calls Tryz.prog 102 #[.slice (some ⟨G,0,none⟩) n c,.func (.func FN) #[] CL.toArray] w λe w'=>e=.returned (.tuple #[])/\∃g,fc S w' G c n g/\fJ D g 0 n/\Touch [G] w w':=by have Hi:=lh (xj FN CL hFN G c n h0 hn S R D hRD w0 hC w hR hT);clear hR hT hC;go_enter Tryz.func102,Tryz.ntmps102;go_wp2_with fail;refine Hi.o.mono ?_;rintro e w1 ⟨rfl,g,hg⟩;have Hg:=lh hg;clear hg;go_wp2_with fail;go_end0;exact⟨rfl,g,Hg.o⟩
end
section
def Tr(x y z:Int):Prop:=x<=0->y<=0->z<=0/\(z=0 ↔ x=0/\y=0)
theorem Tr.lex{x1 y1 z1 x2 y2 z2:Int}(h1:Tr x1 y1 z1)(h2:Tr x2 y2 z2):Tr (if x1=0 then x2 else x1) (if y1=0 then y2 else y1) (if z1=0 then z2 else z1):=by
 intro h3 h4;unfold Tr at h1 h2;by_cases a:x1=0<;>by_cases b:y1=0<;>by_cases c:z1=0;all_goals
 first | rw[ae a] at h3 ⊢ | rw[ab a] at h3 ⊢
 first | rw[ae b] at h4 ⊢ | rw[ab b] at h4 ⊢
 first | rw[ae c] | rw[ab c]
 have q1:=h1 (by omega) (by omega);first
  |(have q2:=h2 (by omega) (by omega);omega)
  |omega
theorem vg(a b c:Int):Tr (Lib.compareInt a b) (Lib.compareInt b c) (Lib.compareInt a c):=by
 intro h1 h2;have q:∀x y:Int,Lib.compareInt x y=if x<y then -1 else if y<x then 1 else 0:=λx y=>by
  unfold Lib.compareInt;split
  ·rfl
  split<;>first | rfl | (exfalso;omega) | (rename_i h1 h2;rw[ae (by omega)]) | (rename_i h1 h2;rw[ab (by omega)])
 rw[q] at h1 h2 ⊢;rw[q a b,q b c];by_cases a1:a<b<;>by_cases a2:b<a<;>by_cases a3:b<c<;>by_cases a4:c<b<;>by_cases a5:a<c<;>by_cases a6:c<a<;>simp only[a1,a2,a3,a4,a5,a6,if_true,if_false] at h1 h2 ⊢<;>first | omega | (simp;omega) | simp
theorem uZ:∀(a b c:List UInt8),Tr (Lib.compareBytes a b) (Lib.compareBytes b c) (Lib.compareBytes a c)
 | [],[],[]=>λ_ _=>by decide
 | [],[],_:: _=>λ_ _=>by simp[Lib.compareBytes]
 | [],_:: _,[]=>λ_ h=>by simp[Lib.compareBytes] at h
 | [],_:: _,_:: _=>λ_ _=>by simp[Lib.compareBytes]
 | _:: _,[],_=>λh _=>by simp[Lib.compareBytes] at h
 | _:: _,_:: _,[]=>λ_ h=>by simp[Lib.compareBytes] at h
 |x:: a,y:: b,z:: c=>by
  have e:∀(x y:UInt8)(a b:List UInt8),Lib.compareBytes (x:: a) (y:: b)=if Lib.compareInt x.toNat y.toNat=0 then Lib.compareBytes a b else Lib.compareInt x.toNat y.toNat:=λx y a b=>by
   rw[Lib.compareBytes];unfold Lib.compareInt;by_cases h1:x<y
   ·have:=cY.1 h1;rw[ae h1];simp(discharger:=omega) [show ((x.toNat:Int)<(y.toNat:Int)) by omega]
   have n1:¬x.toNat<y.toNat:=λq=>h1 (cY.2 q);rw[ab h1];by_cases h2:y<x
   ·have:=cY.1 h2;rw[ae h2];simp[show ¬((x.toNat:Int)<(y.toNat:Int)) by omega,show ((y.toNat:Int)<(x.toNat:Int)) by omega]
   have n2:¬y.toNat<x.toNat:=λq=>h2 (cY.2 q);rw[ab h2];simp[show ¬((x.toNat:Int)<(y.toNat:Int)) by omega,show ¬((y.toNat:Int)<(x.toNat:Int)) by omega]
  rw[e,e,e];exact(vg _ _ _).lex (uZ a b c)
theorem vW(a b c:VD):Tr (eU a b) (eU b c) (eU a c):=by
 have e:∀a b:VD,eU a b=if Lib.compareInt a.kind b.kind=0 then (if Lib.compareInt a.num b.num=0 then Lib.compareBytes a.text.data.toList b.text.data.toList else Lib.compareInt a.num b.num) else Lib.compareInt a.kind b.kind:=λa b=>by
  unfold eU;simp only[jR];split
  ·split
   ·by_cases h:Lib.compareBytes a.text.data.toList b.text.data.toList=0
    ·rw[ae h,h]
    rw[ab h]
   rfl
  rfl
 rw[e,e,e];exact(vg _ _ _).lex ((vg _ _ _).lex (uZ _ _ _))
theorem ln:∀(a b c:List VD),Tr (ej a b) (ej b c) (ej a c)
 | [],[],[]=>λ_ _=>by decide
 | [],[],_:: _=>λ_ _=>by simp[ej]
 | [],_:: _,[]=>λ_ h=>by simp[ej] at h
 | [],_:: _,_:: _=>λ_ _=>by simp[ej]
 | _:: _,[],_=>λh _=>by simp[ej] at h
 | _:: _,_:: _,[]=>λ_ h=>by simp[ej] at h
 |x:: a,y:: b,z:: c=>by
  have e:∀(x y:VD)(a b:List VD),ej (x:: a) (y:: b)=if eU x y=0 then ej a b else eU x y:=λx y a b=>by rw[ej]
  rw[e,e,e];exact(vW _ _ _).lex (ln a b c)
def oX(R:Nat->Nat->Int)(M x:Nat):Nat:=((List.range M).filter λz=>decide (R z x<0)).length
theorem pz{p q:Nat->Bool}:∀(l:List Nat),(∀a∈l,p a=true->q a=true)->(l.filter p).length<=(l.filter q).length
 | [],_=>aL _
 |a:: l,h=>by
  have ih:=pz l λb hb=>h b (aP _ hb);have ha:=h a aK;rw[cG,cG];by_cases hp:p a=true
  ·rw[ae hp,ae (ha hp)];simp only[List.length_cons];omega
  rw[ab hp];split
  ·simp only[List.length_cons];omega
  exact ih
theorem ul{p q:Nat->Bool}:∀(l:List Nat),(∀a∈l,p a=true->q a=true)->∀a∈l,p a=false->q a=true->(l.filter p).length<(l.filter q).length
 |b:: l,h,a,ha,hp,hq=>by
  have hl:∀c∈l,p c=true->q c=true:=λc hc=>h c (aP _ hc);rw[cG,cG];rcases aR.1 ha with rfl|hm
  ·rw[ab (by rw[hp];simp),ae hq];have:=pz l hl;simp only[List.length_cons];omega
  have ih:=ul l hl a hm hp hq;by_cases hpb:p b=true
  ·rw[ae hpb,ae (h b aK hpb)];simp only[List.length_cons];omega
  rw[ab hpb];split
  ·simp only[List.length_cons];omega
  exact ih
theorem vy{R:Nat->Nat->Int}{M:Nat}(hn:∀ x y,R y x = -R x y)(ht:∀ x y z,Tr (R x y) (R y z) (R x z))(hr:∀ x,∃ x',x'<M/\∀ y,R x' y=R x y)(x y:Nat):R x y<0 ↔ oX R M x<oX R M y:=by
 have h0:∀x,R x x=0:=λx=>by have:=hn x x;omega
 have up:∀x y z,R z x<0->R x y<=0->R z y<0:=λx y z h1 h2=>by have:=ht z x y (by omega) h2;omega
 constructor
 ·intro h;obtain⟨x',hx',he⟩:=hr x;refine ul _ (λa _ ha=> ?_) x' (a_.2 hx') ?_ ?_
  ·exact aF (up x y a (aN ha) (by omega))
  ·have:=h0 x;have:=he x;exact aC (by omega)
  have:=he y;exact aF (by omega)
 intro h;rcases Int.lt_or_le (R x y) 0 with q|q
 ·exact q
 have h1:R y x<=0:=by have:=hn x y;omega
 have:oX R M y<=oX R M x:=pz _ λa _ ha=>aF (up y x a (aN ha) h1);omega
def iy(rows out:List (List VD)):Prop:=out.Perm rows/\out.Pairwise λa b=>ej a b<=0
def sU(rows:List (List VD))(x y:Nat):Int:=ej (rows.getD x []) (rows.getD y [])
def vH(rows:List (List VD))(x:Nat):Nat:=oX (sU rows) (rows.length+1) x
theorem wn(rows:List (List VD))(x y:Nat):sU rows x y<0 ↔ vH rows x<vH rows y:=by
 refine vy (R:=sU rows) (λx y=>fL _ _) (λx y z=>ln _ _ _) (λx=> ?_) x y;by_cases h:x<rows.length
 ·exact⟨x,by omega,λ_=>rfl⟩
 refine⟨rows.length,by omega,λy=> ?_⟩;unfold sU;rw[bG,bT (aL _),bG (l:=rows) (i:=x),bT (by omega)]
theorem xu{rows:List (List VD)}{g:Nat->Nat}(h:fJ (vH rows) g 0 rows.length):iy rows ((List.range rows.length).map λk=>rows.getD (g k) []):=by
 constructor
 ·have e:rows=(List.range rows.length).map λk=>rows.getD k []:=by
   apply List.ext_getElem
   ·simp
   intro i h1 h2;simp[h1]
  have h1:((List.range rows.length).map g).Perm (List.range rows.length):=by
   refine(dy ?_ List.nodup_range).2 λa=> ?_
   ·rw[List.Nodup,dJ];refine(List.Pairwise.and_mem.1 dQ).imp λ{x y}hxy e=> ?_;have:=h.1 x y (aY _) hxy.2.2 (a_.1 hxy.2.1);rw[e] at this;exact lI _ _ this
   rw[a_,aJ];constructor
   ·rintro⟨i,hi,rfl⟩;exact((h.2 (g i)).1 ⟨i,aY _,a_.1 hi,rfl⟩).2
   intro ha;obtain⟨i,_,hi,hg⟩:=(h.2 a).2 ⟨aY _,ha⟩;exact⟨i,a_.2 hi,hg⟩
  have h2:=h1.map λk=>rows.getD k [];rw[cC,<- e] at h2;exact h2
 rw[dJ];refine(List.Pairwise.and_mem.1 dQ).imp λ{x y}hxy=> ?_;have h1:=h.1 x y (aY _) hxy.2.2 (a_.1 hxy.2.1);have h2:¬vH rows (g y)<vH rows (g x):=by unfold fW at h1;omega
 have h3:=mt (wn rows (g y) (g x)).1 h2;have h4:=fL (rows.getD (g x) []) (rows.getD (g y) []);unfold sU at h3;omega
end
section
open Go.RowKit
theorem Eb(A:Option Addr)(c:Nat)(fv:Value)(w:World):Calls Tryz.prog 177 #[.slice A 0 c,.int .i64 0,.int .i64 0,fv] w λe w'=>e=.returned (.tuple #[])/\w'=w:=by
 go_enter Tryz.func177,Tryz.ntmps177;go_wp2_with fail;go_loop [8] (λy=>y=.int .i64 1) (λ_=>0)
 case atStart=>rfl
 case round =>obtain rfl:=hrel;go_wp2;go_end0;exact⟨rfl,rfl⟩
theorem xn(A:Option Addr)(c:Nat)(fv:Value)(w:World):Calls Tryz.prog 143 #[.slice A 0 c,.int .i64 0,fv] w λe w'=>e=.returned (.tuple #[])/\w'=w:=by
 have Hi:=lh (Eb A c fv);go_enter Tryz.func143,Tryz.ntmps143;go_wp2;go_loop [7,8] (λa b=>a=.int .i64 0/\b=.int .i64 20) (λ_ _=>0)
 case atStart=>exact⟨rfl,rfl⟩
 case round =>
 obtain⟨rfl,rfl⟩:=hrel;go_wp2_with fail;refine(Hi.o _).mono ?_;rintro e w1 ⟨rfl,hw⟩;have HW:=lh hw;clear hw;go_wp2_with fail;go_loop [6,7,8,9] (λa _ _ _=>a=.int .i64 20) (λ_ _ _ _=>0)
 case atStart=>rfl
 case round =>obtain rfl:=hrel;go_wp2_with fail;go_end0;exact⟨rfl,HW.o⟩
theorem ur(A:Option Addr)(c:Nat)(fv:Value)(w:World):Calls Tryz.prog 102 #[.slice A 0 c,fv] w λe w'=>e=.returned (.tuple #[])/\w'=w:=by have Hi:=lh (xn A c fv);go_enter Tryz.func102,Tryz.ntmps102;go_wp2_with fail;refine(Hi.o _).mono ?_;rintro e w1 ⟨rfl,hw⟩;have HW:=lh hw;clear hw;go_wp2_with fail;go_end0;exact⟨rfl,HW.o⟩
theorem mx{α:Type}(l:List α)(z:α)(n:Nat)(hn:l.length=n):(List.range n).map (λk=>l.getD k z)=l:=by
 subst hn;apply List.ext_getElem
 ·simp
 intro i h1 h2;simp[h2]
theorem Bh(args:Array Value)(wk:World):(callFunc 81 args).run Tryz.prog wk=.ok (.enter 81 args) wk:=by kernel_rfl
theorem vX(B:Option Addr)(c n:Nat)(rows:List (List VD))(hn:rows.length=n)(hl:n<=100000)(hok:fe rows)(base:Nat)(w:World)(h:fl 33 base w B c rows): Calls Tryz.prog 102 #[.slice B n c,.func (.func 81) #[] #[]] w λe w'=> e=.returned (.tuple #[])/\∃out,iy rows out/\fl 33 base w' B c out/\Touch (ed B) w w':=by
 subst hn;obtain⟨sl,⟨h1,h1'⟩,h2,h3⟩:=h;by_cases h0:rows.length=0
 ·obtain rfl:rows=[]:=aV h0;obtain rfl:sl=[]:=aV h1;refine(ur B c _ w).mono ?_;rintro e w1 ⟨rfl,rfl⟩;exact⟨rfl,[],⟨.refl _,.nil⟩,⟨[],⟨rfl,h1'⟩,h2,h3⟩,Touch.refl _ _⟩
 rcases h2.head with ⟨q1,q2,q3⟩ | ⟨G,rfl⟩
 ·exact absurd (by rw[<- h1,q2];rfl) h0
 have hget:∀x(hx:x<sl.length),sl.getD x ⟨none,0,0⟩=sl[x]:=λx hx=>by simp[hx]
 have hgr:∀x(hx:x<rows.length),rows.getD x []=rows[x]:=λx hx=>by simp[hx]
 have hat:∀wr,Touch [G] w wr->∀x(hx:x<rows.length),(sl.getD x ⟨none,0,0⟩).n=(rows.getD x []).length/\eu wr (sl.getD x ⟨none,0,0⟩).A (rows.getD x []):=λwr ht x hx=>by
  have hx1:x<sl.length:=by omega
  rw[hget x hx1,hgr x hx];exact⟨(h1' x hx1 hx).1,d9.touch (h1' x hx1 hx).2 ht (λb hb=>by have:=(h3 _ (am hx1) b hb).1;simpa [ed] using this)⟩
 have hC:ll 81 [] (λx=>sl.getD x ⟨none,0,0⟩) (sU rows) G rows.length w:=by intro wr ht x y hx hy;obtain⟨a1,a2⟩:=hat wr ht x hx;obtain⟨b1,b2⟩:=hat wr ht y hy;have k1:=hok _ (am hx);have k2:=hok _ (am hy);rw[<- hgr x hx] at k1;rw[<- hgr y hy] at k2;exact qO _ _ _ _ _ _ _ _ a1.symm b1.symm wr a2 b2 (by rw[a1];exact k1.1) (by rw[b1];exact k2.1)
 have hR:fc (λx=>sl.getD x ⟨none,0,0⟩) w G c rows.length (λk=>k):=by unfold fc;rw[mx sl _ _ h1];exact h2
 refine(nB 81 [] Bh G c rows.length (by omega) hl _ _ _ (wn rows) w hC w hR (Touch.refl _ _)).mono ?_;rintro e w1 ⟨rfl,g,hr,hg,ht⟩;have hgn:∀i,i<rows.length->g i<rows.length:=λi hi=>((hg.2 (g i)).1 ⟨i,aY _,hi,rfl⟩).2;refine⟨rfl,_,xu hg,⟨_,⟨by simp,λi a b=> ?_⟩,hr,λs hs b hb=> ?_⟩,ht⟩
 ·have hi:i<rows.length:=by simpa using a
  have:=hat w1 ht (g i) (hgn i hi);simpa using this
 obtain⟨i,hi,rfl⟩:=aJ.1 hs;have hi:=hgn i (a_.1 hi);have hi1:g i<sl.length:=by omega
 have hb:b∈ed (sl.getD (g i) ⟨none,0,0⟩).A:=hb;rw[hget _ hi1] at hb;obtain⟨c1,c2,c3⟩:=h3 _ (am hi1) b hb;exact⟨c1,bW c2 ht.size,c3⟩
end
end Go.Proofs.YtafoklilkdnepaaGreatDoor
