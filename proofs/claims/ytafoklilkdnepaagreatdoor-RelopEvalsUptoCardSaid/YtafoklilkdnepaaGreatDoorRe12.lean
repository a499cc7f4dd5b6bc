/- Part 12 of the texts of this proof, one behind the other. No condition beyond those that its theorems state. -/
import Derived.Test.YtafoklilkdnepaaGreatDoorRe11
set_option linter.all false
set_option maxRecDepth 40000
set_option maxHeartbeats 25600000
namespace Go.Proofs.YtafoklilkdnepaaGreatDoor
section
open Go.RowKit
theorem nE(s:ByteArray):s.toList.isEmpty=decide (s=S []):=by rw[cD,jW,List.isEmpty_iff,bF];exact⟨λh=>uJ (by rw[h];rfl),λh=>by rw[h];rfl⟩
theorem Br(v:VD):oq v=DK v eQ:=rfl
theorem FW(m:Nat):((m:Int)==0)=decide (m=0):=by rw[cD];simp
theorem Cy(x:XC)(hv:x.nd.v.text.size<=140737000000000)(w:World): Calls Tryz.prog 144 #[x.val] w λe w'=>e=.returned (.bool (gL x.nd x.n))/\Touch [] w w':=by
 have hrule:=λw'=>wV x w';obtain⟨⟨k,nm,⟨vk,vn,vt⟩,op⟩,A,m,c⟩:=x;dsimp only at hv;dsimp only[XC.val] at hrule ⊢;have Hrule:=lh hrule;have Hnull:=lh λw'=>kY w';have Hright:=lh λw'=>pM ⟨vk,vn,vt⟩ hv w';simp only[VD.val,eQ] at Hnull Hright;have heq:=BP ⟨vk,vn,vt⟩ eQ;have hnu:=Br ⟨vk,vn,vt⟩;rw[<- hnu] at heq;simp only[eQ] at heq;have hgd:=yr;have hop:=nE op;have hnm:=nE nm;have hm0:=FW m;obtain⟨W,hW⟩:∃W,W=w.alloc (.cells #[.int .i64 k,.string nm,.int .i64 vk,.int .i64 vn,.string vt,.string op,.slice A m c] 44):=⟨_,rfl⟩;have tb:=(Touch.refl [] w).alloc (.cells #[.int .i64 k,.string nm,.int .i64 vk,.int .i64 vn,.string vt,.string op,.slice A m c] 44);have hb:=ah w (.cells #[.int .i64 k,.string nm,.int .i64 vk,.int .i64 vn,.string vt,.string op,.slice A m c] 44);have hsz:=ao w (.cells #[.int .i64 k,.string nm,.int .i64 vk,.int .i64 vn,.string vt,.string op,.slice A m c] 44);rw[<- hW] at tb hb hsz;have HW:=lh hW;obtain⟨c0,c1,c2,c3,c4,c5,c6,_⟩:=gG hb;have Hb:=lh hb;have Hsz:=lh hsz;clear hrule hW hb hnu hsz;by_cases h1:k=1
 ·have Hf:=lh (show gL ⟨k,nm,⟨vk,vn,vt⟩,op⟩ m=(decide (op=S [])&&(decide (m=0)&&oq ⟨vk,vn,vt⟩)) by unfold gL;rw[ae h1]);subst h1;have g0:=TW.cell c0;have g1:=TW.cell c1;have g2:=TW.cell c2;have g3:=TW.cell c3;have g4:=TW.cell c4;have g5:=TW.cell c5;have g6:=TW.cell c6;clear c0 c1 c2 c3 c4 c5 c6;rcases ho:decide (op=S []) with _|_
  ·rw[ho] at hop;have Ho:=lh ho;clear ho;go_enter dV,dM;go_wp2;rw[<- HW.o];refine eh W (Touch.refl _ _) (by kernel_rfl) (by kernel_rfl) ?_;repeat (go_big_quiet_step (((go_at_call 173;exact Calls.tw _ (Hnull.o _)))))
   refine aS ?_;rintro _ ⟨y,rfl⟩;go_wp2;go_ret;exact⟨eo (by rw[Hf.o,Ho.o,cL]),tb.trans0 y.t⟩
  rw[ho] at hop;have Ho:=lh ho;clear ho;rcases hz:decide (m=0) with _|_
  ·rw[hz] at hm0;have Hz:=lh hz;clear hz;go_enter dV,dM;go_wp2;rw[<- HW.o];refine eh W (Touch.refl _ _) (by kernel_rfl) (by kernel_rfl) ?_;repeat (go_big_quiet_step (((go_at_call 173;exact Calls.tw _ (Hnull.o _)))))
   refine aS ?_;rintro _ ⟨y,rfl⟩;go_wp2;go_ret;exact⟨eo (by rw[Hf.o,Ho.o,Hz.o,cL,dq]),tb.trans0 y.t⟩
  rw[hz] at hm0;have Hz:=lh hz;clear hz;go_enter dV,dM;go_wp2;rw[<- HW.o];refine eh W (Touch.refl _ _) (by kernel_rfl) (by kernel_rfl) ?_;repeat (go_big_quiet_step (((go_at_call 173;exact Calls.tw _ (Hnull.o _)))))
  refine aS ?_;rintro _ ⟨y,rfl⟩;go_wp2;go_ret;exact⟨eo (by rw[Hf.o,Ho.o,Hz.o,cM,cM]),tb.trans0 y.t⟩
 by_cases h2:k=2
 ·have Hf:=lh (show gL ⟨k,nm,⟨vk,vn,vt⟩,op⟩ m=(decide (nm=S [])&&(decide (op=S [])&&(decide (m=0)&&VD.right ⟨vk,vn,vt⟩))) by unfold gL;rw[ab h1,ae h2]);subst h2;clear h1;rcases ho:decide (nm=S []) with _|_
  ·rw[ho] at hnm;have Ho:=lh ho;clear ho;go_enter dV,dM;go_wp2_with fail;rw[<- HW.o];go_ret;exact⟨eo (by rw[Hf.o,Ho.o,cL]),tb⟩
  rw[ho] at hnm;have Ho:=lh ho;clear ho;rcases hp:decide (op=S []) with _|_
  ·rw[hp] at hop;have Hp:=lh hp;clear hp;go_enter dV,dM;go_wp2_with fail;rw[<- HW.o];go_ret;exact⟨eo (by rw[Hf.o,Ho.o,Hp.o,cL,dq]),tb⟩
  rw[hp] at hop;have Hp:=lh hp;clear hp;rcases hz:decide (m=0) with _|_
  ·rw[hz] at hm0;have Hz:=lh hz;clear hz;go_enter dV,dM;go_wp2_with fail;rw[<- HW.o];go_ret;exact⟨eo (by rw[Hf.o,Ho.o,Hp.o,Hz.o,cL,dq,dq]),tb⟩
  rw[hz] at hm0;have Hz:=lh hz;clear hz;go_enter dV,dM;go_wp2_with fail;rw[<- HW.o];refine(Hright.o _).mono ?_;rintro e w1 ⟨rfl,t1⟩;go_wp2_with fail;go_ret;exact⟨eo (by rw[Hf.o,Ho.o,Hp.o,Hz.o,cM,cM,cM]),tb.trans0 t1⟩
 have hf:gL ⟨k,nm,⟨vk,vn,vt⟩,op⟩ m=((match jd ⟨k,nm,⟨vk,vn,vt⟩,op⟩ with | some r=>decide (m=r.args.length) | none=>false)&&(oq ⟨vk,vn,vt⟩&&(if k=5 then decide (op=S []) else decide (nm=S [])))):=by unfold gL;rw[ab h1,ab h2];rfl
 have q1:(k==1)=false:=by simpa using h1
 have q2:(k==2)=false:=by simpa using h2
 clear h1 h2 Hright;have hpost:∀e w1,kW ⟨k,nm,⟨vk,vn,vt⟩,op⟩ m e w1->∃s0 B0 n0 d0 z0 bo,e=.returned (.tuple #[.agg #[.string s0,.slice B0 n0 d0,.int .i64 z0],.bool bo])/\bo=(match jd ⟨k,nm,⟨vk,vn,vt⟩,op⟩ with | some r=>decide (m=r.args.length) | none=>false):=λe w1 hp=>by
  unfold kW at hp;split at hp
  ·rename_i hv0;exact⟨_,_,_,_,_,_,hp,by rw[hv0]⟩
  rename_i r hv0;obtain⟨B,c',he,_⟩:=hp;exact⟨_,_,_,_,_,_,he,by rw[hv0]⟩
 have Hpost:=lh hpost;have Hf:=lh hf;clear hpost hf;rcases hu:oq ⟨vk,vn,vt⟩ with _|_
 ·rw[hu] at heq Hf;clear hu;go_enter dV,dM;go_wp2_with fail;rw[<- HW.o];refine(Hrule.o _).mono ?_;rintro e w1 ⟨hp,t1⟩;obtain⟨s0,B0,n0,d0,z0,bo,rfl,hbo⟩:=Hpost.o e w1 hp;have Hbo:=lh hbo;clear hp hbo;have g0:=TW.cell ((t1.alloc (.cells #[.string s0,.slice B0 n0 d0,.int .i64 z0] 202)).cell c0 (by simp));have g1:=TW.cell ((t1.alloc (.cells #[.string s0,.slice B0 n0 d0,.int .i64 z0] 202)).cell c1 (by simp));have g2:=TW.cell ((t1.alloc (.cells #[.string s0,.slice B0 n0 d0,.int .i64 z0] 202)).cell c2 (by simp));have g3:=TW.cell ((t1.alloc (.cells #[.string s0,.slice B0 n0 d0,.int .i64 z0] 202)).cell c3 (by simp));have g4:=TW.cell ((t1.alloc (.cells #[.string s0,.slice B0 n0 d0,.int .i64 z0] 202)).cell c4 (by simp));have g5:=TW.cell ((t1.alloc (.cells #[.string s0,.slice B0 n0 d0,.int .i64 z0] 202)).cell c5 (by simp));have g6:=TW.cell ((t1.alloc (.cells #[.string s0,.slice B0 n0 d0,.int .i64 z0] 202)).cell c6 (by simp));have T1:=tb.trans0 (t1.alloc (.cells #[.string s0,.slice B0 n0 d0,.int .i64 z0] 202));clear c0 c1 c2 c3 c4 c5 c6;cases bo
  ·go_wp2;refine eh (w1.alloc (.cells #[.string s0,.slice B0 n0 d0,.int .i64 z0] 202)) (Touch.refl _ _) (by kernel_rfl) (by kernel_rfl) ?_;repeat (go_big_quiet_step (((go_at_call 173;exact Calls.tw _ (Hnull.o _)))))
   refine aS ?_;rintro _ ⟨y,rfl⟩;go_wp2;go_ret;exact⟨eo (by rw[Hf.o,<- Hbo.o,cL]),T1.trans0 y.t⟩
  go_wp2;refine eh (w1.alloc (.cells #[.string s0,.slice B0 n0 d0,.int .i64 z0] 202)) (Touch.refl _ _) (by kernel_rfl) (by kernel_rfl) ?_;repeat (go_big_quiet_step (((go_at_call 173;exact Calls.tw _ (Hnull.o _)))))
  refine aS ?_;rintro _ ⟨y,rfl⟩;go_wp2;go_ret;exact⟨eo (by rw[Hf.o,<- Hbo.o,cM,cL]),T1.trans0 y.t⟩
 rw[hu] at heq Hf;clear hu;by_cases h5:k=5;all_goals
 first
  |have q5:(k==5)=true:=by simpa using h5
   have q5':(k != 5)=false:=by simpa using h5
   rw[ae h5] at Hf;clear h5;rcases ho:decide (op=S []) with _|_;all_goals rw[ho] at hop Hf
  |have q5:(k==5)=false:=by simpa using h5
   have q5':(k != 5)=true:=by simpa using h5
   rw[ab h5] at Hf;clear h5;rcases ho:decide (nm=S []) with _|_;all_goals rw[ho] at hnm Hf
 all_goals
 clear ho;go_enter dV,dM;go_wp2_with fail;rw[<- HW.o];refine(Hrule.o _).mono ?_;rintro e w1 ⟨hp,t1⟩;obtain⟨s0,B0,n0,d0,z0,bo,rfl,hbo⟩:=Hpost.o e w1 hp;have Hbo:=lh hbo;clear hp hbo;have g0:=TW.cell ((t1.alloc (.cells #[.string s0,.slice B0 n0 d0,.int .i64 z0] 202)).cell c0 (by simp));have g1:=TW.cell ((t1.alloc (.cells #[.string s0,.slice B0 n0 d0,.int .i64 z0] 202)).cell c1 (by simp));have g2:=TW.cell ((t1.alloc (.cells #[.string s0,.slice B0 n0 d0,.int .i64 z0] 202)).cell c2 (by simp));have g3:=TW.cell ((t1.alloc (.cells #[.string s0,.slice B0 n0 d0,.int .i64 z0] 202)).cell c3 (by simp));have g4:=TW.cell ((t1.alloc (.cells #[.string s0,.slice B0 n0 d0,.int .i64 z0] 202)).cell c4 (by simp));have g5:=TW.cell ((t1.alloc (.cells #[.string s0,.slice B0 n0 d0,.int .i64 z0] 202)).cell c5 (by simp));have g6:=TW.cell ((t1.alloc (.cells #[.string s0,.slice B0 n0 d0,.int .i64 z0] 202)).cell c6 (by simp));have T1:=tb.trans0 (t1.alloc (.cells #[.string s0,.slice B0 n0 d0,.int .i64 z0] 202));clear c0 c1 c2 c3 c4 c5 c6;cases bo;all_goals
 go_wp2;refine eh (w1.alloc (.cells #[.string s0,.slice B0 n0 d0,.int .i64 z0] 202)) (Touch.refl _ _) (by kernel_rfl) (by kernel_rfl) ?_;repeat (go_big_quiet_step (((go_at_call 173;exact Calls.tw _ (Hnull.o _)))))
 refine aS ?_;rintro _ ⟨y,rfl⟩;go_wp2;go_ret;refine⟨eo ?_,T1.trans0 y.t⟩;first
  |rw[Hf.o,<- Hbo.o,cL]
  |rw[Hf.o,<- Hbo.o,cM,cM]
end
section
open Go.RowKit
attribute [local go_sem ↓] d3 d4
def n8(o c:Int):Bool:=if o=1 then c==0 else if o=2 then c != 0 else if o=3 then decide (c<0) else if o=4 then decide (c<=0) else if o=5 then decide (0<c) else decide (0<=c)
def iw(o:Int)(a b:VD):VD:=if a.kind=0\/b.kind=0 then eQ else iL (n8 o (eU a b))
def kF(a b:VD):VD × Int:=if a.kind=0\/b.kind=0 then (eQ,0) else if 64<a.text.size+b.text.size then (eQ,10) else (⟨2,0,a.text++b.text⟩,0)
def nX:ByteArray:=S [105,115,110,117,108,108]
def wi:ByteArray:=S [108,101,110]
def mY:ByteArray:=S [97,98,115]
def rB:ByteArray:=S [110,111,116]
def jM(d:ND)(v:VD):VD × Int:=
 if d.op=rB then (iL (!v.tru),0)
 else if d.name=nX then (iL (decide (v.kind=0)),0)
 else if v.kind=0 then (v,0)
 else if d.name=wi then (ofV v.text.size,0)
 else if d.name=mY/\0<=v.num then (v,0)
 else fZ 45 (ofV 0) v
theorem A_(o c:Int)(w:World):Calls Tryz.prog 186 #[.int .i64 o,.int .i64 c] w λe w'=>e=.returned (.bool (n8 o c))/\w'=w:=by
 by_cases h1:o=1
 ·subst h1;go_enter Tryz.func186,Tryz.ntmps186;go_wp2_with fail;go_ret;exact⟨rfl,rfl⟩
 by_cases h2:o=2
 ·subst h2;go_enter Tryz.func186,Tryz.ntmps186;go_wp2_with fail;go_ret;exact⟨rfl,rfl⟩
 by_cases h3:o=3
 ·subst h3;go_enter Tryz.func186,Tryz.ntmps186;go_wp2_with fail;go_ret;exact⟨rfl,rfl⟩
 by_cases h4:o=4
 ·subst h4;go_enter Tryz.func186,Tryz.ntmps186;go_wp2_with fail;go_ret;exact⟨rfl,rfl⟩
 by_cases h5:o=5
 ·subst h5;go_enter Tryz.func186,Tryz.ntmps186;go_wp2_with fail;go_ret;exact⟨rfl,rfl⟩
 have q1:(o==1)=false:=by simpa using h1
 have q2:(o==2)=false:=by simpa using h2
 have q3:(o==3)=false:=by simpa using h3
 have q4:(o==4)=false:=by simpa using h4
 have q5:(o==5)=false:=by simpa using h5
 have Hf:=lh (show n8 o c=decide (0<=c) by unfold n8;rw[ab h1,ab h2,ab h3,ab h4,ab h5]);clear h1 h2 h3 h4 h5;go_enter Tryz.func186,Tryz.ntmps186;go_wp2_with fail;go_ret;exact⟨by rw[Hf.o];rfl,rfl⟩
theorem xk(o:Int)(ho:1<=o/\o<=6)(a b:VD)(w:World): Calls Tryz.prog 152 #[.int .i64 o,a.val,b.val] w λe w'=>e=.returned (iw o a b).val/\Touch [] w w':=by
 have hcmp:=λw'=>lD a b w';obtain⟨k1,n1,s1⟩:=a;obtain⟨k2,n2,s2⟩:=b;dsimp only[VD.val] at hcmp ⊢;have t0:=(((Touch.refl [] w).alloc (.cells #[.int .i64 k1,.int .i64 n1,.string s1] 31)).alloc (.cells #[.int .i64 k2,.int .i64 n2,.string s2] 31)).alloc (.cells #[.int .i64 0,.int .i64 0,.string ⟨#[]⟩] 31);have hb1:=(((Touch.refl [] (w.alloc (.cells #[.int .i64 k1,.int .i64 n1,.string s1] 31))).alloc (.cells #[.int .i64 k2,.int .i64 n2,.string s2] 31)).alloc (.cells #[.int .i64 0,.int .i64 0,.string ⟨#[]⟩] 31)).blk (ah w (.cells #[.int .i64 k1,.int .i64 n1,.string s1] 31)) (by simp);have hb2:=((Touch.refl [] ((w.alloc (.cells #[.int .i64 k1,.int .i64 n1,.string s1] 31)).alloc (.cells #[.int .i64 k2,.int .i64 n2,.string s2] 31))).alloc (.cells #[.int .i64 0,.int .i64 0,.string ⟨#[]⟩] 31)).blk (ah (w.alloc (.cells #[.int .i64 k1,.int .i64 n1,.string s1] 31)) (.cells #[.int .i64 k2,.int .i64 n2,.string s2] 31)) (by simp);have hbr:=ah ((w.alloc (.cells #[.int .i64 k1,.int .i64 n1,.string s1] 31)).alloc (.cells #[.int .i64 k2,.int .i64 n2,.string s2] 31)) (.cells #[.int .i64 0,.int .i64 0,.string ⟨#[]⟩] 31);simp only[World.size_alloc] at hb2 hbr;obtain⟨W,hW⟩:∃W,W=((w.alloc (.cells #[.int .i64 k1,.int .i64 n1,.string s1] 31)).alloc (.cells #[.int .i64 k2,.int .i64 n2,.string s2] 31)).alloc (.cells #[.int .i64 0,.int .i64 0,.string ⟨#[]⟩] 31):=⟨_,rfl⟩;rw[<- hW] at hb1 hb2 hbr t0
 have HW:=lh hW;have Hb1:=lh hb1;have Hb2:=lh hb2;have Hbr:=lh hbr;have T0:=lh t0;have Hnull:=lh λw'=>kY w';have Hof:=lh λn w'=>mR n w';simp only[VD.val,eQ,ofV,S] at Hnull Hof;clear hW hb1 hb2 hbr t0;have Hcmp:=lh hcmp;have Hh:=lh λw'=>A_ o (eU ⟨k1,n1,s1⟩ ⟨k2,n2,s2⟩) w';clear hcmp;obtain⟨o1,o2⟩:=ho;by_cases h3:k1=0
 ·have Hf:=lh (show iw o ⟨k1,n1,s1⟩ ⟨k2,n2,s2⟩=eQ by unfold iw;rw[ae (.inl h3)]);subst h3;go_enter Tryz.func152,Tryz.ntmps152;go_wp2_with fail;rw[<- HW.o];refine(Hnull.o _).mono ?_;rintro e w1 ⟨rfl,u1⟩;obtain⟨a0,a1,a2,_⟩:=ee (u1.blk Hb1.o (by simp));obtain⟨b0,b1,b2,_⟩:=ee (u1.blk Hb2.o (by simp));obtain⟨r0,r1,r2,f0,f1,f2⟩:=ee (u1.blk Hbr.o (by simp));go_wp2_with fail;obtain⟨q1,q2⟩:=fN (u1.blk Hbr.o (by simp)) (.int .i64 0) (.int .i64 0) (.string ⟨#[]⟩);refine aG (ci rfl _ _ (w.heap.size+1+1) _ _ _ _ rfl q1 bA rfl rfl) rfl ⟨?_,(T0.o.trans0 u1).trans q2 (λb hb=>.inr (by simp at hb;omega))⟩;rw[Hf.o];rfl
 have q3:(k1==0)=false:=by simpa using h3
 by_cases h4:k2=0
 ·have Hf:=lh (show iw o ⟨k1,n1,s1⟩ ⟨k2,n2,s2⟩=eQ by unfold iw;rw[ae (.inr h4)]);subst h4;clear h3;go_enter Tryz.func152,Tryz.ntmps152;go_wp2_with fail;rw[<- HW.o];refine(Hnull.o _).mono ?_;rintro e w1 ⟨rfl,u1⟩;obtain⟨a0,a1,a2,_⟩:=ee (u1.blk Hb1.o (by simp));obtain⟨b0,b1,b2,_⟩:=ee (u1.blk Hb2.o (by simp));obtain⟨r0,r1,r2,f0,f1,f2⟩:=ee (u1.blk Hbr.o (by simp));go_wp2_with fail;obtain⟨q1,q2⟩:=fN (u1.blk Hbr.o (by simp)) (.int .i64 0) (.int .i64 0) (.string ⟨#[]⟩);refine aG (ci rfl _ _ (w.heap.size+1+1) _ _ _ _ rfl q1 bA rfl rfl) rfl ⟨?_,(T0.o.trans0 u1).trans q2 (λb hb=>.inr (by simp at hb;omega))⟩;rw[Hf.o];rfl
 have q4:(k2==0)=false:=by simpa using h4
 have hf:iw o ⟨k1,n1,s1⟩ ⟨k2,n2,s2⟩=iL (n8 o (eU ⟨k1,n1,s1⟩ ⟨k2,n2,s2⟩)):=by unfold iw;rw[ab (by rintro(h | h);exact h3 h;exact h4 h)]
 obtain⟨hb,hhb⟩:∃hb,hb=n8 o (eU ⟨k1,n1,s1⟩ ⟨k2,n2,s2⟩):=⟨_,rfl⟩;rw[<- hhb] at Hh hf;have Hf:=lh hf;clear h3 h4 hf hhb;cases hb
 ·go_enter Tryz.func152,Tryz.ntmps152;go_wp2_with fail;rw[<- HW.o];refine(Hcmp.o _).mono ?_;rintro e w1 ⟨rfl,u1⟩;obtain⟨a0,a1,a2,_⟩:=ee (u1.blk Hb1.o (by simp));obtain⟨b0,b1,b2,_⟩:=ee (u1.blk Hb2.o (by simp));obtain⟨r0,r1,r2,f0,f1,f2⟩:=ee (u1.blk Hbr.o (by simp));go_wp2_with fail;clear a0 a1 a2 b0 b1 b2 r0 r1 r2 f0 f1 f2;refine(Hh.o _).mono ?_;rintro e w' ⟨rfl,rfl⟩;obtain⟨a0,a1,a2,_⟩:=ee (u1.blk Hb1.o (by simp));obtain⟨b0,b1,b2,_⟩:=ee (u1.blk Hb2.o (by simp));obtain⟨r0,r1,r2,f0,f1,f2⟩:=ee (u1.blk Hbr.o (by simp));go_wp2_with fail;clear a0 a1 a2 b0 b1 b2 r0 r1 r2 f0 f1 f2;refine(Hof.o 0 _).mono ?_;rintro e w2 ⟨rfl,u2⟩;obtain⟨a0,a1,a2,_⟩:=ee (u2.blk (u1.blk Hb1.o (by simp)) (by simp));obtain⟨b0,b1,b2,_⟩:=ee (u2.blk (u1.blk Hb2.o (by simp)) (by simp));obtain⟨r0,r1,r2,f0,f1,f2⟩:=ee (u2.blk (u1.blk Hbr.o (by simp)) (by simp));go_wp2_with fail;obtain⟨q1,q2⟩:=fN (u2.blk (u1.blk Hbr.o (by simp)) (by simp)) (.int .i64 1) (.int .i64 0) (.string ⟨#[]⟩);refine aG (ci rfl _ _ (w.heap.size+1+1) _ _ _ _ rfl q1 bA rfl rfl) rfl ⟨?_,((T0.o.trans0 u1).trans0 u2).trans q2 (λb hb=>.inr (by simp at hb;omega))⟩;rw[Hf.o];rfl
 go_enter Tryz.func152,Tryz.ntmps152;go_wp2_with fail;rw[<- HW.o];refine(Hcmp.o _).mono ?_;rintro e w1 ⟨rfl,u1⟩;obtain⟨a0,a1,a2,_⟩:=ee (u1.blk Hb1.o (by simp));obtain⟨b0,b1,b2,_⟩:=ee (u1.blk Hb2.o (by simp));obtain⟨r0,r1,r2,f0,f1,f2⟩:=ee (u1.blk Hbr.o (by simp));go_wp2_with fail;clear a0 a1 a2 b0 b1 b2 r0 r1 r2 f0 f1 f2;refine(Hh.o _).mono ?_;rintro e w' ⟨rfl,rfl⟩;obtain⟨a0,a1,a2,_⟩:=ee (u1.blk Hb1.o (by simp));obtain⟨b0,b1,b2,_⟩:=ee (u1.blk Hb2.o (by simp));obtain⟨r0,r1,r2,f0,f1,f2⟩:=ee (u1.blk Hbr.o (by simp));go_wp2_with fail;clear a0 a1 a2 b0 b1 b2 r0 r1 r2 f0 f1 f2;refine(Hof.o 1 _).mono ?_;rintro e w2 ⟨rfl,u2⟩;obtain⟨a0,a1,a2,_⟩:=ee (u2.blk (u1.blk Hb1.o (by simp)) (by simp));obtain⟨b0,b1,b2,_⟩:=ee (u2.blk (u1.blk Hb2.o (by simp)) (by simp));obtain⟨r0,r1,r2,f0,f1,f2⟩:=ee (u2.blk (u1.blk Hbr.o (by simp)) (by simp));go_wp2_with fail;obtain⟨q1,q2⟩:=fN (u2.blk (u1.blk Hbr.o (by simp)) (by simp)) (.int .i64 1) (.int .i64 1) (.string ⟨#[]⟩);refine aG (ci rfl _ _ (w.heap.size+1+1) _ _ _ _ rfl q1 bA rfl rfl) rfl ⟨?_,((T0.o.trans0 u1).trans0 u2).trans q2 (λb hb=>.inr (by simp at hb;omega))⟩;rw[Hf.o];rfl
theorem EW(a b:VD)(ha:a.text.size<=140737000000000)(hb:b.text.size<=140737000000000)(w:World): Calls Tryz.prog 151 #[a.val,b.val] w λe w'=>e=.returned (.tuple #[(kF a b).1.val,.int .i64 (kF a b).2])/\Touch [] w w':=by
 obtain⟨k1,n1,s1⟩:=a;obtain⟨k2,n2,s2⟩:=b;dsimp only[VD.val] at ha hb ⊢;have t0:=(((Touch.refl [] w).alloc (.cells #[.int .i64 k1,.int .i64 n1,.string s1] 31)).alloc (.cells #[.int .i64 k2,.int .i64 n2,.string s2] 31)).alloc (.cells #[.int .i64 0,.int .i64 0,.string ⟨#[]⟩] 31);have hb1:=(((Touch.refl [] (w.alloc (.cells #[.int .i64 k1,.int .i64 n1,.string s1] 31))).alloc (.cells #[.int .i64 k2,.int .i64 n2,.string s2] 31)).alloc (.cells #[.int .i64 0,.int .i64 0,.string ⟨#[]⟩] 31)).blk (ah w (.cells #[.int .i64 k1,.int .i64 n1,.string s1] 31)) (by simp);have hb2:=((Touch.refl [] ((w.alloc (.cells #[.int .i64 k1,.int .i64 n1,.string s1] 31)).alloc (.cells #[.int .i64 k2,.int .i64 n2,.string s2] 31))).alloc (.cells #[.int .i64 0,.int .i64 0,.string ⟨#[]⟩] 31)).blk (ah (w.alloc (.cells #[.int .i64 k1,.int .i64 n1,.string s1] 31)) (.cells #[.int .i64 k2,.int .i64 n2,.string s2] 31)) (by simp);have hbr:=ah ((w.alloc (.cells #[.int .i64 k1,.int .i64 n1,.string s1] 31)).alloc (.cells #[.int .i64 k2,.int .i64 n2,.string s2] 31)) (.cells #[.int .i64 0,.int .i64 0,.string ⟨#[]⟩] 31);simp only[World.size_alloc] at hb2 hbr;obtain⟨W,hW⟩:∃W,W=((w.alloc (.cells #[.int .i64 k1,.int .i64 n1,.string s1] 31)).alloc (.cells #[.int .i64 k2,.int .i64 n2,.string s2] 31)).alloc (.cells #[.int .i64 0,.int .i64 0,.string ⟨#[]⟩] 31):=⟨_,rfl⟩;rw[<- hW] at hb1 hb2 hbr t0;have HW:=lh hW;have Hb1:=lh hb1;have Hb2:=lh hb2;have Hbr:=lh hbr;have T0:=lh t0
 have Hnull:=lh λw'=>kY w';have Hof:=lh λn w'=>mR n w';simp only[VD.val,eQ,ofV,S] at Hnull Hof;clear hW hb1 hb2 hbr t0;have Htx:=lh λs w'=>DG s w';simp only[VD.val] at Htx;by_cases h3:k1=0
 ·have Hf:=lh (show kF ⟨k1,n1,s1⟩ ⟨k2,n2,s2⟩=(eQ,0) by unfold kF;rw[ae (.inl h3)]);subst h3;go_enter Tryz.func151,Tryz.ntmps151;go_wp2_with fail;rw[<- HW.o];refine(Hnull.o _).mono ?_;rintro e w1 ⟨rfl,u1⟩;obtain⟨a0,a1,a2,_⟩:=ee (u1.blk Hb1.o (by simp));obtain⟨b0,b1,b2,_⟩:=ee (u1.blk Hb2.o (by simp));obtain⟨r0,r1,r2,f0,f1,f2⟩:=ee (u1.blk Hbr.o (by simp));go_wp2_with fail;obtain⟨q1,q2⟩:=fN (u1.blk Hbr.o (by simp)) (.int .i64 0) (.int .i64 0) (.string ⟨#[]⟩);obtain⟨d0,d1,d2,_⟩:=ee q1;refine aG (v:=.tuple #[.agg #[.int .i64 0,.int .i64 0,.string ⟨#[]⟩],.int .i64 (0)]) (by simp[results,Tryz.results151,go_sem,d0,d1,d2]) rfl ⟨?_,(T0.o.trans0 u1).trans q2 (λb hb=>.inr (by simp at hb;omega))⟩;rw[Hf.o];rfl
 have q3:(k1==0)=false:=by simpa using h3
 by_cases h4:k2=0
 ·have Hf:=lh (show kF ⟨k1,n1,s1⟩ ⟨k2,n2,s2⟩=(eQ,0) by unfold kF;rw[ae (.inr h4)]);subst h4;clear h3;go_enter Tryz.func151,Tryz.ntmps151;go_wp2_with fail;rw[<- HW.o];refine(Hnull.o _).mono ?_;rintro e w1 ⟨rfl,u1⟩;obtain⟨a0,a1,a2,_⟩:=ee (u1.blk Hb1.o (by simp));obtain⟨b0,b1,b2,_⟩:=ee (u1.blk Hb2.o (by simp));obtain⟨r0,r1,r2,f0,f1,f2⟩:=ee (u1.blk Hbr.o (by simp));go_wp2_with fail;obtain⟨q1,q2⟩:=fN (u1.blk Hbr.o (by simp)) (.int .i64 0) (.int .i64 0) (.string ⟨#[]⟩);obtain⟨d0,d1,d2,_⟩:=ee q1;refine aG (v:=.tuple #[.agg #[.int .i64 0,.int .i64 0,.string ⟨#[]⟩],.int .i64 (0)]) (by simp[results,Tryz.results151,go_sem,d0,d1,d2]) rfl ⟨?_,(T0.o.trans0 u1).trans q2 (λb hb=>.inr (by simp at hb;omega))⟩;rw[Hf.o];rfl
 have q4:(k2==0)=false:=by simpa using h4
 have hne:¬(k1=0\/k2=0):=by rintro(h | h);exact h3 h;exact h4 h
 clear h3 h4;by_cases h6:64<s1.size+s2.size
 ·have Hf:=lh (show kF ⟨k1,n1,s1⟩ ⟨k2,n2,s2⟩=(eQ,10) by unfold kF;rw[ab hne,ae h6]);have h6I:(64:Int)<(s1.size:Int)+(s2.size:Int):=by omega
  go_enter Tryz.func151,Tryz.ntmps151;go_wp2_with fail;rw[<- HW.o];have q1:=Hbr.o;have q2:=Touch.refl [w.heap.size+1+1] W;obtain⟨d0,d1,d2,_⟩:=ee q1;refine aG (v:=.tuple #[.agg #[.int .i64 0,.int .i64 0,.string ⟨#[]⟩],.int .i64 (10)]) (by simp[results,Tryz.results151,go_sem,d0,d1,d2]) rfl ⟨?_,T0.o.trans q2 (λb hb=>.inr (by simp at hb;omega))⟩;rw[Hf.o];rfl
 have Hf:=lh (show kF ⟨k1,n1,s1⟩ ⟨k2,n2,s2⟩=(⟨2,0,s1++s2⟩,0) by unfold kF;rw[ab hne,ab h6]);have h6I:¬(64:Int)<(s1.size:Int)+(s2.size:Int):=by omega
 go_enter Tryz.func151,Tryz.ntmps151;go_wp2_with fail;rw[<- HW.o];refine(Htx.o _ _).mono ?_;rintro e w1 ⟨rfl,u1⟩;obtain⟨a0,a1,a2,_⟩:=ee (u1.blk Hb1.o (by simp));obtain⟨b0,b1,b2,_⟩:=ee (u1.blk Hb2.o (by simp));obtain⟨r0,r1,r2,f0,f1,f2⟩:=ee (u1.blk Hbr.o (by simp));go_wp2_with fail;obtain⟨q1,q2⟩:=fN (u1.blk Hbr.o (by simp)) (.int .i64 2) (.int .i64 0) (.string (s1++s2));obtain⟨d0,d1,d2,_⟩:=ee q1;refine aG (v:=.tuple #[.agg #[.int .i64 2,.int .i64 0,.string (s1++s2)],.int .i64 (0)]) (by simp[results,Tryz.results151,go_sem,d0,d1,d2]) rfl ⟨?_,(T0.o.trans0 u1).trans q2 (λb hb=>.inr (by simp at hb;omega))⟩;rw[Hf.o]
end
section
open Go.RowKit
attribute [local go_sem ↓] d3 d4
theorem mD(x:ByteArray)(l:List UInt8):(x.toList==l)=decide (x=S l):=by have:=jZ x (S l);rwa[pp] at this
theorem zQ(x:XC)(v:VD)(w:World): Calls Tryz.prog 149 #[x.val,v.val] w λe w'=>e=.returned (.tuple #[(jM x.nd v).1.val,.int .i64 (jM x.nd v).2])/\Touch [] w w':=by
 have htr:=λw'=>ow v w';have har:=λw'=>tj 45 (by simp) (ofV 0) v w';obtain⟨tr,htre⟩:∃tr,tr=v.tru:=⟨_,rfl⟩;rw[<- htre] at htr;obtain⟨ar,hare⟩:∃ar,ar=fZ 45 (ofV 0) v:=⟨_,rfl⟩;rw[<- hare] at har;obtain⟨⟨k,nm,⟨vk,vn,vt⟩,op⟩,A,m,c⟩:=x;obtain⟨k1,n1,s1⟩:=v;dsimp only[XC.val,VD.val];have t0:=(((Touch.refl [] w).alloc (.cells #[.int .i64 k,.string nm,.int .i64 vk,.int .i64 vn,.string vt,.string op,.slice A m c] 44)).alloc (.cells #[.int .i64 k1,.int .i64 n1,.string s1] 31)).alloc (.cells #[.int .i64 0,.int .i64 0,.string ⟨#[]⟩] 31);have hb1:=(((Touch.refl [] (w.alloc (.cells #[.int .i64 k,.string nm,.int .i64 vk,.int .i64 vn,.string vt,.string op,.slice A m c] 44))).alloc (.cells #[.int .i64 k1,.int .i64 n1,.string s1] 31)).alloc (.cells #[.int .i64 0,.int .i64 0,.string ⟨#[]⟩] 31)).blk (ah w (.cells #[.int .i64 k,.string nm,.int .i64 vk,.int .i64 vn,.string vt,.string op,.slice A m c] 44)) (by simp);have hb2:=((Touch.refl [] ((w.alloc (.cells #[.int .i64 k,.string nm,.int .i64 vk,.int .i64 vn,.string vt,.string op,.slice A m c] 44)).alloc (.cells #[.int .i64 k1,.int .i64 n1,.string s1] 31))).alloc (.cells #[.int .i64 0,.int .i64 0,.string ⟨#[]⟩] 31)).blk (ah (w.alloc (.cells #[.int .i64 k,.string nm,.int .i64 vk,.int .i64 vn,.string vt,.string op,.slice A m c] 44)) (.cells #[.int .i64 k1,.int .i64 n1,.string s1] 31)) (by simp)
 have hbr:=ah ((w.alloc (.cells #[.int .i64 k,.string nm,.int .i64 vk,.int .i64 vn,.string vt,.string op,.slice A m c] 44)).alloc (.cells #[.int .i64 k1,.int .i64 n1,.string s1] 31)) (.cells #[.int .i64 0,.int .i64 0,.string ⟨#[]⟩] 31);simp only[World.size_alloc] at hb2 hbr;obtain⟨W,hW⟩:∃W,W=((w.alloc (.cells #[.int .i64 k,.string nm,.int .i64 vk,.int .i64 vn,.string vt,.string op,.slice A m c] 44)).alloc (.cells #[.int .i64 k1,.int .i64 n1,.string s1] 31)).alloc (.cells #[.int .i64 0,.int .i64 0,.string ⟨#[]⟩] 31):=⟨_,rfl⟩;rw[<- hW] at hb1 hb2 hbr t0;have HW:=lh hW;have Hb1:=lh hb1;have Hb2:=lh hb2;have Hbr:=lh hbr;have T0:=lh t0;have Hnull:=lh λw'=>kY w';have Hof:=lh λn w'=>mR n w';simp only[VD.val,eQ,ofV,S] at Hnull Hof;clear hW hb1 hb2 hbr t0;simp only[VD.val] at htr;simp only[VD.val,ofV,S] at har;have HbT:=lh λw'=>nU true w';have HbF:=lh λw'=>nU false w';simp only[iL,if_true,Bool.false_eq_true,if_false,VD.val,ofV,S] at HbT HbF;have Htr:=lh htr;have q1:=mD op [110,111,116];have q2:=mD nm [105,115,110,117,108,108];have q3:=mD nm [108,101,110];have q4:=mD nm [97,98,115];have hst:jM ⟨k,nm,⟨vk,vn,vt⟩,op⟩ ⟨k1,n1,s1⟩=(if op=rB then (iL (!tr),0) else if nm=nX then (iL (decide (k1=0)),0) else if k1=0 then (⟨k1,n1,s1⟩,0) else if nm=wi then (ofV s1.size,0) else if nm=mY/\0<=n1 then (⟨k1,n1,s1⟩,0) else ar):=by rw[htre,hare];rfl
 clear htre hare htr;by_cases h1:op=rB
 ·rw[aF (p:=op=S [110,111,116]) h1] at q1;rw[ae h1] at hst;have Hf:=lh hst;clear hst h1 har;cases tr
  ·simp only[iL,Bool.not_false,if_true] at Hf;go_enter Tryz.func149,d5;go_wp2_with fail;rw[<- HW.o];refine(Htr.o _).mono ?_;rintro e w1 ⟨rfl,u1⟩;obtain⟨a0,a1,a2,a3,a4,a5,a6,_⟩:=gG (u1.blk Hb1.o (by simp));obtain⟨b0,b1,b2,_⟩:=ee (u1.blk Hb2.o (by simp));obtain⟨r0,r1,r2,f0,f1,f2⟩:=ee (u1.blk Hbr.o (by simp));go_wp2_with fail;clear a0 a1 a2 b0 b1 b2 r0 r1 r2 f0 f1 f2 a3 a4 a5 a6;refine(HbT.o _).mono ?_;rintro e w2 ⟨rfl,u2⟩;obtain⟨a0,a1,a2,a3,a4,a5,a6,_⟩:=gG (u2.blk (u1.blk Hb1.o (by simp)) (by simp));obtain⟨b0,b1,b2,_⟩:=ee (u2.blk (u1.blk Hb2.o (by simp)) (by simp));obtain⟨r0,r1,r2,f0,f1,f2⟩:=ee (u2.blk (u1.blk Hbr.o (by simp)) (by simp));go_wp2_with fail;obtain⟨q1,q2⟩:=fN (u2.blk (u1.blk Hbr.o (by simp)) (by simp)) (.int .i64 1) (.int .i64 1) (.string ⟨#[]⟩);obtain⟨d0,d1,d2,_⟩:=ee q1;refine aG (v:=.tuple #[.agg #[.int .i64 1,.int .i64 1,.string ⟨#[]⟩],.int .i64 (0)]) (by simp[results,Tryz.results149,go_sem,d0,d1,d2]) rfl ⟨?_,((T0.o.trans0 u1).trans0 u2).trans q2 (λb hb=>.inr (by simp at hb;omega))⟩;rw[Hf.o];rfl
  simp only[iL,Bool.not_true,Bool.false_eq_true,if_false] at Hf;go_enter Tryz.func149,d5;go_wp2_with fail;rw[<- HW.o];refine(Htr.o _).mono ?_;rintro e w1 ⟨rfl,u1⟩;obtain⟨a0,a1,a2,a3,a4,a5,a6,_⟩:=gG (u1.blk Hb1.o (by simp));obtain⟨b0,b1,b2,_⟩:=ee (u1.blk Hb2.o (by simp));obtain⟨r0,r1,r2,f0,f1,f2⟩:=ee (u1.blk Hbr.o (by simp));go_wp2_with fail;clear a0 a1 a2 b0 b1 b2 r0 r1 r2 f0 f1 f2 a3 a4 a5 a6;refine(HbF.o _).mono ?_;rintro e w2 ⟨rfl,u2⟩;obtain⟨a0,a1,a2,a3,a4,a5,a6,_⟩:=gG (u2.blk (u1.blk Hb1.o (by simp)) (by simp));obtain⟨b0,b1,b2,_⟩:=ee (u2.blk (u1.blk Hb2.o (by simp)) (by simp));obtain⟨r0,r1,r2,f0,f1,f2⟩:=ee (u2.blk (u1.blk Hbr.o (by simp)) (by simp));go_wp2_with fail;obtain⟨q1,q2⟩:=fN (u2.blk (u1.blk Hbr.o (by simp)) (by simp)) (.int .i64 1) (.int .i64 0) (.string ⟨#[]⟩);obtain⟨d0,d1,d2,_⟩:=ee q1;refine aG (v:=.tuple #[.agg #[.int .i64 1,.int .i64 0,.string ⟨#[]⟩],.int .i64 (0)]) (by simp[results,Tryz.results149,go_sem,d0,d1,d2]) rfl ⟨?_,((T0.o.trans0 u1).trans0 u2).trans q2 (λb hb=>.inr (by simp at hb;omega))⟩;rw[Hf.o];rfl
 rw[aC (p:=op=S [110,111,116]) h1] at q1;rw[ab h1] at hst;clear h1 Htr;by_cases h2:nm=nX
 ·rw[aF (p:=nm=S [105,115,110,117,108,108]) h2] at q2;rw[ae h2] at hst;have Hf:=lh hst;clear hst h2 har q3 q4;by_cases h5:k1=0
  ·subst h5;simp only[decide_true,iL,if_true] at Hf;go_enter Tryz.func149,d5;go_wp2_with fail;rw[<- HW.o];refine(HbT.o _).mono ?_;rintro e w1 ⟨rfl,u1⟩;obtain⟨a0,a1,a2,a3,a4,a5,a6,_⟩:=gG (u1.blk Hb1.o (by simp));obtain⟨b0,b1,b2,_⟩:=ee (u1.blk Hb2.o (by simp));obtain⟨r0,r1,r2,f0,f1,f2⟩:=ee (u1.blk Hbr.o (by simp));go_wp2_with fail;obtain⟨q1,q2⟩:=fN (u1.blk Hbr.o (by simp)) (.int .i64 1) (.int .i64 1) (.string ⟨#[]⟩);obtain⟨d0,d1,d2,_⟩:=ee q1;refine aG (v:=.tuple #[.agg #[.int .i64 1,.int .i64 1,.string ⟨#[]⟩],.int .i64 (0)]) (by simp[results,Tryz.results149,go_sem,d0,d1,d2]) rfl ⟨?_,(T0.o.trans0 u1).trans q2 (λb hb=>.inr (by simp at hb;omega))⟩;rw[Hf.o];rfl
  have q5:(k1==0)=false:=by simpa using h5
  simp only[h5,decide_false,iL,Bool.false_eq_true,if_false] at Hf;go_enter Tryz.func149,d5;go_wp2_with fail;rw[<- HW.o];refine(HbF.o _).mono ?_;rintro e w1 ⟨rfl,u1⟩;obtain⟨a0,a1,a2,a3,a4,a5,a6,_⟩:=gG (u1.blk Hb1.o (by simp));obtain⟨b0,b1,b2,_⟩:=ee (u1.blk Hb2.o (by simp));obtain⟨r0,r1,r2,f0,f1,f2⟩:=ee (u1.blk Hbr.o (by simp));go_wp2_with fail;obtain⟨q1,q2⟩:=fN (u1.blk Hbr.o (by simp)) (.int .i64 1) (.int .i64 0) (.string ⟨#[]⟩);obtain⟨d0,d1,d2,_⟩:=ee q1;refine aG (v:=.tuple #[.agg #[.int .i64 1,.int .i64 0,.string ⟨#[]⟩],.int .i64 (0)]) (by simp[results,Tryz.results149,go_sem,d0,d1,d2]) rfl ⟨?_,(T0.o.trans0 u1).trans q2 (λb hb=>.inr (by simp at hb;omega))⟩;rw[Hf.o];rfl
 rw[aC (p:=nm=S [105,115,110,117,108,108]) h2] at q2;rw[ab h2] at hst;clear h2 HbT HbF;by_cases h5:k1=0
 ·rw[ae h5] at hst;have Hf:=lh hst;clear hst har;subst h5;go_enter Tryz.func149,d5;go_wp2_with fail;have q1:=ah ((w.alloc (.cells #[.int .i64 k,.string nm,.int .i64 vk,.int .i64 vn,.string vt,.string op,.slice A m c] 44)).alloc (.cells #[.int .i64 0,.int .i64 n1,.string s1] 31)) (.cells #[.int .i64 0,.int .i64 n1,.string s1] 31);simp only[World.size_alloc] at q1;obtain⟨d0,d1,d2,_⟩:=ee q1;refine aG (v:=.tuple #[.agg #[.int .i64 0,.int .i64 n1,.string s1],.int .i64 (0)]) (by simp[results,Tryz.results149,go_sem,d0,d1,d2]) rfl ⟨?_,(((Touch.refl [] w).alloc (.cells #[.int .i64 k,.string nm,.int .i64 vk,.int .i64 vn,.string vt,.string op,.slice A m c] 44)).alloc (.cells #[.int .i64 0,.int .i64 n1,.string s1] 31)).alloc _⟩;rw[Hf.o]
 have q5:(k1==0)=false:=by simpa using h5
 rw[ab h5] at hst;clear h5;by_cases h3:nm=wi
 ·rw[aF (p:=nm=S [108,101,110]) h3] at q3;rw[ae h3] at hst;have Hf:=lh hst;clear hst h3 har q4;go_enter Tryz.func149,d5;go_wp2_with fail;rw[<- HW.o];refine(Hof.o _ _).mono ?_;rintro e w1 ⟨rfl,u1⟩;obtain⟨a0,a1,a2,a3,a4,a5,a6,_⟩:=gG (u1.blk Hb1.o (by simp));obtain⟨b0,b1,b2,_⟩:=ee (u1.blk Hb2.o (by simp));obtain⟨r0,r1,r2,f0,f1,f2⟩:=ee (u1.blk Hbr.o (by simp));go_wp2_with fail;obtain⟨q1,q2⟩:=fN (u1.blk Hbr.o (by simp)) (.int .i64 1) (.int .i64 s1.size) (.string ⟨#[]⟩);obtain⟨d0,d1,d2,_⟩:=ee q1;refine aG (v:=.tuple #[.agg #[.int .i64 1,.int .i64 s1.size,.string ⟨#[]⟩],.int .i64 (0)]) (by simp[results,Tryz.results149,go_sem,d0,d1,d2]) rfl ⟨?_,(T0.o.trans0 u1).trans q2 (λb hb=>.inr (by simp at hb;omega))⟩;rw[Hf.o];rfl
 rw[aC (p:=nm=S [108,101,110]) h3] at q3;rw[ab h3] at hst;clear h3;by_cases h4:nm=mY/\0<=n1
 ·rw[ae h4] at hst;obtain⟨h4a,h4b⟩:=h4;rw[aF (p:=nm=S [97,98,115]) h4a] at q4;have Hf:=lh hst;clear hst h4a har;go_enter Tryz.func149,d5;go_wp2_with fail;have q1:=ah ((w.alloc (.cells #[.int .i64 k,.string nm,.int .i64 vk,.int .i64 vn,.string vt,.string op,.slice A m c] 44)).alloc (.cells #[.int .i64 k1,.int .i64 n1,.string s1] 31)) (.cells #[.int .i64 k1,.int .i64 n1,.string s1] 31);simp only[World.size_alloc] at q1;obtain⟨d0,d1,d2,_⟩:=ee q1;refine aG (v:=.tuple #[.agg #[.int .i64 k1,.int .i64 n1,.string s1],.int .i64 (0)]) (by simp[results,Tryz.results149,go_sem,d0,d1,d2]) rfl ⟨?_,(((Touch.refl [] w).alloc (.cells #[.int .i64 k,.string nm,.int .i64 vk,.int .i64 vn,.string vt,.string op,.slice A m c] 44)).alloc (.cells #[.int .i64 k1,.int .i64 n1,.string s1] 31)).alloc _⟩;rw[Hf.o]
 rw[ab h4] at hst;have Har:=lh har;have Hf:=lh hst;clear hst har;have td:=(Touch.refl [] W).drew;obtain⟨v0,v1,v2,_⟩:=ee (td.blk Hb2.o (by simp));obtain⟨⟨rk,rn,rs⟩,rx⟩:=ar;simp only at Har Hf;by_cases h4a:nm=mY;all_goals
 first
  |have h4b:¬0<=n1:=λh=>h4 ⟨h4a,h⟩;rw[aF (p:=nm=S [97,98,115]) h4a] at q4
  |rw[aC (p:=nm=S [97,98,115]) h4a] at q4
 clear h4 h4a;go_enter Tryz.func149,d5;go_wp2_with fail;rw[<- HW.o];refine wp_region_held_drew (S:=λw'=>w'.cell? ⟨w.heap.size+1,0,none⟩=some (.int .i64 k1)/\w'.cell? ⟨w.heap.size+1,1,none⟩=some (.int .i64 n1)/\w'.cell? ⟨w.heap.size+1,2,none⟩=some (.string s1)) (by kernel_rfl) ⟨v0,v1,v2⟩ (λhHeld=> ?_);refine fh (i:=1) (d:=46) (v:= ?_) rfl rfl (by kernel_rfl) (by kernel_rfl) (by kernel_rfl) (λ_ _ _ h=>h) (bI ⟨by rfl, ?_⟩) (by assumption) ?_;rotate_left
 ·intro w hSw;(try dsimp only at hSw);go_simp;(try with_reducible rfl)
 try go_frame
 refine dw (rs:=[0]) (by kernel_rfl) (by simp) ?_;refine cZ rfl (λK hK=> ?_) dm;go_simp;go_at_call 11;refine(Hof.o 0 _).mono ?_;rintro e w1 ⟨rfl,u1⟩;have v0':=u1.cell v0 (by simp);have v1':=u1.cell v1 (by simp);have v2':=u1.cell v2 (by simp);(try go_wp2_with fail);refine hK.out _ _ ⟨v0',v1',v2'⟩ (λ_hH=> ?_);clear hK K;try go_frame
 refine dw (rs:=[2]) (by kernel_rfl) (by simp) ?_;refine cZ rfl (λK hK=> ?_) dm;go_simp;go_at_call 153;refine(Har.o _).mono ?_;rintro e w2 ⟨rfl,u2⟩;have v0'':=u2.cell v0' (by simp);have v1'':=u2.cell v1' (by simp);have v2'':=u2.cell v2' (by simp);(try go_wp2_with fail);refine hK.out _ _ ⟨v0'',v1'',v2''⟩ (λ_hH=> ?_);clear hK K;try go_frame
 refine fh (i:=3) (d:=48) (v:= ?_) rfl rfl (by kernel_rfl) (by kernel_rfl) (by kernel_rfl) (λ_ _ _ h=>h) (bI ⟨by rfl, ?_⟩) (by assumption) ?_;rotate_left
 ·intro w hSw;(try dsimp only at hSw);go_simp;(try with_reducible rfl)
 try go_frame
 refine fh (i:=4) (d:=49) (v:= ?_) rfl rfl (by kernel_rfl) (by kernel_rfl) (by kernel_rfl) (λ_ _ _ h=>h) (bI ⟨by rfl, ?_⟩) (by assumption) ?_;rotate_left
 ·intro w hSw;(try dsimp only at hSw);go_simp;(try with_reducible rfl)
 try go_frame
 have hbr2:=(td.trans0 (u1.trans0 u2)).blk Hbr.o (by simp);obtain⟨r0,r1,r2,f0,f1,f2⟩:=ee hbr2;obtain⟨q1,q2⟩:=fN hbr2 (.int .i64 rk) (.int .i64 rn) (.string rs);have z0:=q2.cell v0'' (by simp only[List.mem_singleton];omega);have z1:=q2.cell v1'' (by simp only[List.mem_singleton];omega);have z2:=q2.cell v2'' (by simp only[List.mem_singleton];omega);refine dw (rs:=[5]) (by kernel_rfl) (by simp) ?_;refine cZ rfl (λK hK=> ?_) dm;go_simp;(try go_wp2_with fail);refine hK.out _ _ ⟨z0,z1,z2⟩ (λ_hH=> ?_);clear hK K;try go_frame
 refine fh (i:=6) (d:=5) (v:= ?_) rfl rfl (by kernel_rfl) (by kernel_rfl) (by kernel_rfl) (λ_ _ _ h=>h) (bI ⟨by rfl, ?_⟩) (by assumption) ?_;rotate_left
 ·intro w hSw;(try dsimp only at hSw);go_simp;(try with_reducible rfl)
 try go_frame
 refine wpAnyH_done (by kernel_rfl) ?_ _;go_wp2_with fail;obtain⟨d0,d1,d2,_⟩:=ee q1;refine aG (v:=.tuple #[.agg #[.int .i64 rk,.int .i64 rn,.string rs],.int .i64 rx]) (by simp[results,Tryz.results149,go_sem,d0,d1,d2]) rfl ⟨?_,(T0.o.trans0 (td.trans0 (u1.trans0 u2))).trans q2 (λb hb=>.inr (by simp at hb;omega))⟩;rw[Hf.o]
end
section
open Go.RowKit
theorem Bq(ws ts:List Int)(both:Int)(k:Nat)(h1:k<ws.length)(h2:k<ts.length): fR (ws.drop k) (ts.drop k) both=(if ts[k]=0\/ws[k]=0 then fR (ws.drop (k+1)) (ts.drop (k+1)) both else if ws[k] ≠ -1/\ws[k]≠ts[k]\/ws[k] = -1/\both≠0/\both≠ts[k] then (0,false) else if ws[k] = -1 then fR (ws.drop (k+1)) (ts.drop (k+1)) ts[k] else fR (ws.drop (k+1)) (ts.drop (k+1)) both):=by rw[bj h1,bj h2];rfl
theorem Ck(A B:Option Addr)(c1 c2 n:Nat)(ws ts:List Int)(hn:ws.length=n)(hm:ts.length=n)(w:World)(h:jj w A ws)(h2:jj w B ts)(hl:n<=140737000000000): Calls Tryz.prog 146 #[.slice A n c1,.slice B n c2] w λe w'=>e=.returned (.tuple #[.int .i64 (fR ws ts 0).1,.bool (fR ws ts 0).2])/\w'=w:=by
 go_enter Tryz.func146,Tryz.ntmps146;have Hn:=lh hn;have Hm:=lh hm;clear hn hm;go_wp2;go_loop [6,11] (λb i=>∃(k:Nat)(both:Int),k<=n/\i=.int .i64 k/\b=.int .i64 both/\Ga (fR ws ts 0=fR (ws.drop k) (ts.drop k) both)) (λ_ i=>n-(intOf i).toNat)
 case atStart=>exact⟨0,0,by omega,rfl,rfl,lh rfl⟩
 case round =>
 obtain⟨k,both,hk,rfl,rfl,He⟩:=hrel;by_cases hlt:k<n
 ·have hl1:k<ws.length:=by have:=Hn.o;omega
  have hl2:k<ts.length:=by have:=Hm.o;omega
  obtain⟨ad,rfl,hc1⟩:=h.at_ k hl1;obtain⟨bd,rfl,hc2⟩:=h2.at_ k hl2;have hst:=Bq ws ts both k hl1 hl2;rw[<- He.o] at hst;obtain⟨t,ht⟩:∃t,t=ts[k]:=⟨_,rfl⟩;obtain⟨v,hv⟩:∃v,v=ws[k]:=⟨_,rfl⟩;rw[<- ht] at hst hc2;rw[<- hv] at hst hc1;have hkI:(k:Int)<(n:Int):=by omega
  clear ht hv He;by_cases e1:t=0
  ·have Hs:=lh (show fR ws ts 0=fR (ws.drop (k+1)) (ts.drop (k+1)) both by rw[hst,ae (.inl e1)]);subst e1;clear hst;go_wp2;go_round
   case rel=>exact⟨k+1,both,by omega,by go_num,rfl,Hs⟩
   case measure=>simp[intOf];omega
  have b1:(t==0)=false:=by simpa using e1
  by_cases e2:v=0
  ·have Hs:=lh (show fR ws ts 0=fR (ws.drop (k+1)) (ts.drop (k+1)) both by rw[hst,ae (.inr e2)]);subst e2;clear hst e1;go_wp2;go_round
   case rel=>exact⟨k+1,both,by omega,by go_num,rfl,Hs⟩
   case measure=>simp[intOf];omega
  have b2:(v==0)=false:=by simpa using e2
  rw[ab (by rintro(h | h);exact e1 h;exact e2 h)] at hst;by_cases e3:v = -1
  ·subst e3;by_cases e4:both=0
   ·have Hs:=lh (show fR ws ts 0=fR (ws.drop (k+1)) (ts.drop (k+1)) t by rw[hst,ab (by simp[e4]),ae rfl]);subst e4;clear hst e1 e2;go_wp2;go_round
    case rel=>exact⟨k+1,t,by omega,by go_num,rfl,Hs⟩
    case measure=>simp[intOf];omega
   have b4:(both != 0)=true:=by simpa using e4
   by_cases e5:both=t
   ·have Hs:=lh (show fR ws ts 0=fR (ws.drop (k+1)) (ts.drop (k+1)) t by rw[hst,ab (by simp[e5]),ae rfl]);subst e5;clear hst e1 e2 e4;go_wp2;go_round
    case rel=>exact⟨k+1,_,by omega,by go_num,rfl,Hs⟩
    case measure=>simp[intOf];omega
   have b5:(both != t)=true:=by simpa using e5
   have Hs:=lh (show fR ws ts 0=(0,false) by rw[hst,ae (.inr ⟨rfl,e4,e5⟩)]);clear hst e1 e2 e4 e5;go_wp2;go_ret2;exact⟨by rw[Hs.o];rfl,rfl⟩
  have b3:(v == -1)=false:=by simpa using e3
  have b3':(v != -1)=true:=by simpa using e3
  by_cases e6:v=t
  ·have Hs:=lh (show fR ws ts 0=fR (ws.drop (k+1)) (ts.drop (k+1)) both by rw[hst,ab (by simp[e6];intro h;exact absurd (e6.trans h) e3),ab e3]);subst e6;clear hst e1 e2 e3;go_wp2;go_round
   case rel=>exact⟨k+1,both,by omega,by go_num,rfl,Hs⟩
   case measure=>simp[intOf];omega
  have b6:(v != t)=true:=by simpa using e6
  have Hs:=lh (show fR ws ts 0=(0,false) by rw[hst,ae (.inl ⟨e3,e6⟩)]);clear hst e1 e2 e3 e6;go_wp2;go_ret2;exact⟨by rw[Hs.o];rfl,rfl⟩
 obtain rfl:k=n:=by omega
 have Hs:=lh (show fR ws ts 0=(both,true) by rw[He.o,b_ (by have:=Hn.o;omega),b_ (by have:=Hm.o;omega)];rfl);go_wp2;go_ret2;exact⟨by rw[Hs.o];rfl,rfl⟩
end
section
open Go.RowKit
theorem qi(n:Nat):∀(e:TX n)(x:XC)(w:World),iJ iX jf n w x e->fj n e<=2000000 -> Calls Tryz.prog 26 #[x.val] w λr w'=>r=.returned (.int .i64 (fj n e))/\Touch [] w w':=by
 induction n with
 |zero=>intro e;exact e.elim
 |succ n ih =>
  intro e x w hx hs
  obtain⟨nd,args⟩:=e
  obtain⟨h1,h2,h3⟩:=hx.args
  have hsum:j7 n args<=2000000:=by have hs':1+j7 n args<=2000000:=hs;omega
  have hlen:=oY n args
  have htk:=wZ n args
  have hfin:fj (n+1) (nd,args)=1+j7 n args:=rfl
  obtain⟨⟨k,nm,⟨vk,vn,vt⟩,op⟩,A,m,c⟩:=x
  dsimp only at h2 h3
  subst h2
  dsimp only[XC.val]
  have Htk:=lh htk;have Hfin:=lh hfin;have Ih:=lh ih
  have t0:=(Touch.refl [] w).alloc (.cells #[.int .i64 k,.string nm,.int .i64 vk,.int .i64 vn,.string vt,.string op,.slice A args.length c] 44)
  clear htk hfin ih hx h1 hs
  go_enter Tryz.func26,Tryz.ntmps26
  go_wp2_with fail
  go_loopw [3,9] (λv i wr=>∃j:Nat,j<=args.length/\i=.int .i64 j/\v=.int .i64 ((1+j7 n (args.take j):Nat):Int)/\Touch [] w wr) (λ_ i _=>args.length-(intOf i).toNat)
  case atStart=>exact⟨0,by omega,rfl,by simp[j7],t0⟩
  case round =>
   obtain⟨j,hj,rfl,rfl,ht⟩:=hrel;by_cases hlt:j<args.length
   ·obtain⟨ad,b,off,y,rfl,hadd,hy,hcell⟩:=(h3.touch0 ht).at_ gW j hlt;have hsn:=AR n args j hlt;have hms:=rF (am hlt);have htj:=Htk.o j;have htj1:=Htk.o (j+1);obtain⟨a,hae⟩:∃a,a=args[j]:=⟨_,rfl⟩;rw[<- hae] at hy hsn hms;have ta:=(Touch.refl [] wr).alloc (.cells #[.int .i64 y.nd.kind,.string y.nd.name,.int .i64 y.nd.v.kind,.int .i64 y.nd.v.num,.string y.nd.v.text,.string y.nd.op,.slice y.A y.n y.c] 44);have hc:=lh (Ih.o a y _ (hy.touch0 ta) (by omega));have c0:=hcell 0 _ rfl;have c1:=hcell 1 _ rfl;have c2:=hcell 2 _ rfl;have c3:=hcell 3 _ rfl;have c4:=hcell 4 _ rfl;have c5:=hcell 5 _ rfl;have c6:=hcell 6 _ rfl;rw[aM] at c0;obtain⟨p,hp⟩:∃p,p=j7 n (args.take j):=⟨_,rfl⟩;obtain⟨q,hq⟩:∃q,q=fj n a:=⟨_,rfl⟩;rw[<- hp] at hsn htj ⊢;rw[<- hq] at hsn hms;rw[hsn] at htj1;have Hsn:=lh hsn;rw[<- hq] at hc;clear hsn hae hcell hp hq;obtain⟨⟨k2,nm2,⟨vk2,vn2,vt2⟩,op2⟩,A2,m2,c2'⟩:=y;simp only[XC.val] at hc c0 c1 c2 c3 c4 c5 c6;go_wp2_with fail;refine hc.o.mono ?_;rintro e w1 ⟨rfl,t1⟩;go_wp2_with fail;go_roundw
    case rel=>exact⟨j+1,by omega,by go_num,by rw[Hsn.o];go_num,(ht.trans0 ta).trans0 t1⟩
    case measure=>simp[intOf];omega
   obtain rfl:j=args.length:=by omega
   rw[aH];go_wp2_with fail;go_ret;exact⟨by rw[Hfin.o];rfl,ht⟩
end
end Go.Proofs.YtafoklilkdnepaaGreatDoor
