/- Part 23 of the texts of this proof, one behind the other. No condition beyond those that its theorems state. -/
import Derived.Test.YtafoklilkdnepaaGreatDoorRe22
set_option linter.all false
set_option maxRecDepth 40000
set_option maxHeartbeats 25600000
namespace Go.Proofs.YtafoklilkdnepaaGreatDoor
section
open Go.RowKit
def eI(v:Int × List CD)(w:World)(e:Ending)(w':World):Prop:=∃s:SL,e=.returned (.tuple #[.slice s.A s.n s.c,.int .i64 v.1])/\s.n=v.2.length/\em w' s.A v.2/\Touch [] w w'
theorem eI.of{v:Int × List CD}{w:World}{e:Ending}{w':World}(h:fB v w e w'):eI v w e w':=by obtain⟨A,c,rfl,hm⟩:=h;exact⟨⟨A,v.2.length,c⟩,rfl,rfl,hm.own.rd,hm.t⟩
theorem eI.err{w w':World}(k:Int)(ht:Touch [] w w'):eI (k,[]) w (.returned (.tuple #[.slice none 0 0,.int .i64 k])) w':=⟨⟨none,0,0⟩,rfl,rfl,d9.nil _ _ _,ht⟩
theorem eI.same{w w':World}{A:Option Addr}{c:Nat}{a:List CD}{k:Int}(h:em w A a)(t:Touch [] w w'):eI (k,a) w (.returned (.tuple #[.slice A a.length c,.int .i64 k])) w':=⟨⟨A,a.length,c⟩,rfl,rfl,h.touch0 t,t⟩
theorem eI.pre{v:Int × List CD}{w w0:World}{e:Ending}{w':World}(h:eI v w e w')(t:Touch [] w0 w):eI v w0 e w':=by obtain⟨s,h1,h2,h3,h4⟩:=h;exact⟨s,h1,h2,h3,t.trans0 h4⟩
theorem BM(l:List Int)(t:Int):jL (l++[t]) 0=(jL l 0||decide ((0:Int)=t)):=by unfold jL;simp
theorem Az(x:PC)(names:List ByteArray)(xs:List XC)(ets:List (Int × Int))(hnn:x.names.n=names.length)(hen:x.exprs.n=xs.length)(hle:ets.length=xs.length)(SA:Option Addr)(c1 n1:Nat)(hln:names.length<=100000)(hlx:xs.length<=100000)(w:World) (hr:d9 gD w x.names.A names) (hx:d9 iX w x.exprs.A xs) (hE:∀i(h1:i<xs.length)(h2:i<ets.length),lq w SA c1 n1 xs[i] ets[i]) : Calls Tryz.prog 69 #[x.val,.slice SA n1 c1] w (fB (kh names ets) w):=by
 have Hv:=lh (show kh names ets=if names.length=ets.length then (if jB ets=0 then (if jL ((fP names ets).map (·.typ)) 0=true then (12,[]) else (0,fP names ets)) else (jB ets,[])) else (20,[]) from rfl);obtain⟨V,hV⟩:∃V,V=kh names ets:=⟨_,rfl⟩;rw[<- hV] at Hv ⊢;clear hV;obtain⟨k0,k1,⟨A2,n2,c2'⟩,⟨⟨ck,cn,⟨cvk,cvn,cvt⟩,cop⟩,CA,cnn,cc⟩,⟨NA,nn,nc⟩,⟨EA,en,ec⟩,⟨OA,ol,oc⟩,⟨GA,gn,gc⟩,⟨BA,bn,bc⟩,count⟩:=x;simp only[PC.val] at *;subst hnn hen;obtain⟨W,hW⟩:∃W,W=w.alloc (.cells #[.int .i64 k0,.string k1,.slice A2 n2 c2',.int .i64 ck,.string cn,.int .i64 cvk,.int .i64 cvn,.string cvt,.string cop,.slice CA cnn cc,.slice NA names.length nc,.slice EA xs.length ec,.slice OA ol oc,.slice GA gn gc,.slice BA bn bc,.int .i64 count] 49):=⟨_,rfl⟩;have t0:Touch [] w W:=hW ▸ (Touch.refl [] w).alloc _;have hb0:=hW ▸ ah w (.cells #[.int .i64 k0,.string k1,.slice A2 n2 c2',.int .i64 ck,.string cn,.int .i64 cvk,.int .i64 cvn,.string cvt,.string cop,.slice CA cnn cc,.slice NA names.length nc,.slice EA xs.length ec,.slice OA ol oc,.slice GA gn gc,.slice BA bn bc,.int .i64 count] 49);have c10:W.cell? ⟨w.heap.size,10,none⟩=some (.slice NA names.length nc):=d_ hb0 rfl;have HW:=lh hW;have HT0:=Gb t0 c10;have HRW:=Gb (hr.touch0 t0) (hx.touch0 t0);have HEt:=lh hE;have Hle:=lh hle;clear t0 hb0 hW c10 hr hx hE hle;by_cases hl:names.length=xs.length;rotate_left
 ·have Hn:=lh (show V=(20,[]) by rw[Hv.o,Hle.o,ab hl]);have hlb:((names.length:Int)==(xs.length:Int))=false:=by rw[aw];omega
  have hlb':((names.length:Int) != (xs.length:Int))=true:=by rw[bne,hlb];rfl
  clear Hv hl;go_enter Tryz.func69,Tryz.ntmps69;go_wp2;go_ret2;rw[Hn.o];rw[<- HW.o];exact fB.err 20 HT0.o.1
 have Hv1:=lh (show V=if jB ets=0 then (if jL ((fP names ets).map (·.typ)) 0=true then (12,[]) else (0,fP names ets)) else (jB ets,[]) by rw[Hv.o,Hle.o,ae hl]);have hlb:((names.length:Int)==(xs.length:Int))=true:=by rw[dx];omega
 have hlb':((names.length:Int) != (xs.length:Int))=false:=by rw[bne,hlb];rfl
 have Hl:=lh hl;clear Hv hl;go_enter Tryz.func69,Tryz.ntmps69;go_wp2_with fail;rw[<- HW.o];clear hlb hlb';go_loopw [6,7,22] (λo b i wr=>∃(k:Nat)(A:Option Addr)(c:Nat)(acc:List CD)(B:Bool),k<=xs.length/\i=.int .i64 k/\o=.slice A k c/\b=.bool B/\Ga (B=jL (acc.map (·.typ)) 0)/\Ga (acc=(fP names ets).take k)/\Ga (∀i(hi:i<k)(h2:i<ets.length),ets[i].2=0)/\Ga (Made 29 2 fQ acc A c W wr)) (λ_ _ i _=>xs.length-(intOf i).toNat)
 case atStart=>exact⟨0,none,0,[],false,by omega,rfl,rfl,rfl,lh rfl,lh rfl,lh (λi h=>absurd h (by omega)),lh (Made.nil _ _ _ _)⟩
 case round =>
 obtain⟨k,A,c,acc,B,hk,rfl,rfl,rfl,HB,HA,HZ,HM⟩:=hrel;have HL:Ga (acc.length=k):=lh (by rw[HA.o,aO];unfold fP;rw[cu,Hle.o,Hl.o];omega);by_cases hlt:k<xs.length
 ·have hke:k<ets.length:=by rw[Hle.o];exact hlt
  have hkn:k<names.length:=by rw[Hl.o];exact hlt
  have hkk:k<(fP names ets).length:=by unfold fP;rw[cu];omega
  obtain⟨ad,b1,o1,rfl,hadd,hc⟩:=d9.cells (HRW.o.2.touch0 HM.o.t) 7 gW (by omega) k hlt;obtain⟨ad2,b2,o2,rfl,hadd2,hc2⟩:=d9.cells (HRW.o.1.touch0 HM.o.t) 1 iR (by omega) k hkn;rw[bO] at hadd2;have f0:=hc2 0 _ rfl;rw[aM] at f0;have het:=HEt.o k hlt hke;have hst:(fP names ets).take (k+1)=acc++[⟨names[k],ets[k].1⟩]:=by
   have hg:(fP names ets)[k]=⟨names[k],ets[k].1⟩:=by simp[fP]
   rw[au hkk,hg,HA.o]
  have her:=λh0=>sD (l:=ets) hke (λi hi=>HZ.o i hi (by omega)) h0;obtain⟨y,hy⟩:∃y,y=xs[k]:=⟨_,rfl⟩;obtain⟨u,hu⟩:∃u,u=ets[k]:=⟨_,rfl⟩;obtain⟨nm,hnm⟩:∃nm,nm=names[k]:=⟨_,rfl⟩;rw[<- hy] at hc het;rw[<- hu] at het hst her;rw[<- hnm] at f0 hst;have Hu:=lh hu;obtain⟨uty,uer⟩:=u;obtain⟨⟨yk,yn,⟨yvk,yvn,yvt⟩,yop⟩,YA,ynn,yc⟩:=y;have e0:=hc 0 _ rfl;have e1:=hc 1 _ rfl;have e2:=hc 2 _ rfl;have e3:=hc 3 _ rfl;have e4:=hc 4 _ rfl;have e5:=hc 5 _ rfl;have e6:=hc 6 _ rfl;rw[aM] at e0;dsimp only at e0 e1 e2 e3 e4 e5 e6 hst her;have ta:=(Touch.refl [] wr).alloc (.cells #[.int .i64 yk,.string yn,.int .i64 yvk,.int .i64 yvn,.string yvt,.string yop,.slice YA ynn yc] 44);have het2:=het _ ((HT0.o.1.trans0 HM.o.t).trans0 ta);simp only[XC.val] at het2;have Het:=lh het2;have Hst:=lh hst;have HTa:=lh ta;have hkn':(k:Int)<(xs.length:Int):=by omega
  have hkn2:(k:Int)<(names.length:Int):=by omega
  have hk0:(0:Int)<=(k:Int):=by omega
  have d10:=(HM.o.t.trans0 ta).cell HT0.o.2 (by simp);have f0':=ta.cell f0 (by simp);have Hms:=lh (show jL ((acc++[(⟨nm,uty⟩:CD)]).map (·.typ)) 0=(B||decide ((0:Int)=uty)) by rw[aT,cx,dh,BM,HB.o]);clear hc hc2 het het2 hst hy hu hnm ta hkk f0;by_cases hz:uer=0;rotate_left
  ·have Hn:=lh (show V=(uer,[]) by rw[Hv1.o,her hz,ab hz]);have hq:(uer==0)=false:=by rw[aw];exact hz
   have hq':(uer != 0)=true:=by rw[bne,hq];rfl
   clear her;go_wp2_with fail;refine Het.o.mono ?_;rintro e w1 ⟨rfl,t1⟩;go_wp2;go_ret2;rw[Hn.o];exact fB.err uer (((HT0.o.1.trans0 HM.o.t).trans0 HTa.o).trans0 t1)
  subst hz;clear her;cases B
  ·by_cases hu0:uty=0
   ·have Hnb:=lh (show true=jL ((acc++[(⟨nm,uty⟩:CD)]).map (·.typ)) 0 by rw[Hms.o];rw[aF hu0.symm];rfl);have hub:(uty==0)=true:=by rw[dx];exact hu0
    clear hu0;go_wp2_with fail;refine Het.o.mono ?_;rintro e w1 ⟨rfl,t1⟩;have g10:=t1.cell d10 (by simp);have h0:=t1.cell f0' (by simp);have HM1:=lh ((HM.o.touch0 HTa.o).touch0 t1);clear t1 HM d10 f0';go_wp2_with (at_builtin;refine ez ?_);refine go ?_;have tb:=(Touch.refl [] w1).alloc (.cells #[.string nm,.int .i64 uty] 29);refine eb (enc:=fQ) rfl (.tmp 41) (.tmp 49) 24 rfl 29 _ 2 24 gN bC rfl (by omega) eZ gq A k c acc HL.o rfl (HM1.o.touch0 tb).own
     (some ⟨w1.heap.size,0,none⟩) 1 1 [⟨nm,uty⟩] rfl rfl (d9.one (enc:=fQ) w1 29 ⟨nm,uty⟩ _ rfl) (by omega) (by omega) ?_
    intro A' c' w' hown ht hf;have HX:=lh ((HM1.o.touch0 tb).step hown ht hf);clear hown ht hf tb;go_wp2_with fail;go_roundw
    case rel=>exact⟨k+1,A',c',acc++[⟨nm,uty⟩],true,by omega,by go_num,rfl,rfl,Hnb,lh Hst.o.symm,lh (λi hi h2=>by
     by_cases hij:i=k
     ·subst hij;rw[<- Hu.o]
     exact HZ.o i (by omega) h2),HX⟩
    case measure=>simp[intOf];omega
   have Hnb:=lh (show false=jL ((acc++[(⟨nm,uty⟩:CD)]).map (·.typ)) 0 by rw[Hms.o];rw[aC (λh=>hu0 h.symm)];rfl);have hub:(uty==0)=false:=by rw[aw];exact hu0
   clear hu0;go_wp2_with fail;refine Het.o.mono ?_;rintro e w1 ⟨rfl,t1⟩;have g10:=t1.cell d10 (by simp);have h0:=t1.cell f0' (by simp);have HM1:=lh ((HM.o.touch0 HTa.o).touch0 t1);clear t1 HM d10 f0';go_wp2_with (at_builtin;refine ez ?_);refine go ?_;have tb:=(Touch.refl [] w1).alloc (.cells #[.string nm,.int .i64 uty] 29);refine eb (enc:=fQ) rfl (.tmp 41) (.tmp 49) 24 rfl 29 _ 2 24 gN bC rfl (by omega) eZ gq A k c acc HL.o rfl (HM1.o.touch0 tb).own
    (some ⟨w1.heap.size,0,none⟩) 1 1 [⟨nm,uty⟩] rfl rfl (d9.one (enc:=fQ) w1 29 ⟨nm,uty⟩ _ rfl) (by omega) (by omega) ?_
   intro A' c' w' hown ht hf;have HX:=lh ((HM1.o.touch0 tb).step hown ht hf);clear hown ht hf tb;go_wp2_with fail;go_roundw
   case rel=>exact⟨k+1,A',c',acc++[⟨nm,uty⟩],false,by omega,by go_num,rfl,rfl,Hnb,lh Hst.o.symm,lh (λi hi h2=>by
    by_cases hij:i=k
    ·subst hij;rw[<- Hu.o]
    exact HZ.o i (by omega) h2),HX⟩
   case measure=>simp[intOf];omega
  have Hnb:=lh (show true=jL ((acc++[(⟨nm,uty⟩:CD)]).map (·.typ)) 0 by rw[Hms.o];rfl);go_wp2_with fail;refine Het.o.mono ?_;rintro e w1 ⟨rfl,t1⟩;have g10:=t1.cell d10 (by simp);have h0:=t1.cell f0' (by simp);have HM1:=lh ((HM.o.touch0 HTa.o).touch0 t1);clear t1 HM d10 f0';go_wp2_with (at_builtin;refine ez ?_);refine go ?_;have tb:=(Touch.refl [] w1).alloc (.cells #[.string nm,.int .i64 uty] 29);refine eb (enc:=fQ) rfl (.tmp 41) (.tmp 49) 24 rfl 29 _ 2 24 gN bC rfl (by omega) eZ gq A k c acc HL.o rfl (HM1.o.touch0 tb).own
   (some ⟨w1.heap.size,0,none⟩) 1 1 [⟨nm,uty⟩] rfl rfl (d9.one (enc:=fQ) w1 29 ⟨nm,uty⟩ _ rfl) (by omega) (by omega) ?_
  intro A' c' w' hown ht hf;have HX:=lh ((HM1.o.touch0 tb).step hown ht hf);clear hown ht hf tb;go_wp2_with fail;go_roundw
  case rel=>exact⟨k+1,A',c',acc++[⟨nm,uty⟩],true,by omega,by go_num,rfl,rfl,Hnb,lh Hst.o.symm,lh (λi hi h2=>by
   by_cases hij:i=k
   ·subst hij;rw[<- Hu.o]
   exact HZ.o i (by omega) h2),HX⟩
  case measure=>simp[intOf];omega
 obtain rfl:k=xs.length:=by omega
 have hz:jB ets=0:=pG λu hu=>by obtain⟨i,hi,rfl⟩:=aU.1 hu;exact HZ.o i (by rw[<- Hle.o];exact hi) hi
 have hacc:acc=fP names ets:=by rw[HA.o,bR];unfold fP;rw[cu,Hle.o];omega
 have Hn:=lh (show V=if B=true then (12,[]) else (0,acc) by rw[Hv1.o,ae hz,hacc,HB.o,hacc]);clear hz hacc HA HZ HB;cases B
 ·have Hn2:=lh (show V=(0,acc) by rw[Hn.o,ab (by simp)]);clear Hn;go_wp2;go_ret2;rw[Hn2.o];have hm:=HM.o;have hl:=HL.o;exact⟨A,c,by rw[<- hl];rfl,hm.own,HT0.o.1.trans0 hm.t,λb hb=>bm HT0.o.1.size (hm.f b hb)⟩
 have Hn2:=lh (show V=(12,[]) by rw[Hn.o,ae rfl]);clear Hn;go_wp2;go_ret2;rw[Hn2.o];exact fB.err 12 (HT0.o.1.trans0 HM.o.t)
theorem zV(x:PC)(hk0:x.kind=2)(SA SB:Option Addr)(c1 c2 n2:Nat)(a:List CD)(hla:a.length<=1000000)(w:World)(ha:em w SA a)(r:Int × Int)(hE:lq w SA c1 a.length x.cond r): Calls Tryz.prog 32 #[x.val,.slice SA a.length c1,.slice SB n2 c2] w (eI (r.2,a) w):=by obtain⟨k0,k1,⟨A2,n2,c2'⟩,⟨⟨ck,cn,⟨cvk,cvn,cvt⟩,cop⟩,CA,cnn,cc⟩,⟨NA,nn,nc⟩,⟨EA,en,ec⟩,⟨OA,ol,oc⟩,⟨GA,gn,gc⟩,⟨BA,bn,bc⟩,count⟩:=x;dsimp only at hk0 hE;subst hk0;have Het:=lh hE;simp only[XC.val,lq] at Het;simp only[PC.val] at *;obtain⟨r1,r2⟩:=r;dsimp only at Het ⊢;clear hE;have ta:=(Touch.refl [] w).alloc (.cells #[.int .i64 2,.string k1,.slice A2 n2 c2',.int .i64 ck,.string cn,.int .i64 cvk,.int .i64 cvn,.string cvt,.string cop,.slice CA cnn cc,.slice NA nn nc,.slice EA en ec,.slice OA ol oc,.slice GA gn gc,.slice BA bn bc,.int .i64 count] 49);have hbx:=ah w (.cells #[.int .i64 2,.string k1,.slice A2 n2 c2',.int .i64 ck,.string cn,.int .i64 cvk,.int .i64 cvn,.string cvt,.string cop,.slice CA cnn cc,.slice NA nn nc,.slice EA en ec,.slice OA ol oc,.slice GA gn gc,.slice BA bn bc,.int .i64 count] 49);have HT:=Gb ta hbx;have HA:=lh ha;clear ta hbx ha;go_enter Tryz.func32,Tryz.ntmps32;go_wp2_with fail;refine(Het.o _ HT.o.1).mono ?_;rintro e w1 ⟨rfl,t1⟩;go_wp2;go_ret2;exact eI.same HA.o (HT.o.1.trans0 t1)
theorem Du(x:PC)(hk0:x.kind=3)(SA SB:Option Addr)(c1 c2 n2:Nat)(a:List CD)(hla:a.length<=1000000)(w:World)(ha:em w SA a)(names:List ByteArray)(xs:List XC)(ets:List (Int × Int))(hnn:x.names.n=names.length)(hen:x.exprs.n=xs.length)(hle:ets.length=xs.length)(hln:names.length<=100000)(hlx:xs.length<=100000)(hr:d9 gD w x.names.A names)(hx:d9 iX w x.exprs.A xs)(hE:∀ i (h1:i<xs.length) (h2:i<ets.length),lq w SA c1 a.length xs[i] ets[i]): Calls Tryz.prog 32 #[x.val,.slice SA a.length c1,.slice SB n2 c2] w (eI (kh names ets) w):=by
 obtain⟨k0,k1,⟨A2,n2,c2'⟩,⟨⟨ck,cn,⟨cvk,cvn,cvt⟩,cop⟩,CA,cnn,cc⟩,⟨NA,nn,nc⟩,⟨EA,en,ec⟩,⟨OA,ol,oc⟩,⟨GA,gn,gc⟩,⟨BA,bn,bc⟩,count⟩:=x;dsimp only at hk0 hnn hen hr hx;subst hk0;have Hk:=lh λw'(t:Touch [] w w')=>Az ⟨3,k1,⟨A2,n2,c2'⟩,⟨⟨ck,cn,⟨cvk,cvn,cvt⟩,cop⟩,CA,cnn,cc⟩,⟨NA,nn,nc⟩,⟨EA,en,ec⟩,⟨OA,ol,oc⟩,⟨GA,gn,gc⟩,⟨BA,bn,bc⟩,count⟩ names xs ets hnn hen hle SA c1 a.length hln hlx w' (d9.touch0 hr t) (d9.touch0 hx t) (λi h1 h2 w'' t2=>hE i h1 h2 w'' (t.trans0 t2));simp only[PC.val] at *;obtain⟨V,hV⟩:∃V,V=kh names ets:=⟨_,rfl⟩;rw[<- hV] at Hk ⊢;clear hnn hen hr hx hE hV;have ta:=(Touch.refl [] w).alloc (.cells #[.int .i64 3,.string k1,.slice A2 n2 c2',.int .i64 ck,.string cn,.int .i64 cvk,.int .i64 cvn,.string cvt,.string cop,.slice CA cnn cc,.slice NA nn nc,.slice EA en ec,.slice OA ol oc,.slice GA gn gc,.slice BA bn bc,.int .i64 count] 49);have hbx:=ah w (.cells #[.int .i64 3,.string k1,.slice A2 n2 c2',.int .i64 ck,.string cn,.int .i64 cvk,.int .i64 cvn,.string cvt,.string cop,.slice CA cnn cc,.slice NA nn nc,.slice EA en ec,.slice OA ol oc,.slice GA gn gc,.slice BA bn bc,.int .i64 count] 49);have HT:=Gb ta hbx;have HA:=lh ha;clear ta hbx ha;go_enter Tryz.func32,Tryz.ntmps32;go_wp2_with fail;refine(Hk.o _ HT.o.1).mono ?_;rintro e w1 ⟨A1,cc1,rfl,m1⟩;go_wp2;go_ret2;exact⟨⟨A1,V.2.length,cc1⟩,rfl,rfl,m1.own.rd,HT.o.1.trans0 m1.t⟩
theorem zY(x:PC)(hk0:x.kind=7)(SA SB:Option Addr)(c1 c2 n2:Nat)(a:List CD)(hla:a.length<=1000000)(w:World)(ha:em w SA a)(b:List CD)(hb2:b.length=n2)(hlb:b.length<=1000000)(hb:em w SB b): Calls Tryz.prog 32 #[x.val,.slice SA a.length c1,.slice SB n2 c2] w (eI (if iH a b=true then (0,a) else (12,[])) w):=by
 obtain⟨k0,k1,⟨A2,n2,c2'⟩,⟨⟨ck,cn,⟨cvk,cvn,cvt⟩,cop⟩,CA,cnn,cc⟩,⟨NA,nn,nc⟩,⟨EA,en,ec⟩,⟨OA,ol,oc⟩,⟨GA,gn,gc⟩,⟨BA,bn,bc⟩,count⟩:=x;dsimp only at hk0;subst hk0;subst hb2;have Heq:=lh λw'(t:Touch [] w w')=>mX SA SB c1 c2 a.length b.length a b rfl rfl w' (ha.touch0 t) (hb.touch0 t) (by omega) (by omega);simp only[PC.val] at *;obtain⟨K,hK⟩:∃K,K=iH a b:=⟨_,rfl⟩;rw[<- hK] at Heq ⊢;clear hb hK;obtain⟨G,hG⟩:∃G,G=(if K=true then ((0:Int),a) else (12,[])):=⟨_,rfl⟩;rw[<- hG];have HG:=lh hG;clear hG;have ta:=(Touch.refl [] w).alloc (.cells #[.int .i64 7,.string k1,.slice A2 n2 c2',.int .i64 ck,.string cn,.int .i64 cvk,.int .i64 cvn,.string cvt,.string cop,.slice CA cnn cc,.slice NA nn nc,.slice EA en ec,.slice OA ol oc,.slice GA gn gc,.slice BA bn bc,.int .i64 count] 49);have hbx:=ah w (.cells #[.int .i64 7,.string k1,.slice A2 n2 c2',.int .i64 ck,.string cn,.int .i64 cvk,.int .i64 cvn,.string cvt,.string cop,.slice CA cnn cc,.slice NA nn nc,.slice EA en ec,.slice OA ol oc,.slice GA gn gc,.slice BA bn bc,.int .i64 count] 49);have HT:=Gb ta hbx;have HA:=lh ha;clear ta hbx ha;go_enter Tryz.func32,Tryz.ntmps32;go_wp2_with fail;refine(Heq.o _ HT.o.1).mono ?_;rintro e w1 ⟨rfl,t1⟩;have z0:=t1.cell (d_ HT.o.2 (i:=0) (v:=.int .i64 7) rfl) (by simp);cases K
 ·go_wp2;go_ret2;rw[show G=(12,[]) from HG.o];exact eI.err 12 (HT.o.1.trans0 t1)
 go_wp2;go_ret2;rw[show G=(0,a) from HG.o];exact eI.same HA.o (HT.o.1.trans0 t1)
theorem vf(x:PC)(hk0:x.kind=8)(SA SB:Option Addr)(c1 c2 n2:Nat)(a:List CD)(hla:a.length<=1000000)(w:World)(ha:em w SA a): Calls Tryz.prog 32 #[x.val,.slice SA a.length c1,.slice SB n2 c2] w (eI (0,a) w):=by obtain⟨k0,k1,⟨A2,n2,c2'⟩,⟨⟨ck,cn,⟨cvk,cvn,cvt⟩,cop⟩,CA,cnn,cc⟩,⟨NA,nn,nc⟩,⟨EA,en,ec⟩,⟨OA,ol,oc⟩,⟨GA,gn,gc⟩,⟨BA,bn,bc⟩,count⟩:=x;dsimp only at hk0;subst hk0;simp only[PC.val] at *;have ta:=(Touch.refl [] w).alloc (.cells #[.int .i64 8,.string k1,.slice A2 n2 c2',.int .i64 ck,.string cn,.int .i64 cvk,.int .i64 cvn,.string cvt,.string cop,.slice CA cnn cc,.slice NA nn nc,.slice EA en ec,.slice OA ol oc,.slice GA gn gc,.slice BA bn bc,.int .i64 count] 49);have hbx:=ah w (.cells #[.int .i64 8,.string k1,.slice A2 n2 c2',.int .i64 ck,.string cn,.int .i64 cvk,.int .i64 cvn,.string cvt,.string cop,.slice CA cnn cc,.slice NA nn nc,.slice EA en ec,.slice OA ol oc,.slice GA gn gc,.slice BA bn bc,.int .i64 count] 49);have HT:=Gb ta hbx;have HA:=lh ha;clear ta hbx ha;go_enter Tryz.func32,Tryz.ntmps32;go_wp2;go_ret2;exact eI.same HA.o HT.o.1
theorem Aj(x:PC)(hk0:x.kind=9)(SA SB:Option Addr)(c1 c2 n2:Nat)(a:List CD)(hla:a.length<=1000000)(w:World)(ha:em w SA a)(l:List (ByteArray × Bool))(hlb:x.by_.n=l.length)(hll:l.length<=1000000)(hr:d9 pg w x.by_.A l): Calls Tryz.prog 32 #[x.val,.slice SA a.length c1,.slice SB n2 c2] w (eI (if j0 a l x.count=0 then (0,a) else (j0 a l x.count,[])) w):=by
 have Hv:=lh (show j0 a l x.count=if x.count<0 then 20 else if l.all (λp=>(ef a p.1).isSome)=true then 0 else 13 from rfl);obtain⟨V,hV⟩:∃V,V=j0 a l x.count:=⟨_,rfl⟩;rw[<- hV] at Hv ⊢;clear hV;obtain⟨G,hG⟩:∃G,G=(if V=0 then ((0:Int),a) else (V,[])):=⟨_,rfl⟩;rw[<- hG];have HG:=lh hG;clear hG;obtain⟨k0,k1,⟨A2,n2,c2'⟩,⟨⟨ck,cn,⟨cvk,cvn,cvt⟩,cop⟩,CA,cnn,cc⟩,⟨NA,nn,nc⟩,⟨EA,en,ec⟩,⟨OA,ol,oc⟩,⟨GA,gn,gc⟩,⟨BA,bn,bc⟩,count⟩:=x;dsimp only at hk0 hlb hr Hv;subst hk0;subst hlb;simp only[PC.val] at *;have HR:=lh hr;clear hr;have ta:=(Touch.refl [] w).alloc (.cells #[.int .i64 9,.string k1,.slice A2 n2 c2',.int .i64 ck,.string cn,.int .i64 cvk,.int .i64 cvn,.string cvt,.string cop,.slice CA cnn cc,.slice NA nn nc,.slice EA en ec,.slice OA ol oc,.slice GA gn gc,.slice BA l.length bc,.int .i64 count] 49);have hbx:=ah w (.cells #[.int .i64 9,.string k1,.slice A2 n2 c2',.int .i64 ck,.string cn,.int .i64 cvk,.int .i64 cvn,.string cvt,.string cop,.slice CA cnn cc,.slice NA nn nc,.slice EA en ec,.slice OA ol oc,.slice GA gn gc,.slice BA l.length bc,.int .i64 count] 49);have HT:=Gb ta hbx;have HA:=lh ha;clear ta hbx ha;go_enter Tryz.func32,Tryz.ntmps32;by_cases hc:count<0
 ·have Hq:=lh (show V=20 by rw[Hv.o,ae hc]);clear Hv;go_wp2;go_ret2;rw[show G=(20,[]) by rw[HG.o,Hq.o];rfl];exact eI.err 20 HT.o.1
 have Hq:=lh (show V=if l.all (λp=>(ef a p.1).isSome)=true then 0 else 13 by rw[Hv.o,ab hc]);have hc':(count<0)=False:=bi hc;clear Hv;go_wp2_with fail;go_loopw [102] (λi wr=>∃k:Nat,k<=l.length/\i=.int .i64 k/\Ga ((l.take k).all (λp=>(ef a p.1).isSome)=true)/\Ga (Touch [] w wr)) (λi _=>l.length-(intOf i).toNat)
 case atStart=>exact⟨0,by omega,rfl,lh rfl,lh HT.o.1⟩
 case round =>
 obtain⟨k,hk,rfl,Hall,HTk⟩:=hrel;by_cases hlt:k<l.length
 ·obtain⟨ad,b1,o1,rfl,hadd,hcx⟩:=d9.cells (HR.o.touch0 HTk.o) 2 mJ (by omega) k hlt;have hno:=lu (p:=fun p:ByteArray × Bool=>(ef a p.1).isSome) hlt;have hyes:=jt (p:=fun p:ByteArray × Bool=>(ef a p.1).isSome) hlt Hall.o;obtain⟨p,hp⟩:∃p,p=l[k]:=⟨_,rfl⟩;rw[<- hp] at hcx hno hyes;obtain⟨p1,p2⟩:=p;have e0:=hcx 0 _ rfl;have e1:=hcx 1 _ rfl;rw[aM] at e0;have ta:=(Touch.refl [] wr).alloc (.cells #[.string p1,.bool p2] 94);have hfa:=ip SA c1 a.length a rfl p1 _ (HA.o.touch0 (HTk.o.trans0 ta)) (by omega);have hkn:(k:Int)<(l.length:Int):=by omega
  dsimp only at hno hyes;have HTa:=lh ta;rcases hpl:ef a p1 with _|i
  ·have Hz:=lh (show V=13 by rw[Hq.o,ab (by rw[hno (by rw[hpl];rfl)];simp)]);have hfa2:eM a p1 = -1:=by unfold eM;rw[hpl]
   rw[hfa2] at hfa;have Hfa:=lh hfa;clear hfa hno hyes hcx hp ta hpl hfa2 Hall;go_wp2_with fail;refine Hfa.o.mono ?_;rintro e w1 ⟨rfl,t1⟩;go_wp2;go_ret2;rw[show G=(13,[]) by rw[HG.o,Hz.o];rfl];exact eI.err 13 ((HTk.o.trans0 HTa.o).trans0 t1)
  have hfa2:eM a p1=(i:Int):=by unfold eM;rw[hpl]
  rw[hfa2] at hfa;have Hfa:=lh hfa;have Hyes:=lh (hyes (by rw[hpl];rfl));have hi0:((i:Int)<0)=False:=bi (by omega);clear hfa hno hyes hcx hp ta hpl hfa2 Hall;go_wp2_with fail;refine Hfa.o.mono ?_;rintro e w1 ⟨rfl,t1⟩;have HT1:=lh ((HTk.o.trans0 HTa.o).trans0 t1);clear t1;go_wp2_with fail;go_roundw
  case rel=>exact⟨k+1,by omega,by go_num,Hyes,HT1⟩
  case measure=>simp[intOf];omega
 obtain rfl:k=l.length:=by omega
 have Hz:=lh (show V=0 by have:=Hall.o;rw[aH] at this;rw[Hq.o,ae this])
 go_wp2;go_ret2;rw[show G=(0,a) by rw[HG.o,Hz.o];rfl];exact eI.same HA.o HTk.o
end
section
open Go.RowKit
def eN(k:Int):Int:=if k=2\/k=3\/k=6\/k=8\/k=9 then 1 else if k=4\/k=5\/k=7 then 2 else 0
theorem tK(k:Int)(w:World):Calls Tryz.prog 23 #[.int .i64 k] w λe w'=>e=.returned (.int .i64 (eN k))/\Touch [] w w':=by
 by_cases h:k=2\/k=3\/k=4\/k=5\/k=6\/k=7\/k=8\/k=9
 ·rcases h with rfl | rfl | rfl | rfl | rfl | rfl | rfl | rfl;all_goals go_enter Tryz.func23,Tryz.ntmps23;go_wp2;go_ret;exact⟨rfl,Touch.refl _ _⟩
 have hN:=lh (show eN k=0 by unfold eN;rw[ab (by omega),ab (by omega)]);have h2:(k==2)=false:=by rw[aw];omega
 have h3:(k==3)=false:=by rw[aw];omega
 have h4:(k==4)=false:=by rw[aw];omega
 have h5:(k==5)=false:=by rw[aw];omega
 have h6:(k==6)=false:=by rw[aw];omega
 have h7:(k==7)=false:=by rw[aw];omega
 have h8:(k==8)=false:=by rw[aw];omega
 have h9:(k==9)=false:=by rw[aw];omega
 clear h;go_enter Tryz.func23,Tryz.ntmps23;go_wp2;go_ret;exact⟨ew hN.o.symm,Touch.refl _ _⟩
def pJ(v:Int × List CD):Int × List CD:=if v.1=0 then (if eB v.2=0 then (0,v.2) else (eB v.2,[])) else (v.1,[])
def k6(k:Int)(rx ry:Bool)(v:Int × List CD):Int × List CD:=
 if k<2\/9<k then (if k=1 then (13,[]) else (20,[])) else if rx=false then (12,[]) else if eN k=2/\ry=false then (12,[]) else pJ v
theorem sg(x:PC)(SA SB:Option Addr)(c1 c2:Nat)(a b:List CD)(hla:a.length<=1000000)(hlb:b.length<=1000000)(hoa:∀ c∈a,c.Ok)(hob:∀ c∈b,c.Ok)(RA RB:Option Addr)(d1 d2:Nat)(ra rb:List (List VD))(hra:ra.length<=1000000)(hrb:rb.length<=1000000) (hka:fe ra) (hkb:fe rb) (hea:gR ra) (heb:gR rb) (w:World) (ha:em w SA a) (hb:em w SB b) (hva:eW w RA ra) (hvb:eW w RB rb) (v:Int × List CD) (hv:2<=x.kind->x.kind<=9->h_ a ra=true->(eN x.kind=2->h_ b rb=true)->∀w',Touch [] w w'->Calls Tryz.prog 32 #[x.val,.slice SA a.length c1,.slice SB b.length c2] w' (eI v w')) (hok:∀c∈v.2,c.Ok) (hvl:v.2.length<=2000000) : Calls Tryz.prog 17 #[x.val,.agg #[.slice SA a.length c1,.slice RA ra.length d1],.agg #[.slice SB b.length c2,.slice RB rb.length d2]] w (eI (k6 x.kind (h_ a ra) (h_ b rb) v) w):=by
 have Hrx:=lh λw'(t:Touch [] w w')=>rM SA c1 a.length a rfl hoa RA d1 ra.length ra rfl hka hea w' (ha.touch0 t) (hva.touch0 t) hla hra;have Hry:=lh λw'(t:Touch [] w w')=>rM SB c2 b.length b rfl hob RB d2 rb.length rb rfl hkb heb w' (hb.touch0 t) (hvb.touch0 t) hlb hrb;obtain⟨rx,hrx⟩:∃r,r=h_ a ra:=⟨_,rfl⟩;obtain⟨ry,hry⟩:∃r,r=h_ b rb:=⟨_,rfl⟩;rw[<- hrx] at Hrx hv ⊢;rw[<- hry] at Hry hv ⊢;clear hrx hry ha hb hva hvb;obtain⟨k0,k1,⟨A2,n2,c2'⟩,⟨⟨ck,cn,⟨cvk,cvn,cvt⟩,cop⟩,CA,cnn,cc⟩,⟨NA,nn,nc⟩,⟨EA,en,ec⟩,⟨OA,ol,oc⟩,⟨GA,gn,gc⟩,⟨BA,bn,bc⟩,count⟩:=x;dsimp only at hv ⊢;have Hck:Ga (∀(A:Option Addr)(c:Nat)(w':World),em w' A v.2->Calls Tryz.prog 33 #[.slice A v.2.length c] w' λe w''=>e=.returned (.int .i64 (eB v.2))/\Touch [] w' w''):=lh λA c w' hcs=>lZ A c v.2.length v.2 rfl hok w' hcs (by omega);have Hnd:=lh λw'=>tK k0 w';simp only[PC.val] at *;obtain⟨z,hz⟩:∃z,z=eN k0:=⟨_,rfl⟩;rw[<- hz] at Hnd hv;have HG:=lh (show k6 k0 rx ry v=if k0<2\/9<k0 then (if k0=1 then (13,[]) else (20,[])) else if rx=false then (12,[]) else if z=2/\ry=false then (12,[]) else if v.1=0 then (if eB v.2=0 then (0,v.2) else (eB v.2,[])) else (v.1,[]) by rw[hz];rfl);obtain⟨G,hG⟩:∃G,G=k6 k0 rx ry v:=⟨_,rfl⟩;rw[<- hG] at HG ⊢;have Hv:=lh hv;obtain⟨K,hK⟩:∃K,K=eB v.2:=⟨_,rfl⟩;rw[<- hK] at HG Hck;obtain⟨ver,vcs⟩:=v;dsimp only at HG Hck hvl;clear hz hG hv hok hK
 have ta:=((((Touch.refl [] w).alloc (.cells #[.int .i64 k0,.string k1,.slice A2 n2 c2',.int .i64 ck,.string cn,.int .i64 cvk,.int .i64 cvn,.string cvt,.string cop,.slice CA cnn cc,.slice NA nn nc,.slice EA en ec,.slice OA ol oc,.slice GA gn gc,.slice BA bn bc,.int .i64 count] 49)).alloc (.cells #[.slice SA a.length c1,.slice RA ra.length d1] 27)).alloc (.cells #[.slice SB b.length c2,.slice RB rb.length d2] 27));obtain⟨W,hW⟩:∃W,W=((w.alloc (.cells #[.int .i64 k0,.string k1,.slice A2 n2 c2',.int .i64 ck,.string cn,.int .i64 cvk,.int .i64 cvn,.string cvt,.string cop,.slice CA cnn cc,.slice NA nn nc,.slice EA en ec,.slice OA ol oc,.slice GA gn gc,.slice BA bn bc,.int .i64 count] 49)).alloc (.cells #[.slice SA a.length c1,.slice RA ra.length d1] 27)).alloc (.cells #[.slice SB b.length c2,.slice RB rb.length d2] 27):=⟨_,rfl⟩;have hb0:W.heap[w.heap.size]?=some (.cells #[.int .i64 k0,.string k1,.slice A2 n2 c2',.int .i64 ck,.string cn,.int .i64 cvk,.int .i64 cvn,.string cvt,.string cop,.slice CA cnn cc,.slice NA nn nc,.slice EA en ec,.slice OA ol oc,.slice GA gn gc,.slice BA bn bc,.int .i64 count] 49 (0,0)):=by
  rw[hW];exact(((Touch.refl [] (w.alloc (.cells #[.int .i64 k0,.string k1,.slice A2 n2 c2',.int .i64 ck,.string cn,.int .i64 cvk,.int .i64 cvn,.string cvt,.string cop,.slice CA cnn cc,.slice NA nn nc,.slice EA en ec,.slice OA ol oc,.slice GA gn gc,.slice BA bn bc,.int .i64 count] 49))).alloc (.cells #[.slice SA a.length c1,.slice RA ra.length d1] 27)).alloc (.cells #[.slice SB b.length c2,.slice RB rb.length d2] 27)).blk (ah w _) (by simp)
 have hb1:W.heap[w.heap.size+1]?=some (.cells #[.slice SA a.length c1,.slice RA ra.length d1] 27 (0,0)):=by rw[hW];have h:=ah (w.alloc (.cells #[.int .i64 k0,.string k1,.slice A2 n2 c2',.int .i64 ck,.string cn,.int .i64 cvk,.int .i64 cvn,.string cvt,.string cop,.slice CA cnn cc,.slice NA nn nc,.slice EA en ec,.slice OA ol oc,.slice GA gn gc,.slice BA bn bc,.int .i64 count] 49)) (.cells #[.slice SA a.length c1,.slice RA ra.length d1] 27);rw[ao] at h;exact((Touch.refl [] _).alloc (.cells #[.slice SB b.length c2,.slice RB rb.length d2] 27)).blk h (by simp)
 have hb2:W.heap[w.heap.size+2]?=some (.cells #[.slice SB b.length c2,.slice RB rb.length d2] 27 (0,0)):=by rw[hW];have h:=ah ((w.alloc (.cells #[.int .i64 k0,.string k1,.slice A2 n2 c2',.int .i64 ck,.string cn,.int .i64 cvk,.int .i64 cvn,.string cvt,.string cop,.slice CA cnn cc,.slice NA nn nc,.slice EA en ec,.slice OA ol oc,.slice GA gn gc,.slice BA bn bc,.int .i64 count] 49)).alloc (.cells #[.slice SA a.length c1,.slice RA ra.length d1] 27)) (.cells #[.slice SB b.length c2,.slice RB rb.length d2] 27);rw[ao,ao] at h;exact h
 rw[<- hW] at ta;have HW:=lh hW;have HT:=lh ta;have HB:=Gc hb0 hb1 hb2;obtain⟨p0,p1,p2,p3,p4,p5,p6,p7,p8,p9,p10,p11,p12,p13,p14,p15⟩:=fg hb0;have x0:W.cell? ⟨w.heap.size+1,0,none⟩=some (.slice SA a.length c1):=d_ hb1 rfl;have x1:W.cell? ⟨w.heap.size+1,1,none⟩=some (.slice RA ra.length d1):=d_ hb1 rfl;clear ta hW hb0 hb1 hb2;by_cases hk1:k0=1
 ·subst hk1;have Hq:=lh (show G=(13,[]) by rw[HG.o,ae (by omega),ae rfl]);go_enter Tryz.func17,Tryz.ntmps17;go_upto_region 1 with fail;rw[<- HW.o];go_wp2;go_ret2;rw[Hq.o];exact eI.err 13 HT.o
 have q1:(k0==1)=false:=by rw[aw];exact hk1
 by_cases hk2:k0<2
 ·have Hq:=lh (show G=(20,[]) by rw[HG.o,ae (.inl hk2),ab hk1]);have q2:(k0<2)=True:=cQ hk2;clear hk1 hk2;go_enter Tryz.func17,Tryz.ntmps17;go_upto_region 1 with fail;rw[<- HW.o];go_wp2;go_ret2;rw[Hq.o];exact eI.err 20 HT.o
 have q2:(k0<2)=False:=bi hk2;by_cases hk9:9<k0
 ·have Hq:=lh (show G=(20,[]) by rw[HG.o,ae (.inr hk9),ab hk1]);have q9:(9<k0)=True:=cQ hk9;clear hk1 hk2 hk9;go_enter Tryz.func17,Tryz.ntmps17;go_upto_region 1 with fail;rw[<- HW.o];go_wp2;go_ret2;rw[Hq.o];exact eI.err 20 HT.o
 have q9:(9<k0)=False:=bi hk9;have HG1:=lh (show G=if rx=false then (12,[]) else if z=2/\ry=false then (12,[]) else if ver=0 then (if K=0 then (0,vcs) else (K,[])) else (ver,[]) by rw[HG.o,ab (by omega)]);have Hv1:=lh λh1 h2=>Hv.o (by omega) (by omega) h1 h2;clear HG Hv hk1 hk2 hk9;cases rx
 ·have Hq:=lh (show G=(12,[]) by rw[HG1.o,ae rfl]);go_enter Tryz.func17,Tryz.ntmps17;go_upto_region 1 with fail;rw[<- HW.o];go_wp2_with fail;refine(Hrx.o _ HT.o).mono ?_;rintro e w1 ⟨rfl,t1⟩;obtain⟨p0,p1,p2,p3,p4,p5,p6,p7,p8,p9,p10,p11,p12,p13,p14,p15⟩:=fg (t1.blk HB.o.1 (by simp));obtain⟨x0,x1,_,_⟩:=eL (t1.blk HB.o.2.1 (by simp));obtain⟨y0,y1,_,_⟩:=eL (t1.blk HB.o.2.2 (by simp));have HT1:=lh t1;clear t1;go_wp2;go_ret2;rw[Hq.o];exact eI.err 12 (HT.o.trans0 HT1.o)
 have HG2:=lh (show G=if z=2/\ry=false then (12,[]) else if ver=0 then (if K=0 then (0,vcs) else (K,[])) else (ver,[]) by rw[HG1.o,ab (by simp)]);clear HG1;by_cases hz2:z=2
 ·subst hz2;cases ry
  ·have Hq:=lh (show G=(12,[]) by rw[HG2.o,ae ⟨rfl,rfl⟩]);go_enter Tryz.func17,Tryz.ntmps17;go_upto_region 1 with fail;rw[<- HW.o];go_wp2_with fail;refine(Hrx.o _ HT.o).mono ?_;rintro e w1 ⟨rfl,t1⟩;obtain⟨p0,p1,p2,p3,p4,p5,p6,p7,p8,p9,p10,p11,p12,p13,p14,p15⟩:=fg (t1.blk HB.o.1 (by simp));obtain⟨x0,x1,_,_⟩:=eL (t1.blk HB.o.2.1 (by simp));obtain⟨y0,y1,_,_⟩:=eL (t1.blk HB.o.2.2 (by simp));have HT1:=lh t1;clear t1;go_wp2_with fail;refine(Hnd.o _).mono ?_;rintro e w2 ⟨rfl,t2⟩;obtain⟨p0,p1,p2,p3,p4,p5,p6,p7,p8,p9,p10,p11,p12,p13,p14,p15⟩:=fg (t2.blk (HT1.o.blk HB.o.1 (by simp)) (by simp));obtain⟨x0,x1,_,_⟩:=eL (t2.blk (HT1.o.blk HB.o.2.1 (by simp)) (by simp));obtain⟨y0,y1,_,_⟩:=eL (t2.blk (HT1.o.blk HB.o.2.2 (by simp)) (by simp));have HT2:=lh (HT1.o.trans0 t2);clear t2;go_wp2_with fail;refine(Hry.o _ (HT.o.trans0 HT2.o)).mono ?_;rintro e w3 ⟨rfl,t3⟩;obtain⟨p0,p1,p2,p3,p4,p5,p6,p7,p8,p9,p10,p11,p12,p13,p14,p15⟩:=fg (t3.blk (HT2.o.blk HB.o.1 (by simp)) (by simp));obtain⟨x0,x1,_,_⟩:=eL (t3.blk (HT2.o.blk HB.o.2.1 (by simp)) (by simp));obtain⟨y0,y1,_,_⟩:=eL (t3.blk (HT2.o.blk HB.o.2.2 (by simp)) (by simp));have HT3:=lh (HT2.o.trans0 t3);clear t3;go_wp2;go_ret2;rw[Hq.o];exact eI.err 12 (HT.o.trans0 HT3.o)
  have HF:=lh (show G=if ver=0 then (if K=0 then (0,vcs) else (K,[])) else (ver,[]) by rw[HG2.o,ab (by simp)]);go_enter Tryz.func17,Tryz.ntmps17;go_upto_region 1 with fail;rw[<- HW.o];go_wp2_with fail;refine(Hrx.o _ HT.o).mono ?_;rintro e w1 ⟨rfl,t1⟩;obtain⟨p0,p1,p2,p3,p4,p5,p6,p7,p8,p9,p10,p11,p12,p13,p14,p15⟩:=fg (t1.blk HB.o.1 (by simp));obtain⟨x0,x1,_,_⟩:=eL (t1.blk HB.o.2.1 (by simp));obtain⟨y0,y1,_,_⟩:=eL (t1.blk HB.o.2.2 (by simp));have HT1:=lh t1;clear t1;go_wp2_with fail;refine(Hnd.o _).mono ?_;rintro e w2 ⟨rfl,t2⟩;obtain⟨p0,p1,p2,p3,p4,p5,p6,p7,p8,p9,p10,p11,p12,p13,p14,p15⟩:=fg (t2.blk (HT1.o.blk HB.o.1 (by simp)) (by simp));obtain⟨x0,x1,_,_⟩:=eL (t2.blk (HT1.o.blk HB.o.2.1 (by simp)) (by simp));obtain⟨y0,y1,_,_⟩:=eL (t2.blk (HT1.o.blk HB.o.2.2 (by simp)) (by simp));have HT2:=lh (HT1.o.trans0 t2);clear t2;go_wp2_with fail;refine(Hry.o _ (HT.o.trans0 HT2.o)).mono ?_;rintro e w3 ⟨rfl,t3⟩;obtain⟨p0,p1,p2,p3,p4,p5,p6,p7,p8,p9,p10,p11,p12,p13,p14,p15⟩:=fg (t3.blk (HT2.o.blk HB.o.1 (by simp)) (by simp));obtain⟨x0,x1,_,_⟩:=eL (t3.blk (HT2.o.blk HB.o.2.1 (by simp)) (by simp));obtain⟨y0,y1,_,_⟩:=eL (t3.blk (HT2.o.blk HB.o.2.2 (by simp)) (by simp));have HT3:=lh (HT2.o.trans0 t3);clear t3;have Ho:=lh (Hv1.o (by first | trivial | rfl) (by first | (intro _;trivial) | (intro _;rfl)) _ (HT.o.trans0 HT3.o));clear Hv1;go_wp2_with fail;refine Ho.o.mono ?_;rintro e w4 ⟨⟨sA,sn,sc⟩,rfl,s1,s2,t4⟩;dsimp only at s1 s2;subst s1;have HS:=lh s2
  have HT4:=lh (HT.o.trans0 (HT3.o.trans0 t4));clear s2 t4;by_cases hv0:ver=0
  ·subst hv0;have Hc:=lh (Hck.o sA sc w4 HS.o);by_cases hK0:K=0
   ·subst hK0;have Hq:=lh (show G=(0,vcs) by rw[HF.o,ae rfl,ae rfl]);go_wp2_with fail;refine Hc.o.mono ?_;rintro e w5 ⟨rfl,t5⟩;go_wp2;go_ret2;rw[Hq.o];exact⟨⟨sA,vcs.length,sc⟩,rfl,rfl,HS.o.touch0 t5,HT4.o.trans0 t5⟩
   have Hq:=lh (show G=(K,[]) by rw[HF.o,ae rfl,ab hK0]);have qK:(K==0)=false:=by rw[aw];exact hK0
   have qK':(K != 0)=true:=by rw[bne,qK];rfl
   clear hK0;go_wp2_with fail;refine Hc.o.mono ?_;rintro e w5 ⟨rfl,t5⟩;go_wp2;go_ret2;rw[Hq.o];exact eI.err K (HT4.o.trans0 t5)
  have Hq:=lh (show G=(ver,[]) by rw[HF.o,ab hv0]);have qv:(ver==0)=false:=by rw[aw];exact hv0
  have qv':(ver != 0)=true:=by rw[bne,qv];rfl
  clear hv0;go_wp2;go_ret2;rw[Hq.o];exact eI.err ver HT4.o
 have HF:=lh (show G=if ver=0 then (if K=0 then (0,vcs) else (K,[])) else (ver,[]) by rw[HG2.o,ab (λq=>hz2 q.1)]);have qz:(z==2)=false:=by rw[aw];exact hz2
 go_enter Tryz.func17,Tryz.ntmps17;go_upto_region 1 with fail;rw[<- HW.o];go_wp2_with fail;refine(Hrx.o _ HT.o).mono ?_;rintro e w1 ⟨rfl,t1⟩;obtain⟨p0,p1,p2,p3,p4,p5,p6,p7,p8,p9,p10,p11,p12,p13,p14,p15⟩:=fg (t1.blk HB.o.1 (by simp));obtain⟨x0,x1,_,_⟩:=eL (t1.blk HB.o.2.1 (by simp));obtain⟨y0,y1,_,_⟩:=eL (t1.blk HB.o.2.2 (by simp));have HT1:=lh t1;clear t1;go_wp2_with fail;refine(Hnd.o _).mono ?_;rintro e w2 ⟨rfl,t2⟩;obtain⟨p0,p1,p2,p3,p4,p5,p6,p7,p8,p9,p10,p11,p12,p13,p14,p15⟩:=fg (t2.blk (HT1.o.blk HB.o.1 (by simp)) (by simp));obtain⟨x0,x1,_,_⟩:=eL (t2.blk (HT1.o.blk HB.o.2.1 (by simp)) (by simp));obtain⟨y0,y1,_,_⟩:=eL (t2.blk (HT1.o.blk HB.o.2.2 (by simp)) (by simp));have HT2:=lh (HT1.o.trans0 t2);clear t2;have Ho:=lh (Hv1.o (by first | trivial | rfl) (by first | trivial | exact λh=>absurd h hz2) _ (HT.o.trans0 HT2.o));clear Hv1;go_wp2_with fail;refine Ho.o.mono ?_;rintro e w4 ⟨⟨sA,sn,sc⟩,rfl,s1,s2,t4⟩;dsimp only at s1 s2;subst s1;have HS:=lh s2;have HT4:=lh (HT.o.trans0 (HT2.o.trans0 t4));clear s2 t4;by_cases hv0:ver=0
 ·subst hv0;have Hc:=lh (Hck.o sA sc w4 HS.o);by_cases hK0:K=0
  ·subst hK0;have Hq:=lh (show G=(0,vcs) by rw[HF.o,ae rfl,ae rfl]);go_wp2_with fail;refine Hc.o.mono ?_;rintro e w5 ⟨rfl,t5⟩;go_wp2;go_ret2;rw[Hq.o];exact⟨⟨sA,vcs.length,sc⟩,rfl,rfl,HS.o.touch0 t5,HT4.o.trans0 t5⟩
  have Hq:=lh (show G=(K,[]) by rw[HF.o,ae rfl,ab hK0]);have qK:(K==0)=false:=by rw[aw];exact hK0
  have qK':(K != 0)=true:=by rw[bne,qK];rfl
  clear hK0;go_wp2_with fail;refine Hc.o.mono ?_;rintro e w5 ⟨rfl,t5⟩;go_wp2;go_ret2;rw[Hq.o];exact eI.err K (HT4.o.trans0 t5)
 have Hq:=lh (show G=(ver,[]) by rw[HF.o,ab hv0]);have qv:(ver==0)=false:=by rw[aw];exact hv0
 have qv':(ver != 0)=true:=by rw[bne,qv];rfl
 clear hv0;go_wp2;go_ret2;rw[Hq.o];exact eI.err ver HT4.o
end
section
open Go.RowKit
def t_(a b:VD):Bool:=decide (a.kind=b.kind)&&(decide (a.num=b.num)&&decide (a.text=b.text))
theorem xH(a b:VD):t_ a b=true ↔ a=b:=by obtain⟨ak,an,at_⟩:=a;obtain⟨bk,bn,bt⟩:=b;simp[t_]
theorem vo(a b:VD)(w:World):(Op.equalIn 10000 31 (.agg #[.int .i64 a.kind,.int .i64 a.num,.string a.text]) (.agg #[.int .i64 b.kind,.int .i64 b.num,.string b.text])).run Tryz.prog w=.ok (t_ a b) w:=by
 have hS:Tryz.prog.underlying 31=some (.struct (Tryz.prog.fieldsOf 31)):=by kernel_rfl
 have hp:Tryz.prog.stoodInHeld 31=false:=by kernel_rfl
 rw[show (10000:Nat)=9999+1 from rfl,run_equalIn_agg w 9999 31 _ _ hS hp];simp only[Program.fieldsOf,Tryz.underlying31];have hs:=jZ a.text b.text;go_simp;by_cases h1:a.kind=b.kind<;>by_cases h2:a.num=b.num<;>by_cases h3:a.text=b.text<;>simp[t_,h1,h2,h3]
theorem uh(op:BinOp)(x y:Operand)(a b:Array Value)(w:World):(eqGuard op 31 x y (.agg a) (.agg b)).run Tryz.prog w=.ok () w:=run_eqGuard_agg w op _ x y _ _ (by kernel_rfl)
def jJ:List VD->List VD->Bool
 | [],[]=>true
 |a:: r,b:: s=>t_ a b&&jJ r s
 | _,_=>false
theorem rz(l r:List VD):jJ l r=true ↔ l=r:=by
 induction l generalizing r with
 |nil=>cases r<;>simp[jJ]
 |cons a l ih=>cases r with
  |nil=>simp[jJ]
  |cons b r=>simp[jJ,ih,xH]
theorem zI(A B:Option Addr)(c1 c2 n m:Nat)(l r:List VD)(hn:l.length=n)(hm:r.length=m)(w:World)(h:eu w A l)(h2:eu w B r)(hl:n<=140737000000000)(hl2:m<=140737000000000): Calls Tryz.prog 54 #[.slice A n c1,.slice B m c2] w λe w'=>e=.returned (.bool (jJ l r))/\Touch [] w w':=by
 subst hn hm;by_cases hlen:l.length=r.length
 ·have Hlen:=lh hlen;have hq:((l.length:Int)==(r.length:Int))=true:=by rw[dx];omega
  have hq':((l.length:Int) != (r.length:Int))=false:=by rw[bne,hq];rfl
  clear hlen;go_enter Tryz.func54,Tryz.ntmps54;go_wp2;clear hq hq';go_loopw [13] (λi wr=>∃k:Nat,k<=l.length/\i=.int .i64 k/\Ga (jJ l r=jJ (l.drop k) (r.drop k))/\Touch [] w wr) (λi _=>l.length-(intOf i).toNat)
  case atStart=>exact⟨0,by omega,rfl,lh rfl,Touch.refl _ _⟩
  case round =>
  obtain⟨k,hk,rfl,He,ht⟩:=hrel;by_cases hlt:k<l.length
  ·have hlt2:k<r.length:=by have:=Hlen.o;omega
   obtain⟨ad,b,off,rfl,hadd,c0,c1,c2'⟩:=(h.touch0 ht).at_ k hlt;obtain⟨bd,b2,off2,rfl,hadd2,d0,d1,d2⟩:=(h2.touch0 ht).at_ k hlt2;have hst:jJ l r=(t_ l[k] r[k]&&jJ (l.drop (k+1)) (r.drop (k+1))):=by rw[He.o,bj hlt,bj hlt2];rfl
   have heq:=vo l[k] r[k];obtain⟨x,hx⟩:∃x,x=l[k]:=⟨_,rfl⟩;obtain⟨y,hy⟩:∃y,y=r[k]:=⟨_,rfl⟩;rw[<- hx,<- hy] at hst heq;rw[<- hx] at c0 c1 c2';rw[<- hy] at d0 d1 d2;have Hst:=lh hst;have hgd:=uh;have g0:=TW.cell c0;have g1:=TW.cell c1;have g2:=TW.cell d0;have g3:=TW.cell d1;have g4:=TW.cell c2';have g5:=TW.cell d2;have hkI0:(0:Int)<=(k:Int):=by omega
   have hkI:(k:Int)<(l.length:Int):=by omega
   have hkI2:(k:Int)<(r.length:Int):=by omega
   clear hst hx hy He c0 c1 d0 d1 c2' d2;rcases hxy:t_ x y with _|_
   ·have Hf:=lh (show jJ l r=false by rw[Hst.o,hxy];rfl);rw[hxy] at heq;clear hxy;go_wp2;refine eh wr (Touch.refl _ _) (by kernel_rfl) (by kernel_rfl) ?_;repeat (go_big_quiet_step (fail))
    refine aS ?_;rintro _ ⟨x2,rfl⟩;go_wp2;go_ret;exact⟨eo (by rw[Hf.o]),ht.trans0 x2.t⟩
   have Hf:=lh (show jJ l r=jJ (l.drop (k+1)) (r.drop (k+1)) by rw[Hst.o,hxy];rfl);rw[hxy] at heq;clear hxy;go_wp2;refine eh wr (Touch.refl _ _) (by kernel_rfl) (by kernel_rfl) ?_;repeat (go_big_quiet_step (fail))
   refine aS ?_;rintro _ ⟨x2,rfl⟩;go_wp2;go_roundw
   case rel=>exact⟨k+1,by omega,by go_num,Hf,ht.trans0 x2.t⟩
   case measure=>simp[intOf];omega
  obtain rfl:k=l.length:=by omega
  have Hf:=lh (show jJ l r=true by rw[He.o,bY,b_ (by have:=Hlen.o;omega)];rfl);go_wp2;go_ret;exact⟨eo (by rw[Hf.o]),ht⟩
 have Hf:=lh (show jJ l r=false by rw[d7];intro h;rw[rz] at h;exact hlen (by rw[h]))
 have hq:((l.length:Int)==(r.length:Int))=false:=by rw[aw];omega
 have hq':((l.length:Int) != (r.length:Int))=true:=by rw[bne,hq];rfl
 clear hlen;go_enter Tryz.func54,Tryz.ntmps54;go_wp2;go_ret;exact⟨eo (by rw[Hf.o]),Touch.refl _ _⟩
end
end Go.Proofs.YtafoklilkdnepaaGreatDoor
