/- Part 29 of the texts of this proof, one behind the other. No condition beyond those that its theorems state. -/
import Derived.Test.YtafoklilkdnepaaGreatDoorRe28
set_option linter.all false
set_option maxRecDepth 40000
set_option maxHeartbeats 25600000
namespace Go.Proofs.YtafoklilkdnepaaGreatDoor
section
open Go.RowKit
theorem mO(op:ByteArray):iz fy op=(decide (op=iM)||(decide (op=iD)||(decide (op=gB)||decide (op=gZ)))):=by unfold iz fy;simp only[List.any_cons,List.any_nil,Bool.or_false];rfl
theorem yJ{cs:List CD}{op col nm:ByteArray}(h1:op≠iM)(h2:op≠iD)(h3:op≠gB)(h4:op≠gZ):fU cs ⟨op,col,nm⟩=(0,20):=by unfold fU;rw[ae (by rw[mO,aC h1,aC h2,aC h3,aC h4];rfl)]
theorem i6{cs:List CD}{op col nm:ByteArray}(h:iz fy op=true):fU cs ⟨op,col,nm⟩=(if col=⟨#[]⟩ then (if op=iM then ((1,0):Int × Int) else (0,20)) else match fA cs col with
  |none=>(0,13)
  |some t=>if op=iD/\t=2 then (0,12) else if op=gB\/op=gZ then (t,0) else (1,0)):=by
 unfold fU;rw[ab (by rw[h];simp)];rfl
theorem yV(x:PC)(names:List ByteArray)(aggs:List AG)(hnn:x.names.n=names.length)(han:x.aggs.n=aggs.length)(SA:Option Addr)(c1 n1:Nat)(a:List CD)(h1:a.length=n1)(hl1:n1<=1000000)(hln:names.length<=100000)(hla:aggs.length<=100000)(w:World) (hr:d9 gD w x.names.A names) (hg:d9 lK w x.aggs.A aggs) (ha:em w SA a) : Calls Tryz.prog 70 #[x.val,.slice SA n1 c1] w (fB (g_ a names aggs) w):=by
 subst h1;have Hv:=lh (show g_ a names aggs=match jQ a [] names with | none=>(13,[]) | some l=>jP a l aggs from rfl);obtain⟨V,hV⟩:∃V,V=g_ a names aggs:=⟨_,rfl⟩;rw[<- hV] at Hv ⊢;clear hV;obtain⟨k0,k1,⟨A2,n2,c2'⟩,⟨⟨ck,cn,⟨cvk,cvn,cvt⟩,cop⟩,CA,cnn,cc⟩,⟨NA,nn,nc⟩,⟨EA,en,ec⟩,⟨OA,ol,oc⟩,⟨GA,gn,gc⟩,⟨BA,bn,bc⟩,count⟩:=x;simp only[PC.val] at *;subst hnn han;obtain⟨W,hW⟩:∃W,W=w.alloc (.cells #[.int .i64 k0,.string k1,.slice A2 n2 c2',.int .i64 ck,.string cn,.int .i64 cvk,.int .i64 cvn,.string cvt,.string cop,.slice CA cnn cc,.slice NA names.length nc,.slice EA en ec,.slice OA ol oc,.slice GA aggs.length gc,.slice BA bn bc,.int .i64 count] 49):=⟨_,rfl⟩;have t0:Touch [] w W:=hW ▸ (Touch.refl [] w).alloc _;have hb0:=hW ▸ ah w (.cells #[.int .i64 k0,.string k1,.slice A2 n2 c2',.int .i64 ck,.string cn,.int .i64 cvk,.int .i64 cvn,.string cvt,.string cop,.slice CA cnn cc,.slice NA names.length nc,.slice EA en ec,.slice OA ol oc,.slice GA aggs.length gc,.slice BA bn bc,.int .i64 count] 49);have c13:W.cell? ⟨w.heap.size,13,none⟩=some (.slice GA aggs.length gc):=d_ hb0 rfl;have HW:=lh hW;have HT0:=Gb t0 c13;have HRW:=Gc (hr.touch0 t0) (hg.touch0 t0) (ha.touch0 t0);clear t0 hb0 hW c13 hr hg ha;go_enter Tryz.func70,Tryz.ntmps70;go_wp2_with fail;rw[<- HW.o]
 go_loopw [6,17] (λo i wr=>∃(k:Nat)(A:Option Addr)(c:Nat)(acc:List CD),k<=names.length/\i=.int .i64 k/\o=.slice A k c/\Ga (acc.length=k)/\Ga (jQ a [] names=jQ a acc (names.drop k))/\Ga (Made 29 2 fQ acc A c W wr)) (λ_ i _=>names.length-(intOf i).toNat)
 case atStart=>exact⟨0,none,0,[],by omega,rfl,rfl,lh rfl,lh (by rw[dA]),lh (Made.nil _ _ _ _)⟩
 case round =>
 obtain⟨k,A,c,acc,hk,rfl,rfl,HL,Hd,HM⟩:=hrel;by_cases hlt:k<names.length
 ·obtain⟨ad,b1,o1,rfl,hadd,hc⟩:=d9.cells (HRW.o.1.touch0 HM.o.t) 1 iR (by omega) k hlt;rw[bO] at hadd;have e0:=hc 0 _ rfl;rw[aM] at e0;have hst:=wz a acc names k hlt;obtain⟨p,hp⟩:∃p,p=names[k]:=⟨_,rfl⟩;rw[<- hp] at hst e0;have hfa:=λw'(t:Touch [] W w')=>ip SA c1 a.length a rfl p w' (HRW.o.2.2.touch0 t) (by omega);have hkn:(k:Int)<(names.length:Int):=by omega
  rcases hpa:ef a p with _|i
  ·rw[show eM a p = -1 by unfold eM;rw[hpa]] at hfa;have Hq2:=lh (show V=(13,[]) by rw[Hv.o,Hd.o,hst,hpa]);have Hfa:=lh (hfa _ HM.o.t);clear hfa hpa hst hc hp;go_wp2_with fail;refine Hfa.o.mono ?_;rintro e w1 ⟨rfl,t1⟩;go_wp2;go_ret2;rw[Hq2.o];exact fB.err 13 ((HT0.o.1.trans0 HM.o.t).trans0 t1)
  rw[show eM a p=(i:Int) by unfold eM;rw[hpa]] at hfa;have hil:=eS hpa;obtain⟨ad2,b2,o2,rfl,hadd2,e2,e3⟩:=(HRW.o.2.2.touch0 HM.o.t).at_ i hil;have hts:jQ a acc (names.drop k)=jQ a (acc++[a[i]]) (names.drop (k+1)):=by rw[hst,hpa];simp[hil]
  obtain⟨cd,hcd⟩:∃cd,cd=a[i]:=⟨_,rfl⟩;rw[<- hcd] at e2 e3 hts;obtain⟨cnm,cty⟩:=cd;have hi0:(0:Int)<=(i:Int):=by omega
  have hi1:((i:Int)<0)=False:=bi (by omega);have hin:(i:Int)<(a.length:Int):=by omega
  have Hn:=lh (show jQ a [] names=jQ a (acc++[⟨cnm,cty⟩]) (names.drop (k+1)) by rw[Hd.o,hts]);have Hfa:=lh (hfa _ HM.o.t);clear hfa hpa hst hc hp hts hcd;go_wp2_with fail;refine Hfa.o.mono ?_;rintro e w1 ⟨rfl,t1⟩;have e2':=t1.cell e2 (by simp);have e3':=t1.cell e3 (by simp);have HM1:=lh (HM.o.touch0 t1);clear t1 HM;go_wp2_with (at_builtin;refine ez ?_);refine go ?_;have ta:=(Touch.refl [] w1).alloc (.cells #[.string cnm,.int .i64 cty] 29);refine eb (enc:=fQ) rfl (.tmp 26) (.tmp 31) 24 rfl 29 _ 2 24 gN bC rfl (by omega) eZ gq A k c acc HL.o rfl (HM1.o.touch0 ta).own
   (some ⟨w1.heap.size,0,none⟩) 1 1 [⟨cnm,cty⟩] rfl rfl (d9.one (enc:=fQ) w1 29 ⟨cnm,cty⟩ _ rfl) (by omega) (by omega) ?_
  intro A' c' w' hown ht hf;have HX:=lh ((HM1.o.touch0 ta).step hown ht hf);clear hown ht hf ta;go_wp2_with fail;go_roundw
  case rel=>exact⟨k+1,A',c',acc++[⟨cnm,cty⟩],by omega,by go_num,rfl,lh (by rw[az,HL.o];rfl),Hn,HX⟩
  case measure=>simp[intOf];omega
 obtain rfl:k=names.length:=by omega
 have Hl:=lh (show V=jP a acc (aggs.drop 0) by rw[Hv.o,Hd.o,bY,dA];rfl);have d13:=HM.o.t.cell HT0.o.2 (by simp);clear Hd Hv;go_wp2_with fail;go_loopw [6,37] (λo i w1=>∃(j m:Nat)(A:Option Addr)(c:Nat)(acc:List CD),j<=aggs.length/\m<=200000/\i=.int .i64 j/\o=.slice A m c/\Ga (acc.length=m/\m=names.length+j)/\Ga (V=jP a acc (aggs.drop j))/\Ga (Made 29 2 fQ acc A c W w1)) (λ_ i _=>aggs.length-(intOf i).toNat)
 case atStart=>exact⟨0,names.length,A,c,acc,by omega,by omega,rfl,rfl,lh ⟨HL.o,rfl⟩,Hl,HM⟩
 case round =>
 clear Hl HM HL hlt d13;obtain⟨j,m,A,c,acc,hj,hmb,rfl,rfl,HL,Hd,HM⟩:=hrel;by_cases hlt:j<aggs.length;rotate_left
 ·obtain rfl:j=aggs.length:=by omega
  have Hn:=lh (show V=(0,acc) by rw[Hd.o,bY];rfl);clear Hd;go_wp2;go_ret2;rw[Hn.o];obtain⟨hm1,_⟩:=HL.o;subst hm1;exact⟨A,c,rfl,HM.o.own,HT0.o.1.trans0 HM.o.t,λb hb=>bm HT0.o.1.size (HM.o.f b hb)⟩
 obtain⟨ad,b1,o1,rfl,hadd,hc⟩:=d9.cells (HRW.o.2.1.touch0 HM.o.t) 3 kq (by omega) j hlt;have hst:=uS a acc aggs j hlt;obtain⟨p,hp⟩:∃p,p=aggs[j]:=⟨_,rfl⟩;rw[<- hp] at hst hc;have e0:=hc 0 _ rfl;have e1:=hc 1 _ rfl;have e2:=hc 2 _ rfl;rw[aM] at e0;obtain⟨op,col,nm⟩:=p;dsimp only at e0 e1 e2 hst;have ta:=(Touch.refl [] wr).alloc (.cells #[.string op,.string col,.string nm] 79);have hbl:=ah wr (.cells #[.string op,.string col,.string nm] 79);have hfa:=ip SA c1 a.length a rfl col _ (HRW.o.2.2.touch0 (HM.o.t.trans0 ta)) (by omega);have Hst:=lh (show V=if (fU a ⟨op,col,nm⟩).2=0 then jP a (acc++[⟨nm,(fU a ⟨op,col,nm⟩).1⟩]) (aggs.drop (j+1)) else ((fU a ⟨op,col,nm⟩).2,[]) by rw[Hd.o,hst]);have hkn:(j:Int)<(aggs.length:Int):=by omega
 have HTa:=Gb ta hbl;obtain⟨z,hz⟩:∃z,z=eM a col:=⟨_,rfl⟩;rw[<- hz] at hfa;have Hfa:=lh hfa;have Hz:=lh hz;clear hst hc hp ta hbl hfa hz;by_cases hC:op=iM
 ·have nS:op≠iD:=by rw[hC];decide
  have nMi:op≠gB:=by rw[hC];decide
  have nMa:op≠gZ:=by rw[hC];decide
  have qC:(op.toList==[99,111,117,110,116])=true:=(eK op _ iM rfl).trans (aF hC);have qC':(op.toList != [99,111,117,110,116])=false:=by rw[bne,qC];rfl
  have qS:(op.toList==[115,117,109])=false:=(eK op _ iD rfl).trans (aC nS);have qS':(op.toList != [115,117,109])=true:=by rw[bne,qS];rfl
  have qMi:(op.toList==[109,105,110])=false:=(eK op _ gB rfl).trans (aC nMi);have qMi':(op.toList != [109,105,110])=true:=by rw[bne,qMi];rfl
  have qMa:(op.toList==[109,97,120])=false:=(eK op _ gZ rfl).trans (aC nMa);have qMa':(op.toList != [109,97,120])=true:=by rw[bne,qMa];rfl
  have hmem:iz fy op=true:=by rw[mO,aF hC];simp
  by_cases h5:col=⟨#[]⟩
  ·have Hn:=lh (show V=jP a (acc++[⟨nm,1⟩]) (aggs.drop (j+1)) by rw[Hst.o,i6 hmem,ae h5,ae hC];rfl);have q5:col.toList.isEmpty=true:=by rw[fi];exact aF h5
   clear h5 hmem hC nS nMi nMa;clear Hst;go_wp2_with fail;refine Hfa.o.mono ?_;rintro e w1 ⟨rfl,t1⟩;obtain⟨g0,g1,g2,_,_,_⟩:=eJ (t1.blk HTa.o.2 (by simp));have HM1:=lh ((HM.o.touch0 HTa.o.1).touch0 t1);clear t1 HM;go_wp2_with (at_builtin;refine ez ?_);refine go ?_;have ta:=(Touch.refl [] w1).alloc (.cells #[.string nm,.int .i64 1] 29);refine eb (enc:=fQ) rfl (.tmp 105) (.tmp 110) 24 rfl 29 _ 2 24 gN bC rfl (by omega) eZ gq A m c acc HL.o.1 rfl (HM1.o.touch0 ta).own
    (some ⟨w1.heap.size,0,none⟩) 1 1 [⟨nm,1⟩] rfl rfl (d9.one (enc:=fQ) w1 29 ⟨nm,1⟩ _ rfl) (by omega) (by omega) ?_
   intro A' c' w' hown ht hf;have HX:=lh ((HM1.o.touch0 ta).step hown ht hf);clear hown ht hf ta;go_wp2_with fail;go_roundw
   case rel=>exact⟨j+1,m+1,A',c',acc++[⟨nm,1⟩],by omega,by have:=HL.o.2;omega,by go_num,rfl,lh ⟨by rw[az,HL.o.1];rfl,by rw[HL.o.2];omega⟩,Hn,HX⟩
   case measure=>simp[intOf];omega
  rcases hpa:ef a col with _ | i
  ·have hto:fA a col=none:=by unfold fA;rw[hpa];rfl
   obtain rfl:z = -1:=by rw[Hz.o];unfold eM;rw[hpa]
   have Hn:=lh (show V=(13,[]) by rw[Hst.o,i6 hmem,ab h5,hto];rfl);have q5:col.toList.isEmpty=false:=by rw[fi];exact aC h5
   clear h5 hmem hpa hto;clear hC nS nMi nMa;clear Hst;go_wp2_with fail;refine Hfa.o.mono ?_;rintro e w1 ⟨rfl,t1⟩;obtain⟨g0,g1,g2,_,_,_⟩:=eJ (t1.blk HTa.o.2 (by simp));have HM1:=lh (((HT0.o.1.trans0 HM.o.t).trans0 HTa.o.1).trans0 t1);clear t1 HM;go_wp2;go_ret2;rw[Hn.o];exact fB.err 13 HM1.o
  have hil:=eS hpa;obtain⟨ad2,b2,o2,rfl,hadd2, -,e3⟩:=(HRW.o.2.2.touch0 HM.o.t).at_ i hil;have hto:fA a col=some a[i].typ:=by unfold fA;rw[hpa];simp[hil]
  obtain⟨ty,hty⟩:∃ty,ty=a[i].typ:=⟨_,rfl⟩;rw[<- hty] at e3 hto;obtain rfl:z=(i:Int):=by rw[Hz.o];unfold eM;rw[hpa]
  have hi0:(0:Int)<=(i:Int):=by omega
  have hi1:((i:Int)<0)=False:=bi (by omega);have hin:(i:Int)<(a.length:Int):=by omega
  have Hn:=lh (show V=jP a (acc++[⟨nm,1⟩]) (aggs.drop (j+1)) by rw[Hst.o,i6 hmem,ab h5,hto,show (match some ty with | none=>((0,13):Int × Int) | some t=>if op=iD/\t=2 then (0,12) else if op=gB\/op=gZ then (t,0) else (1,0))=(1,0) from (by dsimp only;rw[ab (λq=>nS q.1),ab (λq=>q.elim nMi nMa)])];rfl);have q5:col.toList.isEmpty=false:=by rw[fi];exact aC h5
  clear h5 hmem hpa hto hty hil;clear hC nS nMi nMa;clear Hst;go_wp2_with fail;refine Hfa.o.mono ?_;rintro e w1 ⟨rfl,t1⟩;obtain⟨g0,g1,g2,_,_,_⟩:=eJ (t1.blk HTa.o.2 (by simp));have HM1:=lh ((HM.o.touch0 HTa.o.1).touch0 t1);clear t1 HM;go_wp2_with (at_builtin;refine ez ?_);refine go ?_;have ta:=(Touch.refl [] w1).alloc (.cells #[.string nm,.int .i64 1] 29);refine eb (enc:=fQ) rfl (.tmp 105) (.tmp 110) 24 rfl 29 _ 2 24 gN bC rfl (by omega) eZ gq A m c acc HL.o.1 rfl (HM1.o.touch0 ta).own
   (some ⟨w1.heap.size,0,none⟩) 1 1 [⟨nm,1⟩] rfl rfl (d9.one (enc:=fQ) w1 29 ⟨nm,1⟩ _ rfl) (by omega) (by omega) ?_
  intro A' c' w' hown ht hf;have HX:=lh ((HM1.o.touch0 ta).step hown ht hf);clear hown ht hf ta;go_wp2_with fail;go_roundw
  case rel=>exact⟨j+1,m+1,A',c',acc++[⟨nm,1⟩],by omega,by have:=HL.o.2;omega,by go_num,rfl,lh ⟨by rw[az,HL.o.1];rfl,by rw[HL.o.2];omega⟩,Hn,HX⟩
  case measure=>simp[intOf];omega
 by_cases hS:op=iD
 ·have nC:op≠iM:=by rw[hS];decide
  have nMi:op≠gB:=by rw[hS];decide
  have nMa:op≠gZ:=by rw[hS];decide
  have qC:(op.toList==[99,111,117,110,116])=false:=(eK op _ iM rfl).trans (aC nC);have qC':(op.toList != [99,111,117,110,116])=true:=by rw[bne,qC];rfl
  have qS:(op.toList==[115,117,109])=true:=(eK op _ iD rfl).trans (aF hS);have qS':(op.toList != [115,117,109])=false:=by rw[bne,qS];rfl
  have qMi:(op.toList==[109,105,110])=false:=(eK op _ gB rfl).trans (aC nMi);have qMi':(op.toList != [109,105,110])=true:=by rw[bne,qMi];rfl
  have qMa:(op.toList==[109,97,120])=false:=(eK op _ gZ rfl).trans (aC nMa);have qMa':(op.toList != [109,97,120])=true:=by rw[bne,qMa];rfl
  have hmem:iz fy op=true:=by rw[mO,aF hS];simp
  by_cases h5:col=⟨#[]⟩
  ·have Hn:=lh (show V=(20,[]) by rw[Hst.o,i6 hmem,ae h5,ab nC];rfl);have q5:col.toList.isEmpty=true:=by rw[fi];exact aF h5
   clear h5 hmem;clear hS nC nMi nMa;clear Hst;go_wp2_with fail;refine Hfa.o.mono ?_;rintro e w1 ⟨rfl,t1⟩;obtain⟨g0,g1,g2,_,_,_⟩:=eJ (t1.blk HTa.o.2 (by simp));have HM1:=lh (((HT0.o.1.trans0 HM.o.t).trans0 HTa.o.1).trans0 t1);clear t1 HM;go_wp2;go_ret2;rw[Hn.o];exact fB.err 20 HM1.o
  rcases hpa:ef a col with _ | i
  ·have hto:fA a col=none:=by unfold fA;rw[hpa];rfl
   obtain rfl:z = -1:=by rw[Hz.o];unfold eM;rw[hpa]
   have Hn:=lh (show V=(13,[]) by rw[Hst.o,i6 hmem,ab h5,hto];rfl);have q5:col.toList.isEmpty=false:=by rw[fi];exact aC h5
   clear h5 hmem hpa hto;clear hS nC nMi nMa;clear Hst;go_wp2_with fail;refine Hfa.o.mono ?_;rintro e w1 ⟨rfl,t1⟩;obtain⟨g0,g1,g2,_,_,_⟩:=eJ (t1.blk HTa.o.2 (by simp));have HM1:=lh (((HT0.o.1.trans0 HM.o.t).trans0 HTa.o.1).trans0 t1);clear t1 HM;go_wp2;go_ret2;rw[Hn.o];exact fB.err 13 HM1.o
  have hil:=eS hpa;obtain⟨ad2,b2,o2,rfl,hadd2, -,e3⟩:=(HRW.o.2.2.touch0 HM.o.t).at_ i hil;have hto:fA a col=some a[i].typ:=by unfold fA;rw[hpa];simp[hil]
  obtain⟨ty,hty⟩:∃ty,ty=a[i].typ:=⟨_,rfl⟩;rw[<- hty] at e3 hto;obtain rfl:z=(i:Int):=by rw[Hz.o];unfold eM;rw[hpa]
  have hi0:(0:Int)<=(i:Int):=by omega
  have hi1:((i:Int)<0)=False:=bi (by omega);have hin:(i:Int)<(a.length:Int):=by omega
  by_cases h2:ty=2
  ·have hE:fU a ⟨op,col,nm⟩=(0,12):=by rw[i6 hmem,ab h5,hto];dsimp only;rw[ae ⟨hS,h2⟩]
   subst h2;have Hn:=lh (show V=(12,[]) by rw[Hst.o,hE];rfl);clear hE;have q5:col.toList.isEmpty=false:=by rw[fi];exact aC h5
   clear h5 hmem hpa hto hty hil;clear hS nC nMi nMa;clear Hst;go_wp2_with fail;refine Hfa.o.mono ?_;rintro e w1 ⟨rfl,t1⟩;have e3':=(HTa.o.1.trans0 t1).cell e3 (by simp);obtain⟨g0,g1,g2,_,_,_⟩:=eJ (t1.blk HTa.o.2 (by simp));have HM1:=lh (((HT0.o.1.trans0 HM.o.t).trans0 HTa.o.1).trans0 t1);clear t1 HM;go_wp2;go_ret2;rw[Hn.o];exact fB.err 12 HM1.o
  have hE:fU a ⟨op,col,nm⟩=(1,0):=by rw[i6 hmem,ab h5,hto];dsimp only;rw[ab (λq=>h2 q.2),ab (λq=>q.elim nMi nMa)]
  have hq2:(ty==2)=false:=by rw[aw];exact h2
  have Hn:=lh (show V=jP a (acc++[⟨nm,1⟩]) (aggs.drop (j+1)) by rw[Hst.o,hE];rfl);clear hE h2;have q5:col.toList.isEmpty=false:=by rw[fi];exact aC h5
  clear h5 hmem hpa hto hty hil;clear hS nC nMi nMa;clear Hst;go_wp2_with fail;refine Hfa.o.mono ?_;rintro e w1 ⟨rfl,t1⟩;obtain⟨g0,g1,g2,_,_,_⟩:=eJ (t1.blk HTa.o.2 (by simp));have e3':=(HTa.o.1.trans0 t1).cell e3 (by simp);have HM1:=lh ((HM.o.touch0 HTa.o.1).touch0 t1);clear t1 HM;go_wp2_with (at_builtin;refine ez ?_);refine go ?_;have ta:=(Touch.refl [] w1).alloc (.cells #[.string nm,.int .i64 1] 29);refine eb (enc:=fQ) rfl (.tmp 105) (.tmp 110) 24 rfl 29 _ 2 24 gN bC rfl (by omega) eZ gq A m c acc HL.o.1 rfl (HM1.o.touch0 ta).own
   (some ⟨w1.heap.size,0,none⟩) 1 1 [⟨nm,1⟩] rfl rfl (d9.one (enc:=fQ) w1 29 ⟨nm,1⟩ _ rfl) (by omega) (by omega) ?_
  intro A' c' w' hown ht hf;have HX:=lh ((HM1.o.touch0 ta).step hown ht hf);clear hown ht hf ta;go_wp2_with fail;go_roundw
  case rel=>exact⟨j+1,m+1,A',c',acc++[⟨nm,1⟩],by omega,by have:=HL.o.2;omega,by go_num,rfl,lh ⟨by rw[az,HL.o.1];rfl,by rw[HL.o.2];omega⟩,Hn,HX⟩
  case measure=>simp[intOf];omega
 by_cases hMi:op=gB
 ·have nC:op≠iM:=by rw[hMi];decide
  have nS:op≠iD:=by rw[hMi];decide
  have nMa:op≠gZ:=by rw[hMi];decide
  have qC:(op.toList==[99,111,117,110,116])=false:=(eK op _ iM rfl).trans (aC nC);have qC':(op.toList != [99,111,117,110,116])=true:=by rw[bne,qC];rfl
  have qS:(op.toList==[115,117,109])=false:=(eK op _ iD rfl).trans (aC nS);have qS':(op.toList != [115,117,109])=true:=by rw[bne,qS];rfl
  have qMi:(op.toList==[109,105,110])=true:=(eK op _ gB rfl).trans (aF hMi);have qMi':(op.toList != [109,105,110])=false:=by rw[bne,qMi];rfl
  have qMa:(op.toList==[109,97,120])=false:=(eK op _ gZ rfl).trans (aC nMa);have qMa':(op.toList != [109,97,120])=true:=by rw[bne,qMa];rfl
  have hmem:iz fy op=true:=by rw[mO,aF hMi];simp
  by_cases h5:col=⟨#[]⟩
  ·have Hn:=lh (show V=(20,[]) by rw[Hst.o,i6 hmem,ae h5,ab nC];rfl);have q5:col.toList.isEmpty=true:=by rw[fi];exact aF h5
   clear h5 hmem;clear hMi nC nS nMa;clear Hst;go_wp2_with fail;refine Hfa.o.mono ?_;rintro e w1 ⟨rfl,t1⟩;obtain⟨g0,g1,g2,_,_,_⟩:=eJ (t1.blk HTa.o.2 (by simp));have HM1:=lh (((HT0.o.1.trans0 HM.o.t).trans0 HTa.o.1).trans0 t1);clear t1 HM;go_wp2;go_ret2;rw[Hn.o];exact fB.err 20 HM1.o
  rcases hpa:ef a col with _ | i
  ·have hto:fA a col=none:=by unfold fA;rw[hpa];rfl
   obtain rfl:z = -1:=by rw[Hz.o];unfold eM;rw[hpa]
   have Hn:=lh (show V=(13,[]) by rw[Hst.o,i6 hmem,ab h5,hto];rfl);have q5:col.toList.isEmpty=false:=by rw[fi];exact aC h5
   clear h5 hmem hpa hto;clear hMi nC nS nMa;clear Hst;go_wp2_with fail;refine Hfa.o.mono ?_;rintro e w1 ⟨rfl,t1⟩;obtain⟨g0,g1,g2,_,_,_⟩:=eJ (t1.blk HTa.o.2 (by simp));have HM1:=lh (((HT0.o.1.trans0 HM.o.t).trans0 HTa.o.1).trans0 t1);clear t1 HM;go_wp2;go_ret2;rw[Hn.o];exact fB.err 13 HM1.o
  have hil:=eS hpa;obtain⟨ad2,b2,o2,rfl,hadd2, -,e3⟩:=(HRW.o.2.2.touch0 HM.o.t).at_ i hil;have hto:fA a col=some a[i].typ:=by unfold fA;rw[hpa];simp[hil]
  obtain⟨ty,hty⟩:∃ty,ty=a[i].typ:=⟨_,rfl⟩;rw[<- hty] at e3 hto;obtain rfl:z=(i:Int):=by rw[Hz.o];unfold eM;rw[hpa]
  have hi0:(0:Int)<=(i:Int):=by omega
  have hi1:((i:Int)<0)=False:=bi (by omega);have hin:(i:Int)<(a.length:Int):=by omega
  have hE:fU a ⟨op,col,nm⟩=(ty,0):=by rw[i6 hmem,ab h5,hto];dsimp only;rw[ab (λq=>nS q.1),ae (bI hMi)]
  have Hn:=lh (show V=jP a (acc++[⟨nm,ty⟩]) (aggs.drop (j+1)) by rw[Hst.o,hE];rfl);clear hE;have q5:col.toList.isEmpty=false:=by rw[fi];exact aC h5
  clear h5 hmem hpa hto hty hil;clear hMi nC nS nMa;clear Hst;go_wp2_with fail;refine Hfa.o.mono ?_;rintro e w1 ⟨rfl,t1⟩;obtain⟨g0,g1,g2,_,_,_⟩:=eJ (t1.blk HTa.o.2 (by simp));have e3':=(HTa.o.1.trans0 t1).cell e3 (by simp);have HM1:=lh ((HM.o.touch0 HTa.o.1).touch0 t1);clear t1 HM;go_wp2_with (at_builtin;refine ez ?_);refine go ?_;have ta:=(Touch.refl [] w1).alloc (.cells #[.string nm,.int .i64 ty] 29);refine eb (enc:=fQ) rfl (.tmp 105) (.tmp 110) 24 rfl 29 _ 2 24 gN bC rfl (by omega) eZ gq A m c acc HL.o.1 rfl (HM1.o.touch0 ta).own
   (some ⟨w1.heap.size,0,none⟩) 1 1 [⟨nm,ty⟩] rfl rfl (d9.one (enc:=fQ) w1 29 ⟨nm,ty⟩ _ rfl) (by omega) (by omega) ?_
  intro A' c' w' hown ht hf;have HX:=lh ((HM1.o.touch0 ta).step hown ht hf);clear hown ht hf ta;go_wp2_with fail;go_roundw
  case rel=>exact⟨j+1,m+1,A',c',acc++[⟨nm,ty⟩],by omega,by have:=HL.o.2;omega,by go_num,rfl,lh ⟨by rw[az,HL.o.1];rfl,by rw[HL.o.2];omega⟩,Hn,HX⟩
  case measure=>simp[intOf];omega
 by_cases hMa:op=gZ
 ·have nC:op≠iM:=by rw[hMa];decide
  have nS:op≠iD:=by rw[hMa];decide
  have nMi:op≠gB:=by rw[hMa];decide
  have qC:(op.toList==[99,111,117,110,116])=false:=(eK op _ iM rfl).trans (aC nC);have qC':(op.toList != [99,111,117,110,116])=true:=by rw[bne,qC];rfl
  have qS:(op.toList==[115,117,109])=false:=(eK op _ iD rfl).trans (aC nS);have qS':(op.toList != [115,117,109])=true:=by rw[bne,qS];rfl
  have qMi:(op.toList==[109,105,110])=false:=(eK op _ gB rfl).trans (aC nMi);have qMi':(op.toList != [109,105,110])=true:=by rw[bne,qMi];rfl
  have qMa:(op.toList==[109,97,120])=true:=(eK op _ gZ rfl).trans (aF hMa);have qMa':(op.toList != [109,97,120])=false:=by rw[bne,qMa];rfl
  have hmem:iz fy op=true:=by rw[mO,aF hMa];simp
  by_cases h5:col=⟨#[]⟩
  ·have Hn:=lh (show V=(20,[]) by rw[Hst.o,i6 hmem,ae h5,ab nC];rfl);have q5:col.toList.isEmpty=true:=by rw[fi];exact aF h5
   clear h5 hmem;clear hMa nC nS nMi;clear Hst;go_wp2_with fail;refine Hfa.o.mono ?_;rintro e w1 ⟨rfl,t1⟩;obtain⟨g0,g1,g2,_,_,_⟩:=eJ (t1.blk HTa.o.2 (by simp));have HM1:=lh (((HT0.o.1.trans0 HM.o.t).trans0 HTa.o.1).trans0 t1);clear t1 HM;go_wp2;go_ret2;rw[Hn.o];exact fB.err 20 HM1.o
  rcases hpa:ef a col with _ | i
  ·have hto:fA a col=none:=by unfold fA;rw[hpa];rfl
   obtain rfl:z = -1:=by rw[Hz.o];unfold eM;rw[hpa]
   have Hn:=lh (show V=(13,[]) by rw[Hst.o,i6 hmem,ab h5,hto];rfl);have q5:col.toList.isEmpty=false:=by rw[fi];exact aC h5
   clear h5 hmem hpa hto;clear hMa nC nS nMi;clear Hst;go_wp2_with fail;refine Hfa.o.mono ?_;rintro e w1 ⟨rfl,t1⟩;obtain⟨g0,g1,g2,_,_,_⟩:=eJ (t1.blk HTa.o.2 (by simp));have HM1:=lh (((HT0.o.1.trans0 HM.o.t).trans0 HTa.o.1).trans0 t1);clear t1 HM;go_wp2;go_ret2;rw[Hn.o];exact fB.err 13 HM1.o
  have hil:=eS hpa;obtain⟨ad2,b2,o2,rfl,hadd2, -,e3⟩:=(HRW.o.2.2.touch0 HM.o.t).at_ i hil;have hto:fA a col=some a[i].typ:=by unfold fA;rw[hpa];simp[hil]
  obtain⟨ty,hty⟩:∃ty,ty=a[i].typ:=⟨_,rfl⟩;rw[<- hty] at e3 hto;obtain rfl:z=(i:Int):=by rw[Hz.o];unfold eM;rw[hpa]
  have hi0:(0:Int)<=(i:Int):=by omega
  have hi1:((i:Int)<0)=False:=bi (by omega);have hin:(i:Int)<(a.length:Int):=by omega
  have hE:fU a ⟨op,col,nm⟩=(ty,0):=by rw[i6 hmem,ab h5,hto];dsimp only;rw[ab (λq=>nS q.1),ae (Or.inr hMa)]
  have Hn:=lh (show V=jP a (acc++[⟨nm,ty⟩]) (aggs.drop (j+1)) by rw[Hst.o,hE];rfl);clear hE;have q5:col.toList.isEmpty=false:=by rw[fi];exact aC h5
  clear h5 hmem hpa hto hty hil;clear hMa nC nS nMi;clear Hst;go_wp2_with fail;refine Hfa.o.mono ?_;rintro e w1 ⟨rfl,t1⟩;obtain⟨g0,g1,g2,_,_,_⟩:=eJ (t1.blk HTa.o.2 (by simp));have e3':=(HTa.o.1.trans0 t1).cell e3 (by simp);have HM1:=lh ((HM.o.touch0 HTa.o.1).touch0 t1);clear t1 HM;go_wp2_with (at_builtin;refine ez ?_);refine go ?_;have ta:=(Touch.refl [] w1).alloc (.cells #[.string nm,.int .i64 ty] 29);refine eb (enc:=fQ) rfl (.tmp 105) (.tmp 110) 24 rfl 29 _ 2 24 gN bC rfl (by omega) eZ gq A m c acc HL.o.1 rfl (HM1.o.touch0 ta).own
   (some ⟨w1.heap.size,0,none⟩) 1 1 [⟨nm,ty⟩] rfl rfl (d9.one (enc:=fQ) w1 29 ⟨nm,ty⟩ _ rfl) (by omega) (by omega) ?_
  intro A' c' w' hown ht hf;have HX:=lh ((HM1.o.touch0 ta).step hown ht hf);clear hown ht hf ta;go_wp2_with fail;go_roundw
  case rel=>exact⟨j+1,m+1,A',c',acc++[⟨nm,ty⟩],by omega,by have:=HL.o.2;omega,by go_num,rfl,lh ⟨by rw[az,HL.o.1];rfl,by rw[HL.o.2];omega⟩,Hn,HX⟩
  case measure=>simp[intOf];omega
 have nC:op≠iM:=hC;have nS:op≠iD:=hS;have nMi:op≠gB:=hMi;have nMa:op≠gZ:=hMa;have qC:(op.toList==[99,111,117,110,116])=false:=(eK op _ iM rfl).trans (aC nC);have qC':(op.toList != [99,111,117,110,116])=true:=by rw[bne,qC];rfl
 have qS:(op.toList==[115,117,109])=false:=(eK op _ iD rfl).trans (aC nS);have qS':(op.toList != [115,117,109])=true:=by rw[bne,qS];rfl
 have qMi:(op.toList==[109,105,110])=false:=(eK op _ gB rfl).trans (aC nMi);have qMi':(op.toList != [109,105,110])=true:=by rw[bne,qMi];rfl
 have qMa:(op.toList==[109,97,120])=false:=(eK op _ gZ rfl).trans (aC nMa);have qMa':(op.toList != [109,97,120])=true:=by rw[bne,qMa];rfl
 have Hn:=lh (show V=(20,[]) by rw[Hst.o,yJ nC nS nMi nMa];rfl);clear hC hS hMi hMa nC nS nMi nMa;clear Hst;go_wp2_with fail;refine Hfa.o.mono ?_;rintro e w1 ⟨rfl,t1⟩;obtain⟨g0,g1,g2,_,_,_⟩:=eJ (t1.blk HTa.o.2 (by simp));have HM1:=lh (((HT0.o.1.trans0 HM.o.t).trans0 HTa.o.1).trans0 t1);clear t1 HM;go_wp2;go_ret2;rw[Hn.o];exact fB.err 20 HM1.o
theorem BD(x:PC)(hk0:x.kind=6)(SA SB:Option Addr)(c1 c2 n2:Nat)(a:List CD)(hla:a.length<=1000000)(w:World)(ha:em w SA a)(names:List ByteArray)(aggs:List AG)(hnn:x.names.n=names.length)(han:x.aggs.n=aggs.length)(hln:names.length<=100000)(hlg:aggs.length<=100000)(hr:d9 gD w x.names.A names)(hg:d9 lK w x.aggs.A aggs): Calls Tryz.prog 32 #[x.val,.slice SA a.length c1,.slice SB n2 c2] w (eI (g_ a names aggs) w):=by obtain⟨k0,k1,⟨A2,n2,c2'⟩,⟨⟨ck,cn,⟨cvk,cvn,cvt⟩,cop⟩,CA,cnn,cc⟩,⟨NA,nn,nc⟩,⟨EA,en,ec⟩,⟨OA,ol,oc⟩,⟨GA,gn,gc⟩,⟨BA,bn,bc⟩,count⟩:=x;dsimp only at hk0 hnn han hr hg;subst hk0;have Hk:=lh λw'(t:Touch [] w w')=>yV ⟨6,k1,⟨A2,n2,c2'⟩,⟨⟨ck,cn,⟨cvk,cvn,cvt⟩,cop⟩,CA,cnn,cc⟩,⟨NA,nn,nc⟩,⟨EA,en,ec⟩,⟨OA,ol,oc⟩,⟨GA,gn,gc⟩,⟨BA,bn,bc⟩,count⟩ names aggs hnn han SA c1 a.length a rfl hla hln hlg w' (d9.touch0 hr t) (d9.touch0 hg t) (ha.touch0 t);simp only[PC.val] at *;obtain⟨V,hV⟩:∃V,V=g_ a names aggs:=⟨_,rfl⟩;rw[<- hV] at Hk ⊢;clear hnn han hr hg hV;have ta:=(Touch.refl [] w).alloc (.cells #[.int .i64 6,.string k1,.slice A2 n2 c2',.int .i64 ck,.string cn,.int .i64 cvk,.int .i64 cvn,.string cvt,.string cop,.slice CA cnn cc,.slice NA nn nc,.slice EA en ec,.slice OA ol oc,.slice GA gn gc,.slice BA bn bc,.int .i64 count] 49);have HT:=lh ta;clear ta ha;go_enter Tryz.func32,Tryz.ntmps32;go_wp2_with fail;refine(Hk.o _ HT.o).mono ?_;rintro e w1 ⟨A1,cc1,rfl,m1⟩;go_wp2;go_ret2;exact⟨⟨A1,V.2.length,cc1⟩,rfl,rfl,m1.own.rd,HT.o.trans0 m1.t⟩
end
section
open Go.RowKit
theorem CY(x:PC)(hk0:x.kind=4)(SA SB:Option Addr)(c1 c2 n2:Nat)(a:List CD)(hla:a.length<=1000000)(w:World)(ha:em w SA a)(b:List CD)(hb2:b.length=n2)(hlb:b.length<=1000000)(hb:em w SB b)(on:List (ByteArray × ByteArray))(ho:x.on.n=on.length)(hlo:on.length<=1000000)(hr:d9 nz w x.on.A on): Calls Tryz.prog 32 #[x.val,.slice SA a.length c1,.slice SB n2 c2] w (eI (if iY a b on=0 then (0,a++b) else (iY a b on,[])) w):=by
 subst hb2;have Hv:=lh (show iY a b on=if on.length=0 then 20 else jD a b on from rfl);obtain⟨V,hV⟩:∃V,V=iY a b on:=⟨_,rfl⟩;rw[<- hV] at Hv ⊢;clear hV;obtain⟨G,hG⟩:∃G,G=(if V=0 then ((0:Int),a++b) else (V,[])):=⟨_,rfl⟩;rw[<- hG];have HG:=lh hG;clear hG;have HRD:=Gc hr ha hb;obtain⟨k0,k1,⟨A2,n2,c2'⟩,⟨⟨ck,cn,⟨cvk,cvn,cvt⟩,cop⟩,CA,cnn,cc⟩,⟨NA,nn,nc⟩,⟨EA,en,ec⟩,⟨OA,ol,oc⟩,⟨GA,gn,gc⟩,⟨BA,bn,bc⟩,count⟩:=x;dsimp only at hk0 ho HRD;subst hk0 ho;simp only[PC.val] at *;have ta:=(Touch.refl [] w).alloc (.cells #[.int .i64 4,.string k1,.slice A2 n2 c2',.int .i64 ck,.string cn,.int .i64 cvk,.int .i64 cvn,.string cvt,.string cop,.slice CA cnn cc,.slice NA nn nc,.slice EA en ec,.slice OA on.length oc,.slice GA gn gc,.slice BA bn bc,.int .i64 count] 49);have hbx:=ah w (.cells #[.int .i64 4,.string k1,.slice A2 n2 c2',.int .i64 ck,.string cn,.int .i64 cvk,.int .i64 cvn,.string cvt,.string cop,.slice CA cnn cc,.slice NA nn nc,.slice EA en ec,.slice OA on.length oc,.slice GA gn gc,.slice BA bn bc,.int .i64 count] 49);have HT0:=Gb ta hbx;clear ta hbx hr ha hb;go_enter Tryz.func32,Tryz.ntmps32;go_wp2_with fail
 go_loopw [42] (λi wr=>∃k:Nat,k<=on.length/\i=.int .i64 k/\Ga (jD a b on=jD a b (on.drop k))/\Ga (Touch [] (w.alloc (.cells #[.int .i64 4,.string k1,.slice A2 n2 c2',.int .i64 ck,.string cn,.int .i64 cvk,.int .i64 cvn,.string cvt,.string cop,.slice CA cnn cc,.slice NA nn nc,.slice EA en ec,.slice OA on.length oc,.slice GA gn gc,.slice BA bn bc,.int .i64 count] 49)) wr)) (λi _=>on.length-(intOf i).toNat)
 case atStart=>exact⟨0,by omega,rfl,lh (by rw[dA]),lh (Touch.refl _ _)⟩
 case round =>
 obtain⟨k,hk,rfl,Hd,HTk⟩:=hrel;have HT:=lh (HT0.o.1.trans0 HTk.o);by_cases hlt:k<on.length
 ·have Hne:=lh (show V=jD a b on by rw[Hv.o,ab (by omega)]);obtain⟨ad,b1,o1,rfl,hadd,hc⟩:=d9.cells (HRD.o.1.touch0 HT.o) 2 lH (by omega) k hlt;have hst:=rj a b on k hlt;obtain⟨p,hp⟩:∃p,p=on[k]:=⟨_,rfl⟩;rw[<- hp] at hc hst;obtain⟨p1,p2⟩:=p;have e0:=hc 0 _ rfl;have e1:=hc 1 _ rfl;rw[aM] at e0;have ta:=(Touch.refl [] wr).alloc (.cells #[.string p1,.string p2] 39);have hbl:=ah wr (.cells #[.string p1,.string p2] 39);have hfa:=λw'(t:Touch [] wr w')=>ip SA c1 a.length a rfl p1 w' (HRD.o.2.1.touch0 (HT.o.trans0 t)) (by omega);have hfb:=λw'(t:Touch [] wr w')=>ip SB c2 b.length b rfl p2 w' (HRD.o.2.2.touch0 (HT.o.trans0 t)) (by omega);have hkn:(k:Int)<(on.length:Int):=by omega
  obtain⟨W,hW⟩:∃W,W=wr.alloc (.cells #[.string p1,.string p2] 39):=⟨_,rfl⟩;rw[<- hW] at ta hbl;have HP:Ga (W.drew.cell? ⟨wr.heap.size,0,none⟩=some (.string p1)/\W.drew.cell? ⟨wr.heap.size,1,none⟩=some (.string p2)):=lh ⟨(Touch.refl [] W).drew.cell (d_ hbl rfl) (by simp),(Touch.refl [] W).drew.cell (d_ hbl rfl) (by simp)⟩;have HW:=lh hW;have HTa:=lh ta.drew;obtain⟨za,hza⟩:∃z,z=eM a p1:=⟨_,rfl⟩;obtain⟨zb,hzb⟩:∃z,z=eM b p2:=⟨_,rfl⟩;rw[<- hza] at hfa;rw[<- hzb] at hfb;have Hza:=lh hza;have Hzb:=lh hzb;have Hfa:=lh λw'(t:Touch [] W.drew w')=>hfa w' (HTa.o.trans0 t);have Hfb:=lh λw'(t:Touch [] W.drew w')=>hfb w' (HTa.o.trans0 t);have Hst:=lh hst;clear hfa hfb hst hc hp ta hbl hW hza hzb;go_wp2_with fail;rw[<- HW.o];go_region_held3 (λw'=>w'.cell? ⟨wr.heap.size,0,none⟩=some (.string p1)/\w'.cell? ⟨wr.heap.size,1,none⟩=some (.string p2)) (first | exact HP.o | exact⟨HTx.o.cell HP.o.1 (by simp),HTx.o.cell HP.o.2 (by simp)⟩ | exact⟨(HTx.o.trans0 t2).cell HP.o.1 (by simp),(HTx.o.trans0 t2).cell HP.o.2 (by simp)⟩) (first
   |(go_at_call 44;refine(Hfb.o _ HTx.o).mono ?_;rintro e w2 ⟨rfl,t2⟩)
   |(go_at_call 44;refine(Hfa.o _ (Touch.refl _ _)).mono ?_;rintro e w1 ⟨rfl,t1⟩;have HTx:=lh t1;clear t1))
  have HT1:=lh (HTa.o.trans0 (HTx.o.trans0 t2));clear t2;rcases hpa:ef a p1 with _|i
  ·obtain rfl:za = -1:=by rw[Hza.o];unfold eM;rw[hpa]
   have Hq2:=lh (show G=(13,[]) by rw[HG.o,Hne.o,Hd.o,Hst.o];unfold fA;rw[hpa];rfl);clear hpa;go_wp2;go_ret2;rw[Hq2.o];exact eI.err 13 (HT.o.trans0 HT1.o)
  have hil:=eS hpa;obtain rfl:za=(i:Int):=by rw[Hza.o];unfold eM;rw[hpa]
  have hi1:((i:Int)<0)=False:=bi (by omega);rcases hpb:ef b p2 with _|j
  ·obtain rfl:zb = -1:=by rw[Hzb.o];unfold eM;rw[hpb]
   have Hq2:=lh (show G=(13,[]) by rw[HG.o,Hne.o,Hd.o,Hst.o];unfold fA;rw[hpa,hpb];rfl);clear hpa hpb hil;go_wp2;go_ret2;rw[Hq2.o];exact eI.err 13 (HT.o.trans0 HT1.o)
  have hjl:=eS hpb;obtain rfl:zb=(j:Int):=by rw[Hzb.o];unfold eM;rw[hpb]
  have hj1:((j:Int)<0)=False:=bi (by omega);obtain⟨ad2,b2,o2,rfl,hadd2, -,e3⟩:=(HRD.o.2.1.touch0 HT.o).at_ i hil;obtain⟨ad3,b3,o3,rfl,hadd3, -,e4⟩:=(HRD.o.2.2.touch0 HT.o).at_ j hjl;have hts:jD a b (on.drop k)=if a[i].typ=b[j].typ then jD a b (on.drop (k+1)) else 12:=by rw[Hst.o];unfold fA;rw[hpa,hpb];simp[hil,hjl]
  obtain⟨s,hs⟩:∃s,s=a[i].typ:=⟨_,rfl⟩;obtain⟨t,ht⟩:∃t,t=b[j].typ:=⟨_,rfl⟩;rw[<- hs] at e3 hts;rw[<- ht] at e4 hts;have e3':=HT1.o.cell e3 (by simp);have e4':=HT1.o.cell e4 (by simp);have hi0:(0:Int)<=(i:Int):=by omega
  have hj0:(0:Int)<=(j:Int):=by omega
  have hin:(i:Int)<(a.length:Int):=by omega
  have hjn:(j:Int)<(b.length:Int):=by omega
  have HTS:=lh hts;clear hpa hpb hts hs ht e3 e4 hil hjl;by_cases hst:s=t
  ·subst hst;have Hn:=lh (show jD a b on=jD a b (on.drop (k+1)) by rw[Hd.o,HTS.o,ae rfl]);clear HTS;go_wp2_with fail;go_quiet (fail);go_wp2_with fail;go_roundw
   case rel=>exact⟨k+1,by omega,by go_num,Hn,lh ((HTk.o.trans0 HT1.o).drewN _)⟩
   case measure=>simp[intOf];omega
  have Hn:=lh (show G=(12,[]) by rw[HG.o,Hne.o,Hd.o,HTS.o,ab hst];rfl);have hq:(s==t)=false:=by rw[aw];exact hst
  have hq':(s != t)=true:=by rw[bne,hq];rfl
  clear HTS;go_wp2_with fail;go_quiet (fail);go_wp2_with fail;go_ret2;rw[Hn.o];exact eI.err 12 ((HT.o.trans0 HT1.o).drewN _)
 obtain rfl:k=on.length:=by omega
 have HV:=lh (show V=if on.length=0 then 20 else 0 by rw[Hv.o,Hd.o,bY];rfl);have z6:=HTk.o.cell (d_ HT0.o.2 (i:=12) (v:=.slice OA on.length oc) rfl) (by simp);by_cases hz:on.length=0
 ·have Hq:=lh (show G=(20,[]) by rw[HG.o,HV.o,ae hz];rfl);have hzb:((on.length:Int)==0)=true:=by rw[hz];rfl
  clear hz;go_wp2;go_ret2;rw[Hq.o];exact eI.err 20 HT.o
 have Hq:=lh (show G=(0,a++b) by rw[HG.o,HV.o,ab hz];rfl);have hzb:((on.length:Int)==0)=false:=by rw[aw];omega
 have hA:=HRD.o.2.1.touch0 HT.o;have hB:=HRD.o.2.2.touch0 HT.o;have tb:=(Touch.refl [] wr).alloc (.cells #[] 29);have HO:=Gc (ep.empty_new 29 2 fQ wr) (d9.touch0 hA tb) tb;have HB:=lh hB;clear hz hA hB tb;go_wp2_with (at_builtin;refine ez ?_);refine go ?_;refine eb (enc:=fQ) rfl (.tmp 76) (.tmp 77) 24 rfl 29 _ 2 24 gN bC rfl (by omega) eZ gq (some ⟨wr.heap.size,0,none⟩) 0 0 [] rfl rfl HO.o.1 SA a.length c1 a rfl rfl HO.o.2.1 (by omega) (by omega) ?_;intro A3 c3 w3 hown3 ht3 hf3;have T3:Touch [] wr w3:=HO.o.2.2.trans ht3 (λb hb=>by simp[ed] at hb;subst hb;exact .inr (aL _));have hn3:∀b∈ed A3,wr.heap.size<=b:=λb hb=>by
  rcases hf3 b hb with e|e
  ·simp[ed] at e;omega
  rw[ao] at e;omega
 have H3:=Gc hown3 T3 hn3;clear hown3 ht3 hf3 T3 hn3;go_wp2_with (at_builtin;refine ez ?_);refine go ?_;refine eb (enc:=fQ) rfl (.tmp 78) (.tmp 79) 24 rfl 29 _ 2 24 gN bC rfl (by omega) eZ gq A3 a.length c3 ([]++a) (by simp) rfl H3.o.1 SB b.length c2 b rfl rfl (HB.o.touch0 H3.o.2.1) (by omega) (by omega) ?_;intro A4 c4 w4 hown4 ht4 hf4;have H4:=Gb hown4 (H3.o.2.1.trans ht4 (λb hb=>.inr (H3.o.2.2 b hb)));clear hown4 ht4 hf4;go_wp2;go_ret2;rw[Hq.o];exact⟨⟨A4,(a++b).length,c4⟩,by first | rfl | simp,rfl,(by have:=H4.o.1.rd;rwa[cw] at this),HT.o.trans0 H4.o.2⟩
theorem CP(x:PC)(hk0:x.kind=5)(SA SB:Option Addr)(c1 c2 n2:Nat)(a:List CD)(hla:a.length<=1000000)(w:World)(ha:em w SA a)(b:List CD)(hb2:b.length=n2)(hlb:b.length<=1000000)(hb:em w SB b)(on:List (ByteArray × ByteArray))(ho:x.on.n=on.length)(hlo:on.length<=1000000)(hr:d9 nz w x.on.A on): Calls Tryz.prog 32 #[x.val,.slice SA a.length c1,.slice SB n2 c2] w (eI (if iY a b on=0 then (0,a++b) else (iY a b on,[])) w):=by
 subst hb2;have Hv:=lh (show iY a b on=if on.length=0 then 20 else jD a b on from rfl);obtain⟨V,hV⟩:∃V,V=iY a b on:=⟨_,rfl⟩;rw[<- hV] at Hv ⊢;clear hV;obtain⟨G,hG⟩:∃G,G=(if V=0 then ((0:Int),a++b) else (V,[])):=⟨_,rfl⟩;rw[<- hG];have HG:=lh hG;clear hG;have HRD:=Gc hr ha hb;obtain⟨k0,k1,⟨A2,n2,c2'⟩,⟨⟨ck,cn,⟨cvk,cvn,cvt⟩,cop⟩,CA,cnn,cc⟩,⟨NA,nn,nc⟩,⟨EA,en,ec⟩,⟨OA,ol,oc⟩,⟨GA,gn,gc⟩,⟨BA,bn,bc⟩,count⟩:=x;dsimp only at hk0 ho HRD;subst hk0 ho;simp only[PC.val] at *;have ta:=(Touch.refl [] w).alloc (.cells #[.int .i64 5,.string k1,.slice A2 n2 c2',.int .i64 ck,.string cn,.int .i64 cvk,.int .i64 cvn,.string cvt,.string cop,.slice CA cnn cc,.slice NA nn nc,.slice EA en ec,.slice OA on.length oc,.slice GA gn gc,.slice BA bn bc,.int .i64 count] 49);have hbx:=ah w (.cells #[.int .i64 5,.string k1,.slice A2 n2 c2',.int .i64 ck,.string cn,.int .i64 cvk,.int .i64 cvn,.string cvt,.string cop,.slice CA cnn cc,.slice NA nn nc,.slice EA en ec,.slice OA on.length oc,.slice GA gn gc,.slice BA bn bc,.int .i64 count] 49);have HT0:=Gb ta hbx;clear ta hbx hr ha hb;go_enter Tryz.func32,Tryz.ntmps32;go_wp2_with fail
 go_loopw [42] (λi wr=>∃k:Nat,k<=on.length/\i=.int .i64 k/\Ga (jD a b on=jD a b (on.drop k))/\Ga (Touch [] (w.alloc (.cells #[.int .i64 5,.string k1,.slice A2 n2 c2',.int .i64 ck,.string cn,.int .i64 cvk,.int .i64 cvn,.string cvt,.string cop,.slice CA cnn cc,.slice NA nn nc,.slice EA en ec,.slice OA on.length oc,.slice GA gn gc,.slice BA bn bc,.int .i64 count] 49)) wr)) (λi _=>on.length-(intOf i).toNat)
 case atStart=>exact⟨0,by omega,rfl,lh (by rw[dA]),lh (Touch.refl _ _)⟩
 case round =>
 obtain⟨k,hk,rfl,Hd,HTk⟩:=hrel;have HT:=lh (HT0.o.1.trans0 HTk.o);by_cases hlt:k<on.length
 ·have Hne:=lh (show V=jD a b on by rw[Hv.o,ab (by omega)]);obtain⟨ad,b1,o1,rfl,hadd,hc⟩:=d9.cells (HRD.o.1.touch0 HT.o) 2 lH (by omega) k hlt;have hst:=rj a b on k hlt;obtain⟨p,hp⟩:∃p,p=on[k]:=⟨_,rfl⟩;rw[<- hp] at hc hst;obtain⟨p1,p2⟩:=p;have e0:=hc 0 _ rfl;have e1:=hc 1 _ rfl;rw[aM] at e0;have ta:=(Touch.refl [] wr).alloc (.cells #[.string p1,.string p2] 39);have hbl:=ah wr (.cells #[.string p1,.string p2] 39);have hfa:=λw'(t:Touch [] wr w')=>ip SA c1 a.length a rfl p1 w' (HRD.o.2.1.touch0 (HT.o.trans0 t)) (by omega);have hfb:=λw'(t:Touch [] wr w')=>ip SB c2 b.length b rfl p2 w' (HRD.o.2.2.touch0 (HT.o.trans0 t)) (by omega);have hkn:(k:Int)<(on.length:Int):=by omega
  obtain⟨W,hW⟩:∃W,W=wr.alloc (.cells #[.string p1,.string p2] 39):=⟨_,rfl⟩;rw[<- hW] at ta hbl;have HP:Ga (W.drew.cell? ⟨wr.heap.size,0,none⟩=some (.string p1)/\W.drew.cell? ⟨wr.heap.size,1,none⟩=some (.string p2)):=lh ⟨(Touch.refl [] W).drew.cell (d_ hbl rfl) (by simp),(Touch.refl [] W).drew.cell (d_ hbl rfl) (by simp)⟩;have HW:=lh hW;have HTa:=lh ta.drew;obtain⟨za,hza⟩:∃z,z=eM a p1:=⟨_,rfl⟩;obtain⟨zb,hzb⟩:∃z,z=eM b p2:=⟨_,rfl⟩;rw[<- hza] at hfa;rw[<- hzb] at hfb;have Hza:=lh hza;have Hzb:=lh hzb;have Hfa:=lh λw'(t:Touch [] W.drew w')=>hfa w' (HTa.o.trans0 t);have Hfb:=lh λw'(t:Touch [] W.drew w')=>hfb w' (HTa.o.trans0 t);have Hst:=lh hst;clear hfa hfb hst hc hp ta hbl hW hza hzb;go_wp2_with fail;rw[<- HW.o];go_region_held3 (λw'=>w'.cell? ⟨wr.heap.size,0,none⟩=some (.string p1)/\w'.cell? ⟨wr.heap.size,1,none⟩=some (.string p2)) (first | exact HP.o | exact⟨HTx.o.cell HP.o.1 (by simp),HTx.o.cell HP.o.2 (by simp)⟩ | exact⟨(HTx.o.trans0 t2).cell HP.o.1 (by simp),(HTx.o.trans0 t2).cell HP.o.2 (by simp)⟩) (first
   |(go_at_call 44;refine(Hfb.o _ HTx.o).mono ?_;rintro e w2 ⟨rfl,t2⟩)
   |(go_at_call 44;refine(Hfa.o _ (Touch.refl _ _)).mono ?_;rintro e w1 ⟨rfl,t1⟩;have HTx:=lh t1;clear t1))
  have HT1:=lh (HTa.o.trans0 (HTx.o.trans0 t2));clear t2;rcases hpa:ef a p1 with _|i
  ·obtain rfl:za = -1:=by rw[Hza.o];unfold eM;rw[hpa]
   have Hq2:=lh (show G=(13,[]) by rw[HG.o,Hne.o,Hd.o,Hst.o];unfold fA;rw[hpa];rfl);clear hpa;go_wp2;go_ret2;rw[Hq2.o];exact eI.err 13 (HT.o.trans0 HT1.o)
  have hil:=eS hpa;obtain rfl:za=(i:Int):=by rw[Hza.o];unfold eM;rw[hpa]
  have hi1:((i:Int)<0)=False:=bi (by omega);rcases hpb:ef b p2 with _|j
  ·obtain rfl:zb = -1:=by rw[Hzb.o];unfold eM;rw[hpb]
   have Hq2:=lh (show G=(13,[]) by rw[HG.o,Hne.o,Hd.o,Hst.o];unfold fA;rw[hpa,hpb];rfl);clear hpa hpb hil;go_wp2;go_ret2;rw[Hq2.o];exact eI.err 13 (HT.o.trans0 HT1.o)
  have hjl:=eS hpb;obtain rfl:zb=(j:Int):=by rw[Hzb.o];unfold eM;rw[hpb]
  have hj1:((j:Int)<0)=False:=bi (by omega);obtain⟨ad2,b2,o2,rfl,hadd2, -,e3⟩:=(HRD.o.2.1.touch0 HT.o).at_ i hil;obtain⟨ad3,b3,o3,rfl,hadd3, -,e4⟩:=(HRD.o.2.2.touch0 HT.o).at_ j hjl;have hts:jD a b (on.drop k)=if a[i].typ=b[j].typ then jD a b (on.drop (k+1)) else 12:=by rw[Hst.o];unfold fA;rw[hpa,hpb];simp[hil,hjl]
  obtain⟨s,hs⟩:∃s,s=a[i].typ:=⟨_,rfl⟩;obtain⟨t,ht⟩:∃t,t=b[j].typ:=⟨_,rfl⟩;rw[<- hs] at e3 hts;rw[<- ht] at e4 hts;have e3':=HT1.o.cell e3 (by simp);have e4':=HT1.o.cell e4 (by simp);have hi0:(0:Int)<=(i:Int):=by omega
  have hj0:(0:Int)<=(j:Int):=by omega
  have hin:(i:Int)<(a.length:Int):=by omega
  have hjn:(j:Int)<(b.length:Int):=by omega
  have HTS:=lh hts;clear hpa hpb hts hs ht e3 e4 hil hjl;by_cases hst:s=t
  ·subst hst;have Hn:=lh (show jD a b on=jD a b (on.drop (k+1)) by rw[Hd.o,HTS.o,ae rfl]);clear HTS;go_wp2_with fail;go_quiet (fail);go_wp2_with fail;go_roundw
   case rel=>exact⟨k+1,by omega,by go_num,Hn,lh ((HTk.o.trans0 HT1.o).drewN _)⟩
   case measure=>simp[intOf];omega
  have Hn:=lh (show G=(12,[]) by rw[HG.o,Hne.o,Hd.o,HTS.o,ab hst];rfl);have hq:(s==t)=false:=by rw[aw];exact hst
  have hq':(s != t)=true:=by rw[bne,hq];rfl
  clear HTS;go_wp2_with fail;go_quiet (fail);go_wp2_with fail;go_ret2;rw[Hn.o];exact eI.err 12 ((HT.o.trans0 HT1.o).drewN _)
 obtain rfl:k=on.length:=by omega
 have HV:=lh (show V=if on.length=0 then 20 else 0 by rw[Hv.o,Hd.o,bY];rfl);have z6:=HTk.o.cell (d_ HT0.o.2 (i:=12) (v:=.slice OA on.length oc) rfl) (by simp);by_cases hz:on.length=0
 ·have Hq:=lh (show G=(20,[]) by rw[HG.o,HV.o,ae hz];rfl);have hzb:((on.length:Int)==0)=true:=by rw[hz];rfl
  clear hz;go_wp2;go_ret2;rw[Hq.o];exact eI.err 20 HT.o
 have Hq:=lh (show G=(0,a++b) by rw[HG.o,HV.o,ab hz];rfl);have hzb:((on.length:Int)==0)=false:=by rw[aw];omega
 have hA:=HRD.o.2.1.touch0 HT.o;have hB:=HRD.o.2.2.touch0 HT.o;have tb:=(Touch.refl [] wr).alloc (.cells #[] 29);have HO:=Gc (ep.empty_new 29 2 fQ wr) (d9.touch0 hA tb) tb;have HB:=lh hB;clear hz hA hB tb;go_wp2_with (at_builtin;refine ez ?_);refine go ?_;refine eb (enc:=fQ) rfl (.tmp 76) (.tmp 77) 24 rfl 29 _ 2 24 gN bC rfl (by omega) eZ gq (some ⟨wr.heap.size,0,none⟩) 0 0 [] rfl rfl HO.o.1 SA a.length c1 a rfl rfl HO.o.2.1 (by omega) (by omega) ?_;intro A3 c3 w3 hown3 ht3 hf3;have T3:Touch [] wr w3:=HO.o.2.2.trans ht3 (λb hb=>by simp[ed] at hb;subst hb;exact .inr (aL _));have hn3:∀b∈ed A3,wr.heap.size<=b:=λb hb=>by
  rcases hf3 b hb with e|e
  ·simp[ed] at e;omega
  rw[ao] at e;omega
 have H3:=Gc hown3 T3 hn3;clear hown3 ht3 hf3 T3 hn3;go_wp2_with (at_builtin;refine ez ?_);refine go ?_;refine eb (enc:=fQ) rfl (.tmp 78) (.tmp 79) 24 rfl 29 _ 2 24 gN bC rfl (by omega) eZ gq A3 a.length c3 ([]++a) (by simp) rfl H3.o.1 SB b.length c2 b rfl rfl (HB.o.touch0 H3.o.2.1) (by omega) (by omega) ?_;intro A4 c4 w4 hown4 ht4 hf4;have H4:=Gb hown4 (H3.o.2.1.trans ht4 (λb hb=>.inr (H3.o.2.2 b hb)));clear hown4 ht4 hf4;go_wp2;go_ret2;rw[Hq.o];exact⟨⟨A4,(a++b).length,c4⟩,by first | rfl | simp,rfl,(by have:=H4.o.1.rd;rwa[cw] at this),HT.o.trans0 H4.o.2⟩
end
section
open Go.RowKit
theorem Fi{m:Nat}(d:PD m)(a b:List CD)(h:(∀ c∈(eR d a b).2,c.Ok)/\(eR d a b).2.length<=1000)(h2:2<=d.kind)(h9:d.kind<=9):(∀c∈(oQ d a b).2,c.Ok)/\(oQ d a b).2.length<=1000:=by
 unfold oQ;split
 ·rename_i q;have hk:eR d a b=(iY a b d.on,a++b):=by unfold eR;rw[ab (by omega),ab (by omega),ae q]
  rw[hk] at h;split
  ·exact h
  exact⟨by simp,by simp⟩
 split
 ·have hk:eR d a b=(j0 a d.by_ d.count,a):=by unfold eR;rw[ab (by omega),ab (by omega),ab (by omega),ab (by omega),ab (by omega),ab (by omega)]
  rw[hk] at h;split
  ·exact h
  exact⟨by simp,by simp⟩
 exact h
theorem FY{m:Nat}(d:PD m)(hd:d.Fine)(x:PC)(a b:List CD)(hao:∀ c∈a,c.Ok)(hla:a.length<=16)(hlb:b.length<=16)(h2:2<=d.kind)(h9:d.kind<=9)(SA SB:Option Addr)(c1 c2:Nat)(w:World)(ha:em w SA a)(hb:em w SB b)(h:PlanAt w x d): Calls Tryz.prog 32 #[x.val,.slice SA a.length c1,.slice SB b.length c2] w (eI (oQ d a b) w):=by
 have hk:=h.kind;have hs:=hd.sm;have:d.kind=2\/d.kind=3\/d.kind=4\/d.kind=5\/d.kind=6\/d.kind=7\/d.kind=8\/d.kind=9:=by omega
 unfold oQ eR;rcases this with q|q|q|q|q|q|q|q<;>rw[q] at hk ⊢<;>simp +decide only [if_true,dF,or_true,true_or]
 ·exact zV x hk SA SB c1 c2 _ a (by omega) w ha _ ((si hd hao hla hd.c hs.c h.cond).at_ (Touch.refl _ _) ha c1)
 ·obtain⟨xs,e1,e2,e3⟩:=h.exprs;refine Du x hk SA SB c1 c2 _ a (by omega) w ha d.names xs (d.exprs.map (gu a m)) h.nn (by rw[h.en,e1]) (by rw[ay,e1]) (by have:=hs.n;omega) (by have:=hs.e;omega) h.names e2 λi i1 i2=> ?_;rw[aW];have i3:i<d.exprs.length:=by omega
  exact(si hd hao hla (hd.x _ (am i3)) (hs.x _ (am i3)) (e3 i i1 i3)).at_ (Touch.refl _ _) ha c1
 ·exact CY x hk SA SB c1 c2 _ a (by omega) w ha b rfl (by omega) hb d.on h.on' (by have:=hs.o;omega) h.on
 ·exact CP x hk SA SB c1 c2 _ a (by omega) w ha b rfl (by omega) hb d.on h.on' (by have:=hs.o;omega) h.on
 ·exact BD x hk SA SB c1 c2 _ a (by omega) w ha d.names d.aggs h.nn h.an (by have:=hs.n;omega) (by have:=hs.a;omega) h.names h.aggs
 ·exact zY x hk SA SB c1 c2 _ a (by omega) w ha b rfl (by omega) hb
 ·exact vf x hk SA SB c1 c2 _ a (by omega) w ha
 rw[<- h.count];exact Aj x hk SA SB c1 c2 _ a (by omega) w ha d.by_ h.bn (by have:=hs.b;omega) h.by_
theorem FO{m:Nat}(d:PD m)(hd:d.Fine)(x:PC)(a:List CD)(ra:List (List VD))(b:List CD)(rb:List (List VD))(ta:TbOk a ra)(tb:TbOk b rb)(w:World)(h:PlanAt w x d)(h1:d.kind=1->d.name≠⟨#[120]⟩/\d.name≠⟨#[121]⟩) (sx rx sy ry:SL) (hx:TabAt w sx rx a ra) (hy:TabAt w sy ry b rb):Calls Tryz.prog 17 #[x.val,.agg #[.slice sx.A sx.n sx.c,.slice rx.A rx.n rx.c],.agg #[.slice sy.A sy.n sy.c,.slice ry.A ry.n ry.c]] w (eI (fE d a ra b rb) w):=by
 rw[<- Cx d a ra b rb h1,<- h.kind,hx.n,hx.m,hy.n,hy.m];have hkk:=h.kind;by_cases hk:2<=d.kind/\d.kind<=9
 ·have hko:=Fi d a b (ye d a b ta.n tb.n ta.c tb.c hd.x hd.n (λp hp=>(hd.a p hp).2.2) hd.sm.n hd.sm.a hd.sm.e) hk.1 hk.2;exact sg x sx.A sy.A sx.c sy.c a b (by have:=ta.n;omega) (by have:=tb.n;omega) ta.cols tb.cols rx.A ry.A rx.c ry.c ra rb (by have:=ta.m;omega) (by have:=tb.m;omega) ta.rok tb.rok ta.rle tb.rle w hx.cols hy.cols hx.rws hy.rws _
   (λ_ _ _ _ w' t=>FY d hd x a b ta.cols ta.n tb.n hk.1 hk.2 sx.A sy.A sx.c sy.c w' (hx.cols.touch0 t) (hy.cols.touch0 t) (h.touch0 t)) hko.1 (by have:=hko.2;omega)
 have he:k6 x.kind (h_ a ra) (h_ b rb) (oQ d a b)=k6 x.kind (h_ a ra) (h_ b rb) (0,[]):=by
  unfold k6;have hc:x.kind<2\/9<x.kind:=by omega
  rw[ae hc,ae hc]
 rw[he];exact sg x sx.A sy.A sx.c sy.c a b (by have:=ta.n;omega) (by have:=tb.n;omega) ta.cols tb.cols rx.A ry.A rx.c ry.c ra rb (by have:=ta.m;omega) (by have:=tb.m;omega) ta.rok tb.rok ta.rle tb.rle w hx.cols hy.cols hx.rws hy.rws _
  (λq1 q2 _ _ w' t=>(hk ⟨hkk ▸ q1,hkk ▸ q2⟩).elim) (by simp) (by simp)
end
end Go.Proofs.YtafoklilkdnepaaGreatDoor
