/- Part 9 of the texts of this proof, one behind the other. No condition beyond those that its theorems state. -/
import Derived.Test.YtafoklilkdnepaaGreatDoorRe8
set_option linter.all false
set_option maxRecDepth 40000
set_option maxHeartbeats 25600000
namespace Go.Proofs.YtafoklilkdnepaaGreatDoor
section
open Go.RowKit
theorem uw(a b:Int)(h:Lib.compareInt a b=0):a=b:=by
 unfold Lib.compareInt at h;by_cases h1:a<b
 ·rw[ae h1] at h;cases h
 rw[ab h1] at h;by_cases h2:a=b
 ·exact h2
 exfalso;split at h<;>first | omega | cases h
theorem tF:∀a b:List UInt8,Lib.compareBytes a b=0->a=b
 | [],[]=>λ_=>rfl
 | [],_:: _=>λh=>by simp[Lib.compareBytes] at h
 | _:: _,[]=>λh=>by simp[Lib.compareBytes] at h
 |x:: a,y:: b=>λh=>by
  rw[Lib.compareBytes] at h;by_cases h1:x<y
  ·rw[ae h1] at h;cases h
  rw[ab h1] at h;by_cases h2:y<x
  ·rw[ae h2] at h;cases h
  rw[ab h2] at h;have h3:=mt cY.2 h1;have h4:=mt cY.2 h2;have e:x=y:=UInt8.toNat_inj.1 (by omega);rw[e,tF a b h]
theorem DM(a b:VD):eU a b=if Lib.compareInt a.kind b.kind=0 then (if Lib.compareInt a.num b.num=0 then Lib.compareBytes a.text.data.toList b.text.data.toList else Lib.compareInt a.num b.num) else Lib.compareInt a.kind b.kind:=by
 unfold eU;simp only[jR];split
 ·split
  ·by_cases h:Lib.compareBytes a.text.data.toList b.text.data.toList=0
   ·rw[ae h,h]
   rw[ab h]
  rfl
 rfl
theorem zm(a b:VD)(h:eU a b=0):a=b:=by
 rw[DM] at h;by_cases h1:Lib.compareInt a.kind b.kind=0
 ·rw[ae h1] at h;by_cases h2:Lib.compareInt a.num b.num=0
  ·rw[ae h2] at h;obtain⟨ak,an,at_⟩:=a;obtain⟨bk,bn,bt⟩:=b;dsimp only at h1 h2 h;rw[uw _ _ h1,uw _ _ h2,uJ (tF _ _ h)]
  rw[ab h2] at h;exact absurd h h2
 rw[ab h1] at h;exact absurd h h1
theorem mB:∀(a b:List VD),ej a b=0->a=b:=by
 intro a;induction a with
 |nil=>intro b h;cases b with
  |nil=>rfl
  |cons y b=>simp[ej] at h
 |cons x a ih =>
  intro b h
  cases b with
  |nil=>simp[ej] at h
  |cons y b =>
   rw[ej] at h
   by_cases hv:eU x y=0
   ·rw[ae hv] at h;rw[ih b h,zm x y hv]
   ·rw[ab hv] at h;exact absurd h hv
theorem mg:∀{l1 l2:List (List VD)},l1.Perm l2->l1.Pairwise (λa b=>ej a b<=0)->l2.Pairwise (λa b=>ej a b<=0)->l1=l2
 | [],l2,h,_,_=>(List.nil_perm.1 h).symm
 |a:: l1,[],h,_,_=>absurd h.length_eq (by simp)
 |a:: l1,b:: l2,h,h1,h2=>by
  have hab:a=b:=by
   rw[cq] at h1 h2;have ha:a∈b:: l2:=h.mem_iff.1 aK;have hb:b∈a:: l1:=h.mem_iff.2 aK;rcases aR.1 ha with q|q
   ·exact q
   rcases aR.1 hb with q2 | q2
   ·exact q2.symm
   have e1:=h2.1 a q;have e2:=h1.1 b q2;have e3:=fL a b;exact mB a b (by omega)
  subst hab;rw[mg (List.Perm.cons_inv h) (cq.1 h1).2 (cq.1 h2).2]
def fF(rows:List (List VD)):List (List VD):=rows.mergeSort λa b=>decide (ej a b<=0)
theorem m_{rows out:List (List VD)}(h:iy rows out):out=fF rows:=by
 have hp:(fF rows).Perm rows:=List.mergeSort_perm _ _;have hs:(fF rows).Pairwise λa b=>ej a b<=0:=by
  have:=List.pairwise_mergeSort (le:=fun a b:List VD=>decide (ej a b<=0))
   (λa b c h1 h2=>by have:=ln a b c (aN h1) (aN h2);exact aF this.1)
   (λa b=>by
    have:=fL a b;by_cases q:ej a b<=0
    ·simp[q]
    simp;right;omega) rows
  exact this.imp λh=>aN h
 exact mg (h.1.trans hp.symm) h.2 hs
structure TabU (lo hi:Nat) (w:World) (s r:SL) (cs:List CD) (rows:List (List VD)):Prop where
 n:s.n=cs.length
 le:s.n<=s.c
 cols:em w s.A cs
 cf:∀b∈ed s.A,lo<=b/\b<hi
 m:r.n=rows.length
 rws:∃sl,fX w sl rows/\ep 33 1 eT w r.A r.c sl/\∀s∈sl,∀b∈ed s.A,b∉ed r.A/\lo<=b/\b<hi
 rf:∀b∈ed r.A,lo<=b/\b<hi
 apart:∀b∈ed s.A,b∉ed r.A
theorem TabU.of{base:Nat}{w:World}{s r:SL}{cs:List CD}{rows:List (List VD)}(h:NewTab base w s r cs rows):TabU base w.heap.size w s r cs rows:=by obtain⟨sl,h1,h2,h3⟩:=h.rws;exact⟨h.n,h.le,h.cols,h.cf,h.m,⟨sl,h1,h2,λs hs b hb=>⟨(h3 s hs b hb).1,(h3 s hs b hb).2.2,(h3 s hs b hb).2.1⟩⟩,λb hb=>⟨h.rf b hb,h2.lt b hb⟩,h.apart⟩
theorem TabU.touch{lo hi:Nat}{w w':World}{s r:SL}{cs:List CD}{rows:List (List VD)}{fp:List Nat}(h:TabU lo hi w s r cs rows)(ht:Touch fp w w')(hf:∀ b∈fp,b<lo\/hi<=b):TabU lo hi w' s r cs rows:=by
 obtain⟨sl,h1,h2,h3⟩:=h.rws;refine⟨h.n,h.le,d9.touch h.cols ht (λb hb hm=> ?_),h.cf,h.m,⟨sl,h1.touch ht (λs hs b hb hm=> ?_),h2.touch ht (λb hb hm=> ?_),h3⟩,h.rf,h.apart⟩
 ·have:=h.cf b hb;have:=hf b hm;omega
 ·have:=(h3 s hs b hb).2;have:=hf b hm;omega
 have:=h.rf b hb;have:=hf b hm;omega
theorem TabU.tab{lo hi:Nat}{w:World}{s r:SL}{cs:List CD}{rows:List (List VD)}(h:TabU lo hi w s r cs rows):TabAt w s r cs rows:=by obtain⟨sl,h1,h2,_⟩:=h.rws;exact⟨h.n,h.le,h.cols,h.m,sl,h1,h2.rd⟩
def hJ(v:Int × List CD × List (List VD))(w:World)(e:Ending)(w':World):Prop:=∃s r:SL,e=.returned (.tuple #[.agg #[.slice s.A s.n s.c,.slice r.A r.n r.c],.int .i64 v.1])/\NewTab w.heap.size w' s r v.2.1 v.2.2/\Touch [] w w'
theorem NewTab.nil(base:Nat)(w:World):NewTab base w ⟨none,0,0⟩ ⟨none,0,0⟩ [] []:=⟨rfl,aL _,d9.nil _ _ _,by simp[ed],rfl,fl.nil _ _ _,by simp[ed],by simp[ed]⟩
theorem hJ.err{w w':World}(k:Int)(ht:Touch [] w w'):hJ (k,[],[]) w (.returned (.tuple #[.agg #[.slice none 0 0,.slice none 0 0],.int .i64 k])) w':=
 ⟨⟨none,0,0⟩,⟨none,0,0⟩,rfl,NewTab.nil _ _,ht⟩
def gV(w:World)(I:Option Addr)(ic n:Nat)(x:PC)(v:Int × List CD × List (List VD)):Prop:=∀w',Touch [] w w'->Calls Tryz.prog 30 #[x.val,.slice I n ic] w' (hJ v w')
theorem BO(x:PC)(hk0:x.kind=1)(ha0:x.args.n=0)(I:Option Addr)(ic n:Nat)(l:List SrcD)(hn:l.length=n)(hl:n<=1000000)(k:Nat)(hkl:k<l.length)(hs:j8 l x.name=some k)(hcl:l[k].cs.length<=1000000)(hrl:l[k].rows.length<=1000000)(hrr:gR l[k].rows)(w:World)(h:iK w I l): Calls Tryz.prog 30 #[x.val,.slice I n ic] w (hJ (0,l[k].cs,l[k].rows) w):=by
 obtain⟨k0,k1,⟨A2,n2,c2'⟩,⟨⟨ck,cn,⟨cvk,cvn,cvt⟩,cop⟩,CA,cnn,cc⟩,⟨NA,nn,nc⟩,⟨EA,en,ec⟩,⟨OA,ol,oc⟩,⟨GA,gn,gc⟩,⟨BA,bn,bc⟩,count⟩:=x;dsimp only at hk0 ha0 hs ⊢;subst hk0 ha0;simp only[PC.val];obtain⟨PO,hPO⟩:∃PO,PO=hJ (0,l[k].cs,l[k].rows) w:=⟨_,rfl⟩;rw[<- hPO];have HPO:=lh hPO;obtain⟨W,hW⟩:∃W,W=(w.alloc (.cells #[.int .i64 1,.string k1,.slice A2 0 c2',.int .i64 ck,.string cn,.int .i64 cvk,.int .i64 cvn,.string cvt,.string cop,.slice CA cnn cc,.slice NA nn nc,.slice EA en ec,.slice OA ol oc,.slice GA gn gc,.slice BA bn bc,.int .i64 count] 49)).alloc (.cells #[.slice none 0 0,.slice none 0 0] 27):=⟨_,rfl⟩;have t0:Touch [] w W:=hW ▸ ((Touch.refl [] w).alloc _).alloc _;have hb0:=hW ▸ ((Touch.refl [] (w.alloc (.cells #[.int .i64 1,.string k1,.slice A2 0 c2',.int .i64 ck,.string cn,.int .i64 cvk,.int .i64 cvn,.string cvt,.string cop,.slice CA cnn cc,.slice NA nn nc,.slice EA en ec,.slice OA ol oc,.slice GA gn gc,.slice BA bn bc,.int .i64 count] 49))).alloc (.cells #[.slice none 0 0,.slice none 0 0] 27)).blk (ah w _) (by simp);have hbt:W.heap[w.heap.size+1]?=some (.cells #[.slice none 0 0,.slice none 0 0] 27 (0,0)):=by
  have:=ah (w.alloc (.cells #[.int .i64 1,.string k1,.slice A2 0 c2',.int .i64 ck,.string cn,.int .i64 cvk,.int .i64 cvn,.string cvt,.string cop,.slice CA cnn cc,.slice NA nn nc,.slice EA en ec,.slice OA ol oc,.slice GA gn gc,.slice BA bn bc,.int .i64 count] 49)) (.cells #[.slice none 0 0,.slice none 0 0] 27);rw[ao] at this;exact hW ▸ this
 have hWs:W.heap.size=w.heap.size+2:=by rw[hW];simp
 have q0:W.cell? ⟨w.heap.size,0,none⟩=some (.int .i64 1):=d_ hb0 rfl;have q1:W.cell? ⟨w.heap.size,1,none⟩=some (.string k1):=d_ hb0 rfl;have q2:W.cell? ⟨w.heap.size,2,none⟩=some (.slice A2 0 c2'):=d_ hb0 rfl;have HW:=lh hW;have HT0:=Gc t0 hbt hWs;have Hs:=lh (rP I ic n l hn k1 W (h.touch0 t0) (by omega) k hkl hs);have Hcp:=lh λ(s1 r1:SL)w'(t:TabAt w' s1 r1 l[k].cs l[k].rows)=>uN s1 r1 _ _ hcl hrl hrr w' t;clear hs h hb0 hbt hW t0 hPO hcl hrl hrr hWs;go_enter Tryz.func30,Tryz.ntmps30;go_wp2_with fail;rw[<- HW.o];refine b8 1 ?_;rw[bx];go_wp2_with fail;refine Hs.o.mono ?_;rintro e w1 ⟨s1,r1,rfl,htab,t1⟩;obtain⟨SA,sn,sc⟩:=s1;obtain⟨RA,rn,rc⟩:=r1;have ta:=(Touch.refl [] w1).alloc (.cells #[.slice SA sn sc,.slice RA rn rc] 27);have hcp:=Hcp.o _ _ _ (htab.touch0 ta);have HX:=Gb (t1.trans0 ta) (ta.blk (t1.blk HT0.o.2.1 (by simp)) (by simp));have Hc2:=lh hcp;clear t1 ta hcp htab Hs;go_wp2_with fail;refine Hc2.o.mono ?_;rintro e w2 ⟨⟨sA,sn',sc'⟩,⟨rA,rn',rc'⟩,rfl,hnt,t2⟩;obtain⟨z0,z1,y0,y1⟩:=eL (t2.blk HX.o.2 (by simp));have HY:=Gc hnt t2 (t2.blk HX.o.2 (by simp));clear hnt t2;go_wp2_with fail;obtain⟨hnt,t2,hr2⟩:=HY.o;have hs1:=HX.o.1.size;have hs0:=HT0.o.2.2;have tq:=ik w2 (w.heap.size+1) (.slice sA sn' sc') (.slice rA rn' rc');refine aG (eD rfl _ _ (w.heap.size+1) _ _ _ _ rfl (kR hr2 rfl _ _) bV rfl rfl) rfl ?_;rw[HPO.o]
 refine⟨⟨sA,sn',sc'⟩,⟨rA,rn',rc'⟩,rfl, ?_,((HT0.o.1.trans0 HX.o.1).trans0 t2).trans tq (λb hb=>.inr (by simp at hb;omega))⟩;have hn3:NewTab W.heap.size w2 _ _ _ _:=hnt.base hs1;refine⟨hn3.n,hn3.le,d9.touch hn3.cols tq (λb hb hm=> ?_),λb hb=>⟨?_, ?_⟩,hn3.m, ?_,λb hb=> ?_,hn3.apart⟩
 ·have:=(hn3.cf b hb).1;simp at hm;omega
 ·have:=(hn3.cf b hb).1;omega
 ·have:=(hn3.cf b hb).2;have:=tq.size;omega
 ·exact(hn3.rws.touch tq (λb hb=>by simp at hb;omega) (λb hb=>hn3.rf b hb)).base (by omega)
 have:=hn3.rf b hb;omega
end
section
open Go.RowKit
def kZ(t:SL × SL):List Value:=[.slice t.1.A t.1.n t.1.c,.slice t.2.A t.2.n t.2.c]
theorem gi(t:SL × SL):(kZ t).length=2:=rfl
theorem xX(t:SL × SL):∀u∈kZ t,u.oneCell'=true:=by intro u hu;simp only[kZ,List.mem_cons,List.not_mem_nil,or_false] at hu;rcases hu with rfl|rfl<;>rfl
def eX(rv:Int × List (List VD))(w:World)(e:Ending)(w':World):Prop:=∃r:SL,e=.returned (.tuple #[.slice r.A r.n r.c,.int .i64 rv.1])/\r.n=rv.2.length/\eW w' r.A rv.2/\Touch [] w w'
theorem xr(x:PC)(hk0:x.kind=6)(h1:x.names.n=0)(h2:x.aggs.n=1)(op nm:ByteArray)(L:Option Addr)(lc:Nat)(ta:SL × SL)(cs:List CD)(hl:cs.length<=1000000)(w:World) (hL:d9 kZ w L [ta]) (hTA:TabAt w ta.1 ta.2 cs []) (hg:d9 lK w x.aggs.A [⟨op,⟨#[]⟩,nm⟩]) : Calls Tryz.prog 65 #[x.val,.slice L 1 lc] w (eX (0,[[⟨1,0,⟨#[]⟩⟩]]) w):=by
 obtain⟨⟨SA,sn,sc⟩,⟨RA,rn,rc⟩⟩:=ta;obtain⟨k0,k1,⟨A2,n2,c2'⟩,⟨⟨ck,cn,⟨cvk,cvn,cvt⟩,cop⟩,CA,cnn,cc⟩,⟨NA,nn,nc⟩,⟨EA,en,ec⟩,⟨OA,ol,oc⟩,⟨GA,gn,gc⟩,⟨BA,bn,bc⟩,count⟩:=x;dsimp only at hk0 h1 h2 hg hTA;subst hk0;obtain⟨ad,bl,bo,rfl,hadd0,hc0⟩:=d9.cells hL 2 gi (by omega) 0 (by simp);have l0:=hc0 0 _ rfl;have l1:=hc0 1 _ rfl;simp only[Nat.zero_mul,Nat.add_zero] at hadd0 l0 l1;simp only[List.getElem_cons_zero] at l0 l1;have Hj:=lh λw'(t:Touch [] w w')=>yo ⟨6,k1,⟨A2,n2,c2'⟩,⟨⟨ck,cn,⟨cvk,cvn,cvt⟩,cop⟩,CA,cnn,cc⟩,⟨NA,nn,nc⟩,⟨EA,en,ec⟩,⟨OA,ol,oc⟩,⟨GA,gn,gc⟩,⟨BA,bn,bc⟩,count⟩ h1 h2 op nm ⟨SA,sn,sc⟩ ⟨RA,rn,rc⟩ cs hTA.n hl hTA.m w' (d9.touch0 hg t) (hTA.cols.touch0 t);simp only[PC.val] at *;obtain⟨W,hW⟩:∃W,W=w.alloc (.cells #[.int .i64 6,.string k1,.slice A2 n2 c2',.int .i64 ck,.string cn,.int .i64 cvk,.int .i64 cvn,.string cvt,.string cop,.slice CA cnn cc,.slice NA nn nc,.slice EA en ec,.slice OA ol oc,.slice GA gn gc,.slice BA bn bc,.int .i64 count] 49):=⟨_,rfl⟩;have t0:Touch [] w W:=hW ▸ (Touch.refl [] w).alloc _;have hb0:=hW ▸ ah w (.cells #[.int .i64 6,.string k1,.slice A2 n2 c2',.int .i64 ck,.string cn,.int .i64 cvk,.int .i64 cvn,.string cvt,.string cop,.slice CA cnn cc,.slice NA nn nc,.slice EA en ec,.slice OA ol oc,.slice GA gn gc,.slice BA bn bc,.int .i64 count] 49);have l0d:=t0.drew.cell l0 (by simp);have l1d:=t0.drew.cell l1 (by simp);obtain⟨p0,p1,p2,p3,p4,p5,p6,p7,p8,p9,p10,p11,p12,p13,p14,p15⟩:=fg ((Touch.refl [] W).drew.blk hb0 (by simp))
 have HP:Ga (W.drew.cell? ⟨w.heap.size,0,none⟩=some (.int .i64 6)/\W.drew.cell? ⟨w.heap.size,1,none⟩=some (.string k1)/\W.drew.cell? ⟨w.heap.size,2,none⟩=some (.slice A2 n2 c2')/\W.drew.cell? ⟨w.heap.size,3,none⟩=some (.int .i64 ck)/\W.drew.cell? ⟨w.heap.size,4,none⟩=some (.string cn)/\W.drew.cell? ⟨w.heap.size,5,none⟩=some (.int .i64 cvk)/\W.drew.cell? ⟨w.heap.size,6,none⟩=some (.int .i64 cvn)/\W.drew.cell? ⟨w.heap.size,7,none⟩=some (.string cvt)/\W.drew.cell? ⟨w.heap.size,8,none⟩=some (.string cop)/\W.drew.cell? ⟨w.heap.size,9,none⟩=some (.slice CA cnn cc)/\W.drew.cell? ⟨w.heap.size,10,none⟩=some (.slice NA nn nc)/\W.drew.cell? ⟨w.heap.size,11,none⟩=some (.slice EA en ec)/\W.drew.cell? ⟨w.heap.size,12,none⟩=some (.slice OA ol oc)/\W.drew.cell? ⟨w.heap.size,13,none⟩=some (.slice GA gn gc)/\W.drew.cell? ⟨w.heap.size,14,none⟩=some (.slice BA bn bc)/\W.drew.cell? ⟨w.heap.size,15,none⟩=some (.int .i64 count)/\W.drew.cell? ⟨bl,bo,none⟩=some (.slice SA sn sc)/\W.drew.cell? ⟨bl,bo+1,none⟩=some (.slice RA rn rc)):=lh ⟨p0,p1,p2,p3,p4,p5,p6,p7,p8,p9,p10,p11,p12,p13,p14,p15,l0d,l1d⟩;have HW:=lh hW;have HT0:=lh t0.drew;clear h1 h2 hg hTA hL hc0 hW t0 l0 l1 hb0 l0d l1d p0 p1 p2 p3 p4 p5 p6 p7 p8 p9 p10 p11 p12 p13 p14 p15;go_enter Tryz.func65,Tryz.ntmps65;go_wp2_with fail;rw[<- HW.o]
 go_region_held3 (λw'=>w'.cell? ⟨w.heap.size,0,none⟩=some (.int .i64 6)/\w'.cell? ⟨w.heap.size,1,none⟩=some (.string k1)/\w'.cell? ⟨w.heap.size,2,none⟩=some (.slice A2 n2 c2')/\w'.cell? ⟨w.heap.size,3,none⟩=some (.int .i64 ck)/\w'.cell? ⟨w.heap.size,4,none⟩=some (.string cn)/\w'.cell? ⟨w.heap.size,5,none⟩=some (.int .i64 cvk)/\w'.cell? ⟨w.heap.size,6,none⟩=some (.int .i64 cvn)/\w'.cell? ⟨w.heap.size,7,none⟩=some (.string cvt)/\w'.cell? ⟨w.heap.size,8,none⟩=some (.string cop)/\w'.cell? ⟨w.heap.size,9,none⟩=some (.slice CA cnn cc)/\w'.cell? ⟨w.heap.size,10,none⟩=some (.slice NA nn nc)/\w'.cell? ⟨w.heap.size,11,none⟩=some (.slice EA en ec)/\w'.cell? ⟨w.heap.size,12,none⟩=some (.slice OA ol oc)/\w'.cell? ⟨w.heap.size,13,none⟩=some (.slice GA gn gc)/\w'.cell? ⟨w.heap.size,14,none⟩=some (.slice BA bn bc)/\w'.cell? ⟨w.heap.size,15,none⟩=some (.int .i64 count)/\w'.cell? ⟨bl,bo,none⟩=some (.slice SA sn sc)/\w'.cell? ⟨bl,bo+1,none⟩=some (.slice RA rn rc)) (first | exact HP.o | exact iE M1.o.2 HP.o) (first
  |(go_at_call 97;refine(Hj.o _ HT0.o).mono ?_;rintro e w1 ⟨A1,c1,rfl,m1⟩;have M1:=lh m1;clear m1))
 go_wp2_with fail;go_ret2;exact⟨⟨A1,1,c1⟩,rfl,rfl,M1.o.1,HT0.o.trans0 M1.o.2⟩
end
section
open Go.RowKit
def fu(vs:List (Int × List CD × List (List VD)))(cs:List CD)(rv:Int × List (List VD)):Int × List CD × List (List VD):=
 if fI (vs.map λv=>(v.1,v.2.1))=0 then (if rv.1=0 then (if e_ cs rv.2=0 then (0,cs,fF rv.2) else (e_ cs rv.2,[],[])) else (rv.1,[],[])) else (fI (vs.map λv=>(v.1,v.2.1)),[],[])
def jX(base:Nat)(L:Option Addr)(w:World)(tl:List (SL × SL))(vs:List (List CD × List (List VD))):Prop:=tl.length=vs.length/\∀i(h1:i<tl.length)(h2:i<vs.length),∃lo hi,TabU lo hi w tl[i].1 tl[i].2 vs[i].1 vs[i].2/\base<=lo/\hi<=w.heap.size/\∀b∈ed L,b<lo\/hi<=b
theorem jX.nil(base:Nat)(L:Option Addr)(w:World):jX base L w [] []:=⟨rfl,λi h=>absurd h (by simp)⟩
theorem jX.touch0{base:Nat}{L:Option Addr}{w w':World}{tl:List (SL × SL)}{vs:List (List CD × List (List VD))}(h:jX base L w tl vs)(ht:Touch [] w w'):jX base L w' tl vs:=⟨h.1,λi a b=>by obtain⟨lo,hi,h1,h2,h3,h4⟩:=h.2 i a b;exact⟨lo,hi,h1.touch ht (by simp),h2,bm h3 ht.size,h4⟩⟩
theorem jX.grow{base:Nat}{L L':Option Addr}{w w':World}{tl:List (SL × SL)}{vs:List (List CD × List (List VD))}(h:jX base L w tl vs)(ht:Touch (ed L) w w')(hf:∀ b∈ed L',b∈ed L\/w.heap.size<=b):jX base L' w' tl vs:=⟨h.1,λi a b=>by
 obtain⟨lo,hi,h1,h2,h3,h4⟩:=h.2 i a b;exact⟨lo,hi,h1.touch ht h4,h2,bm h3 ht.size,λb hb=>by
 rcases hf b hb with q|q
 ·exact h4 b q
 right;omega⟩⟩
theorem jX.snoc{base:Nat}{L:Option Addr}{w:World}{tl:List (SL × SL)}{vs:List (List CD × List (List VD))}(h:jX base L w tl vs)(s r:SL)(cs:List CD)(rows:List (List VD))(lo hi:Nat)(h1:TabU lo hi w s r cs rows)(h2:base<=lo)(h3:hi<=w.heap.size)(h4:∀ b∈ed L,b<lo\/hi<=b):jX base L w (tl++[(s,r)]) (vs++[(cs,rows)]):=by
 refine⟨by rw[az,az,h.1];rfl,λi a b=> ?_⟩;by_cases hi':i<tl.length
 ·have hi2:i<vs.length:=by rw[<- h.1];exact hi'
  rw[bH hi',bH hi2];exact h.2 i hi' hi2
 have hi'':i=tl.length:=by rw[az] at a;simp at a;omega
 subst hi'';have e1:(tl++[(s,r)])[tl.length]=(s,r):=by simp
 have e2:(vs++[(cs,rows)])[tl.length]=(cs,rows):=by rw[bM (by rw[h.1];exact aL _)];simp[h.1]
 rw[e1,e2];exact⟨lo,hi,h1,h2,h3,h4⟩
def lS(w:World)(x:PC)(tabs:List (List CD × List (List VD)))(rv:Int × List (List VD)):Prop:=∀w'(L:Option Addr)(lc:Nat)(tl:List (SL × SL)),Touch [] w w'->(tl.length=tabs.length/\∀i(h1:i<tl.length)(h2:i<tabs.length),TabAt w' tl[i].1 tl[i].2 tabs[i].1 tabs[i].2)->d9 kZ w' L tl ->
 Calls Tryz.prog 65 #[x.val,.slice L tabs.length lc] w' (eX rv w')
theorem xM:(Tryz.prog.info? 27).map (λi=>(i.zero,i.size,i.bytes))=some (some (.agg #[.slice none 0 0,.slice none 0 0]),2,48):=by kernel_rfl
theorem BW(x:PC)(kk m:Nat)(hk0:x.kind=kk)(hk2:2<=kk)(hm:x.args.n=m)(hm2:m<=2)(I:Option Addr)(ic n:Nat)(w:World) (xs:List PC) (vs:List (Int × List CD × List (List VD))) (hxs:xs.length=m) (hvs:vs.length=m) (hX:d9 ir w x.args.A xs) (hE:∀i(h1:i<xs.length)(h2:i<vs.length),gV w I ic n xs[i] vs[i]) (ver:Int) (cs:List CD) (hS:fI (vs.map λv=>(v.1,v.2.1))=0->ib w x (vs.map (·.2.1)) (ver,cs)) (rv:Int × List (List VD)) (hR:fI (vs.map λv=>(v.1,v.2.1))=0->lS w x (vs.map (·.2)) rv) (hok:∀c∈cs,c.Ok) (hvl:cs.length<=1000000) (hrk:fe rv.2) (hrl:gR rv.2) (hrn:rv.2.length<=1000000) : Calls Tryz.prog 30 #[x.val,.slice I n ic] w (hJ (fu vs cs rv) w):=by
 obtain⟨PO,hPO⟩:∃PO,PO=hJ (fu vs cs rv) w:=⟨_,rfl⟩;rw[<- hPO];have HPO:=lh hPO;have HSC:=lh hS;have HRC:=lh hR;obtain⟨k0,k1,⟨A2,n2,c2'⟩,⟨⟨ck,cn,⟨cvk,cvn,cvt⟩,cop⟩,CA,cnn,cc⟩,⟨NA,nn,nc⟩,⟨EA,en,ec⟩,⟨OA,ol,oc⟩,⟨GA,gn,gc⟩,⟨BA,bn,bc⟩,count⟩:=x;dsimp only at hk0 hm hX ⊢;subst hk0 hm;simp only[PC.val];obtain⟨W,hW⟩:∃W,W=(w.alloc (.cells #[.int .i64 (kk:Nat),.string k1,.slice A2 n2 c2',.int .i64 ck,.string cn,.int .i64 cvk,.int .i64 cvn,.string cvt,.string cop,.slice CA cnn cc,.slice NA nn nc,.slice EA en ec,.slice OA ol oc,.slice GA gn gc,.slice BA bn bc,.int .i64 count] 49)).alloc (.cells #[.slice none 0 0,.slice none 0 0] 27):=⟨_,rfl⟩;have t0:Touch [] w W:=hW ▸ ((Touch.refl [] w).alloc _).alloc _;have hb0:=hW ▸ ((Touch.refl [] (w.alloc (.cells #[.int .i64 (kk:Nat),.string k1,.slice A2 n2 c2',.int .i64 ck,.string cn,.int .i64 cvk,.int .i64 cvn,.string cvt,.string cop,.slice CA cnn cc,.slice NA nn nc,.slice EA en ec,.slice OA ol oc,.slice GA gn gc,.slice BA bn bc,.int .i64 count] 49))).alloc (.cells #[.slice none 0 0,.slice none 0 0] 27)).blk (ah w _) (by simp);have hbt:W.heap[w.heap.size+1]?=some (.cells #[.slice none 0 0,.slice none 0 0] 27 (0,0)):=by
  have:=ah (w.alloc (.cells #[.int .i64 (kk:Nat),.string k1,.slice A2 n2 c2',.int .i64 ck,.string cn,.int .i64 cvk,.int .i64 cvn,.string cvt,.string cop,.slice CA cnn cc,.slice NA nn nc,.slice EA en ec,.slice OA ol oc,.slice GA gn gc,.slice BA bn bc,.int .i64 count] 49)) (.cells #[.slice none 0 0,.slice none 0 0] 27);rw[ao] at this;exact hW ▸ this
 have hWs:W.heap.size=w.heap.size+2:=by rw[hW];simp
 have q2:W.cell? ⟨w.heap.size,2,none⟩=some (.slice A2 n2 c2'):=d_ hb0 rfl;have hkc:((kk:Int)==1)=false:=by rw[aw];omega
 have HW:=lh hW;have HT0:=Gd t0 hb0 hbt hWs;have HX:=lh (d9.touch0 hX t0);have HEv:=lh hE;have Hxs:=lh hxs;have Hvs:=lh hvs;have Hok:=Gc hok hrk hrl;clear hb0 hbt hW t0 hX hE hxs hvs hPO hS hR hWs hok hrk hrl;go_enter Tryz.func30,Tryz.ntmps30;go_wp2_with fail;rw[<- HW.o];go_loopw [6,23] (λo i wr=>∃(j:Nat)(L:Option Addr)(lc:Nat)(tl:List (SL × SL)),j<=n2/\i=.int .i64 j/\o=.slice L j lc/\Ga (∀i(hi:i<j)(h2:i<vs.length),vs[i].1=0)/\Ga (jX W.heap.size L wr tl ((vs.map (·.2)).take j))/\Ga (ep 27 2 kZ wr L lc tl)/\Ga (∀b∈ed L,W.heap.size<=b)/\Ga (Touch [] W wr)) (λ_ i _=>n2-(intOf i).toNat)
 case atStart=>exact⟨0,none,0,[],by omega,rfl,rfl,lh (λi h=>absurd h (by omega)),lh (jX.nil _ _ _),lh (ep.nil _ _ _ _),lh (by simp[ed]),lh (Touch.refl _ _)⟩
 case round =>
 obtain⟨j,L,lc,tl,hj,rfl,rfl,HE,HS,HO,HF,HT⟩:=hrel;have htlj:Ga (tl.length=j):=lh (by rw[HS.o.1,aO,ay,Hvs.o];omega);by_cases hlt:j<n2
 ·have hjx:j<xs.length:=by rw[Hxs.o];exact hlt
  have hjv:j<vs.length:=by rw[Hvs.o];exact hlt
  obtain⟨ad,b1,o1,rfl,hadd,hc⟩:=d9.cells (HX.o.touch0 HT.o) 16 lC (by omega) j hjx;have hty:=HEv.o j hjx hjv;have hmv:(vs.map (·.2)).take (j+1)=(vs.map (·.2)).take j++[vs[j].2]:=by rw[au (by rw[ay];exact hjv),aW]
  have her:vs[j].1≠0->fI (vs.map λv=>(v.1,v.2.1))=vs[j].1:=λh0=>by have:=sG (l:=vs.map λv=>(v.1,v.2.1)) (j:=j) (by rw[ay];exact hjv) (λi hi=>by rw[aW];exact HE.o i hi (by omega)) (by rw[aW];exact h0);rw[this,aW]
  obtain⟨y,hy⟩:∃y,y=xs[j]:=⟨_,rfl⟩;obtain⟨u,hu⟩:∃u,u=vs[j]:=⟨_,rfl⟩;rw[<- hy] at hc hty;rw[<- hu] at hty hmv her;obtain⟨y0,y1,⟨yA2,yn2,yc2⟩,⟨⟨yck,ycn,⟨ycvk,ycvn,ycvt⟩,ycop⟩,yCA,ycnn,ycc⟩,⟨yNA,ynn,ync⟩,⟨yEA,yen,yec⟩,⟨yOA,yol,yoc⟩,⟨yGA,ygn,ygc⟩,⟨yBA,ybn,ybc⟩,ycount⟩:=y;have e0:=hc 0 _ rfl;have e1:=hc 1 _ rfl;have e2:=hc 2 _ rfl;have e3:=hc 3 _ rfl;have e4:=hc 4 _ rfl;have e5:=hc 5 _ rfl;have e6:=hc 6 _ rfl;have e7:=hc 7 _ rfl;have e8:=hc 8 _ rfl;have e9:=hc 9 _ rfl;have e10:=hc 10 _ rfl;have e11:=hc 11 _ rfl;have e12:=hc 12 _ rfl;have e13:=hc 13 _ rfl;have e14:=hc 14 _ rfl;have e15:=hc 15 _ rfl;rw[aM] at e0;dsimp only at e0 e1 e2 e3 e4 e5 e6 e7 e8 e9 e10 e11 e12 e13 e14 e15;have ta:=(Touch.refl [] wr).alloc (.cells #[.int .i64 y0,.string y1,.slice yA2 yn2 yc2,.int .i64 yck,.string ycn,.int .i64 ycvk,.int .i64 ycvn,.string ycvt,.string ycop,.slice yCA ycnn ycc,.slice yNA ynn ync,.slice yEA yen yec,.slice yOA yol yoc,.slice yGA ygn ygc,.slice yBA ybn ybc,.int .i64 ycount] 49);have hty2:=hty _ ((HT0.o.1.trans0 HT.o).trans0 ta);simp only[PC.val] at hty2;have Hty:=lh hty2;have Hmv:=lh hmv;have HTa:=lh ta;have hjn:(j:Int)<(n2:Int):=by omega
  obtain⟨uer,ucs,urows⟩:=u;dsimp only at her hmv Hmv Hty;have Hu:=lh hu;clear hc hty hty2 hy hu hmv ta;by_cases hz:uer=0
  ·as_aux_lemma =>
   subst hz;clear her;go_wp2_with fail;refine Hty.o.mono ?_;rintro e w1 ⟨⟨sA,sn,sc⟩,⟨rA,rn,rc⟩,rfl,hnt,t1⟩;have hUT:TabU (wr.heap.size+1) w1.heap.size w1 ⟨sA,sn,sc⟩ ⟨rA,rn,rc⟩ ucs urows:=by have:=TabU.of hnt;rw[ao] at this;exact this
   have T1:=HTa.o.trans0 t1;have hs1:=HTa.o.size;rw[ao] at hs1;have HY:=Gb hUT t1.size;have HT1:=lh T1;have tb:=(Touch.refl [] w1).alloc (.cells #[.slice sA sn sc,.slice rA rn rc] 27);have HTb:=Gb tb (ah w1 (.cells #[.slice sA sn sc,.slice rA rn rc] 27));clear hnt t1 T1 hUT hs1 tb;go_wp2_with (at_builtin;refine ez ?_);refine go ?_;have tc:=HTb.o.1.alloc (.cells #[.slice sA sn sc,.slice rA rn rc] 27);have hrd1:=d9.one (enc:=kZ) (w1.alloc (.cells #[.slice sA sn sc,.slice rA rn rc] 27)) 27 (⟨sA,sn,sc⟩,⟨rA,rn,rc⟩) #[.slice sA sn sc,.slice rA rn rc] rfl;rw[ao] at hrd1;refine eb (enc:=kZ) rfl (.tmp 37) (.tmp 39) 115 rfl 27 _ 2 48 xM Tryz.underlying115 rfl (by omega) gi xX L j lc tl htlj.o rfl (HO.o.touch0 (HT1.o.trans0 tc))
    (some ⟨w1.heap.size+1,0,none⟩) 1 1 [(⟨sA,sn,sc⟩,⟨rA,rn,rc⟩)] rfl rfl hrd1 (by omega) (by omega) ?_
   intro L' lc' w' hown ht hf;have HN2:=Gd hown ht hf tc;clear hown ht hf tc hrd1;go_wp2_with fail;go_roundw
   case rel =>
    obtain⟨hown,ht,hf,tc⟩:=HN2.o;obtain⟨hU,hs1⟩:=HY.o;have hLlt:=HO.o.lt;have hsz:=HT.o.size;have hs2:=HT1.o.size;rw[ao] at hs1;have hU2:jX W.heap.size L w1 (tl++[(⟨sA,sn,sc⟩,⟨rA,rn,rc⟩)]) ((vs.map (·.2)).take (j+1)):=by rw[Hmv.o];exact(HS.o.touch0 HT1.o).snoc _ _ _ _ _ _ hU (by omega) (aL _) (λb hb=>by have:=hLlt b hb;omega)
    refine⟨j+1,L',lc',_,by omega,by go_num,rfl,lh (λi hi h2=> ?_),lh ((hU2.touch0 tc).grow ht (λb hb=> ?_)),lh hown,lh (λb hb=> ?_),lh (((HT.o.trans0 HT1.o).trans0 tc).trans ht (λb hb=>.inr (HF.o b hb)))⟩
    ·by_cases hij:i=j
     ·subst hij;rw[<- Hu.o]
     exact HE.o i (by omega) h2
    ·rcases hf b hb with q | q
     ·exact .inl q
     exact .inr (by rw[q];exact aL _)
    rcases hf b hb with q | q
    ·exact HF.o b q
    rw[ao,ao] at q;omega
   case measure=>simp[intOf];omega
  as_aux_lemma =>
  have HVe:=lh (show fu vs cs rv=(uer,[],[]) by unfold fu;rw[her hz,ab hz])
  have hq:(uer==0)=false:=by rw[aw];exact hz
  have hq':(uer != 0)=true:=by rw[bne,hq];rfl
  clear her;go_wp2_with fail;refine Hty.o.mono ?_;rintro e w1 ⟨⟨sA,sn,sc⟩,⟨rA,rn,rc⟩,rfl,hnt,t1⟩;have ta2:=(Touch.refl [] w1).alloc (.cells #[.slice sA sn sc,.slice rA rn rc] 27);have hr2:=ta2.blk (t1.blk (HTa.o.blk (HT.o.blk HT0.o.2.2.1 (by simp)) (by simp)) (by simp)) (by simp);obtain⟨z0,z1,y0,y1⟩:=eL hr2;have HT1:=Gb ((((HT0.o.1.trans0 HT.o).trans0 HTa.o).trans0 t1).trans0 ta2) hr2;clear hnt t1 hr2 ta2;go_wp2_with fail;refine aG (eD rfl _ _ (w.heap.size+1) _ _ _ _ rfl (kR HT1.o.2 rfl _ _) bV rfl rfl) rfl ?_;rw[HPO.o,HVe.o];exact hJ.err uer (HT1.o.1.trans (ik _ _ _ _) (λb hb=>.inr (by simp at hb;omega)))
 obtain rfl:j=n2:=by omega
 have hz:fI (vs.map λv=>(v.1,v.2.1))=0:=qg λu hu=>by obtain⟨v,hv,rfl⟩:=aJ.1 hu;obtain⟨i,hi,rfl⟩:=aU.1 hv;exact HE.o i (by rw[<- Hvs.o];exact hi) hi
 have HVe:=lh (show fu vs cs rv=if rv.1=0 then (if e_ cs rv.2=0 then (0,cs,fF rv.2) else (e_ cs rv.2,[],[])) else (rv.1,[],[]) by unfold fu;rw[ae hz]);have hlen:(vs.map (·.2)).length=j:=by rw[ay];exact Hvs.o
 have hlen2:(vs.map (·.2.1)).length=j:=by rw[ay];exact Hvs.o
 have HS2:Ga (jX W.heap.size L wr tl (vs.map (·.2))):=lh (by have:=HS.o;rwa[<- hlen,aH] at this)
 obtain⟨W2,hW2⟩:∃W2,W2=wr:=⟨_,rfl⟩;subst hW2;have q0:=HT.o.cell (fg HT0.o.2.1).1 (by simp);have HLN:=Gc hz hlen hlen2;have hlw:=lh (HO.o.lt);clear HE HS HF hlt hz hlen hlen2;go_wp2_with fail;clear q0;go_loopw [13,56] (λo i w4=>∃(k:Nat)(Ls:Option Addr)(lcs:Nat)(sl:List SL),k<=j/\i=.int .i64 k/\o=.slice Ls k lcs/\Ga (iq w.heap.size w4 sl ((vs.map (·.2.1)).take k))/\Ga (ep 24 1 eT w4 Ls lcs sl)/\Ga (∀b∈ed Ls,W2.heap.size<=b)/\Ga (∀s∈sl,∀b∈ed s.A,b<W2.heap.size)/\Ga (Touch [] W2 w4)) (λ_ i _=>j-(intOf i).toNat)
 case atStart=>exact⟨0,none,0,[],by omega,rfl,rfl,lh (iq.nil _ _),lh (ep.nil _ _ _ _),lh (by simp[ed]),lh (by simp),lh (Touch.refl _ _)⟩
 case round =>
 obtain⟨k,Ls,lcs,sl,hk,rfl,rfl,HSl,HOs,HFs,HBs,HTs⟩:=hrel;have hslk:Ga (sl.length=k):=lh (by rw[HSl.o.1,aO,HLN.o.2.2];omega);by_cases hlt:k<j
 ·as_aux_lemma =>
  have hkt:k<tl.length:=by rw[htlj.o];exact hlt
  have hkv:k<(vs.map (·.2)).length:=by rw[HLN.o.2.1];exact hlt
  have hkv1:k<vs.length:=by rw[Hvs.o];exact hlt
  obtain⟨ad,b1,o1,rfl,hadd,hc⟩:=d9.cells (d9.touch0 HO.o.rd HTs.o) 2 gi (by omega) k hkt;obtain⟨lo,hi,hU,hlo,hhi,_⟩:=HS2.o.2 k hkt hkv;rw[aW] at hU;have hmv:(vs.map (·.2.1)).take (k+1)=(vs.map (·.2.1)).take k++[vs[k].2.1]:=by rw[au (by rw[ay];exact hkv1),aW]
  obtain⟨t,ht⟩:∃t,t=tl[k]:=⟨_,rfl⟩;obtain⟨u,hu⟩:∃u,u=vs[k]:=⟨_,rfl⟩;rw[<- ht] at hc hU;rw[<- hu] at hU hmv;obtain⟨⟨sA,sn,sc⟩,⟨rA,rn,rc⟩⟩:=t;obtain⟨uer,ucs,urows⟩:=u;have e0:=hc 0 _ rfl;have e1:=hc 1 _ rfl;rw[aM] at e0;dsimp only at e0 e1 hmv hU;have HU:=Gc hU hlo hhi;have Hmv:=lh hmv;have hkn:(k:Int)<(j:Int):=by omega
  clear hc hU hlo hhi hmv ht hu;go_wp2_with (at_builtin;refine ez ?_);refine go ?_;have tc:=((Touch.refl [] wr).alloc (.cells #[.slice sA sn sc,.slice rA rn rc] 27)).alloc (.cells #[.slice sA sn sc] 24);have hrd1:=d9.one (enc:=eT) (wr.alloc (.cells #[.slice sA sn sc,.slice rA rn rc] 27)) 24 ⟨sA,sn,sc⟩ #[.slice sA sn sc] rfl;rw[ao] at hrd1;refine eb (enc:=eT) rfl (.tmp 60) (.tmp 63) 119 rfl 24 _ 1 24 sX Tryz.underlying119 rfl (by omega) eC ia Ls k lcs sl hslk.o rfl (HOs.o.touch0 tc)
   (some ⟨wr.heap.size+1,0,none⟩) 1 1 [⟨sA,sn,sc⟩] rfl rfl hrd1 (by omega) (by omega) ?_
  intro L' lc' w' hown ht hf;have HN2:=Gd hown ht hf tc;clear hown ht hf tc hrd1;go_wp2_with fail;go_roundw
  case rel =>
   obtain⟨hown,ht,hf,tc⟩:=HN2.o;obtain⟨hU,hlo,hhi⟩:=HU.o;have hs0:=HT0.o.1.size;have hsn:=((HSl.o.touch0 tc).snoc ⟨sA,sn,sc⟩ ucs hU.n hU.le (hU.cols.touch0 (HTs.o.trans0 tc)) (λb hb=>⟨by have:=hU.cf b hb;omega,by have:=(hU.cf b hb).2;have:=(HTs.o.trans0 tc).size;omega⟩));have hall:∀s∈sl++[(⟨sA,sn,sc⟩:SL)],∀b∈ed s.A,b<W2.heap.size:=λs hs b hb=>by
    rcases aZ.1 hs with q|q
    ·exact HBs.o s q b hb
    simp only[List.mem_singleton] at q;subst q;have:=(hU.cf b hb).2;omega
   refine⟨k+1,L',lc',_,by omega,by go_num,rfl,lh (by rw[Hmv.o];exact hsn.touch ht (λs hs b hb hm=>by have:=hall s hs b hb;have:=HFs.o b hm;omega)),lh hown,lh (λb hb=> ?_),lh hall,lh ((HTs.o.trans0 tc).trans ht (λb hb=>.inr (HFs.o b hb)))⟩;rcases hf b hb with q|q
   ·exact HFs.o b q
   rw[ao,ao] at q;have:=HTs.o.size;omega
  case measure=>simp[intOf];omega
 as_aux_lemma =>
 obtain rfl:k=j:=by omega
 have hsl:iq w.heap.size wr sl (vs.map (·.2.1)):=by have:=HSl.o;rwa[<- HLN.o.2.2,aH] at this
 have hTw:=(HT0.o.1.trans0 HT.o).trans0 HTs.o;have hsc:=HSC.o HLN.o.1 wr w.heap.size Ls lcs sl hTw hTw.size hsl HOs.o.rd;rw[HLN.o.2.2] at hsc;simp only[PC.val] at hsc;have Hsc:=lh hsc;have HB:=lh ((HT.o.trans0 HTs.o).blk HT0.o.2.1 (by simp));have HBr:=lh ((HT.o.trans0 HTs.o).blk HT0.o.2.2.1 (by simp));have HTw:=lh hTw;have HRW:=lh λw'(t:Touch [] wr w')=>HRC.o HLN.o.1 w' L lc tl (hTw.trans0 t) ⟨HS2.o.1,λi a b=>by obtain⟨lo,hi,hU,_⟩:=HS2.o.2 i a b;exact hU.tab.touch0 (HTs.o.trans0 t)⟩ (d9.touch0 HO.o.rd (HTs.o.trans0 t))
 rw[HLN.o.2.1] at HRW;simp only[PC.val] at HRW;obtain⟨p0,p1,p2,p3,p4,p5,p6,p7,p8,p9,p10,p11,p12,p13,p14,p15⟩:=fg HB.o;clear hsc hTw hsl hlt hslk HSl HOs HFs HBs htlj HS2 HO;go_wp2_with fail;refine Hsc.o.mono ?_;rintro e w5 ⟨⟨sA,sn,sc⟩,rfl,s1,s2,s3,s4,t5⟩;have HY:=Gd s1 s2 s3 t5;have hrw:=HRW.o w5 t5;have Hrw:=lh hrw;have HB5:=lh (t5.blk HB.o (by simp));have HBr5:=lh (t5.blk HBr.o (by simp));clear s1 s2 s3 s4 t5 hrw p0 p1 p2 p3 p4 p5 p6 p7 p8 p9 p10 p11 p12 p13 p14 p15 Hsc;obtain⟨p0,p1,p2,p3,p4,p5,p6,p7,p8,p9,p10,p11,p12,p13,p14,p15⟩:=fg HB5.o;go_wp2_with fail;refine Hrw.o.mono ?_;rintro e w6 ⟨⟨rA,rn,rc⟩,rfl,r1,r2,t6⟩;have HZ:=Gc r1 r2 t6;have HBr6:=lh (t6.blk HBr5.o (by simp));obtain⟨rer,rrows⟩:=rv;dsimp only at hrn HVe HZ;clear r1 r2 t6 Hrw p0 p1 p2 p3 p4 p5 p6 p7 p8 p9 p10 p11 p12 p13 p14 p15;obtain⟨z0,z1,y0,y1⟩:=eL HBr6.o;by_cases hr0:rer=0
 ·as_aux_lemma =>
  have HVf:=lh (show fu vs cs (rer,rrows)=if e_ cs rrows=0 then (0,cs,fF rrows) else (e_ cs rrows,[],[]) by rw[HVe.o,ae hr0]);subst hr0;clear HVe;by_cases hf0:e_ cs rrows=0
  ·as_aux_lemma =>
   have HVg:=lh (show fu vs cs (0,rrows)=(0,cs,fF rrows) by rw[HVf.o,ae hf0]);have Hmk:=lh (vO sA sc sn cs HY.o.1.symm HY.o.2.1 Hok.o.1 rA rc rn rrows HZ.o.1.symm Hok.o.2.1 Hok.o.2.2 w6 (HY.o.2.2.1.touch0 HZ.o.2.2) HZ.o.2.1 (by have:=HY.o.1;omega) (by have:=HZ.o.1;omega) hf0);clear HVf hf0;go_wp2_with fail;refine Hmk.o.mono ?_;rintro e w7 ⟨⟨mA,mn,mc⟩,⟨gA,gn',gc'⟩,out,rfl,hnt,hso,t7⟩;have HM:=Gd hnt hso t7 (t7.blk HBr6.o (by simp));clear hnt hso t7 Hmk z0 z1 y0 y1;obtain⟨z0,z1,y0,y1⟩:=eL HM.o.2.2.2;go_wp2_with fail;obtain⟨hnt,hso,t7,hr7⟩:=HM.o;have tq:=ik w7 (w.heap.size+1) (.slice mA mn mc) (.slice gA gn' gc');have hT6:=(HTw.o.trans0 HY.o.2.2.2).trans0 HZ.o.2.2;have hs6:=hT6.size;have hWs:=HT0.o.2.2.2;have hs7:w.heap.size+2<=w6.heap.size:=by have h1:=(((HT.o.trans0 HTs.o).trans0 HY.o.2.2.2).trans0 HZ.o.2.2).size;omega
   refine aG (eD rfl _ _ (w.heap.size+1) _ _ _ _ rfl (kR hr7 rfl _ _) bV rfl rfl) rfl ?_;rw[HPO.o,HVg.o,<- m_ hso];refine⟨⟨mA,mn,mc⟩,⟨gA,gn',gc'⟩,rfl, ?_,(hT6.trans0 t7).trans tq (λb hb=>.inr (by simp at hb;omega))⟩;refine⟨hnt.n,hnt.le,d9.touch hnt.cols tq (λb hb hm=> ?_),λb hb=>⟨?_, ?_⟩,hnt.m, ?_,λb hb=> ?_,hnt.apart⟩
   ·have:=(hnt.cf b hb).1;simp at hm;omega
   ·have:=(hnt.cf b hb).1;omega
   ·have:=(hnt.cf b hb).2;have:=tq.size;omega
   ·exact(hnt.rws.touch tq (λb hb=>by simp at hb;omega) (λb hb=>hnt.rf b hb)).base (by omega)
   have:=hnt.rf b hb;omega
  as_aux_lemma =>
  have HVg:=lh (show fu vs cs (0,rrows)=(e_ cs rrows,[],[]) by rw[HVf.o,ab hf0]);have hmk:=yj sA sc sn cs HY.o.1.symm Hok.o.1 rA rc rn rrows HZ.o.1.symm Hok.o.2.1 w6 (HY.o.2.2.1.touch0 HZ.o.2.2) HZ.o.2.1 (by have:=HY.o.1;omega) (by have:=HZ.o.1;omega) hf0;obtain⟨K,hK⟩:∃K,K=e_ cs rrows:=⟨_,rfl⟩;rw[<- hK] at hmk HVg;have Hmk:=lh hmk;clear HVf hf0 hK hmk;go_wp2_with fail;refine Hmk.o.mono ?_;rintro e w7 ⟨rfl,t7⟩;have HM:=Gb t7 (t7.blk HBr6.o (by simp));clear t7 Hmk z0 z1 y0 y1;obtain⟨z0,z1,y0,y1⟩:=eL HM.o.2;go_wp2_with fail;have hT6:=(HTw.o.trans0 HY.o.2.2.2).trans0 HZ.o.2.2;refine aG (eD rfl _ _ (w.heap.size+1) _ _ _ _ rfl (kR HM.o.2 rfl _ _) bV rfl rfl) rfl ?_;rw[HPO.o,HVg.o];exact hJ.err K ((hT6.trans0 HM.o.1).trans (ik _ _ _ _) (λb hb=>.inr (by simp at hb;omega)))
 as_aux_lemma =>
 have HVf:=lh (show fu vs cs (rer,rrows)=(rer,[],[]) by rw[HVe.o,ab hr0]);have hq:(rer==0)=false:=by rw[aw];exact hr0
 have hq':(rer != 0)=true:=by rw[bne,hq];rfl
 clear HVe;go_wp2_with fail;have hT6:=(HTw.o.trans0 HY.o.2.2.2).trans0 HZ.o.2.2;refine aG (eD rfl _ _ (w.heap.size+1) _ _ _ _ rfl (kR HBr6.o rfl _ _) bV rfl rfl) rfl ?_;rw[HPO.o,HVf.o];exact hJ.err rer (hT6.trans (ik _ _ _ _) (λb hb=>.inr (by simp at hb;omega)))
end
section
open Go.RowKit
def jo(w:World)(x:PC)(k:Nat):Prop:=∀w',Touch [] w w'->Calls Tryz.prog 19 #[x.val] w' λe w''=>e=.returned (.int .i64 k)/\Touch [] w' w''
theorem uG(l:List Nat)(j:Nat)(h:j<l.length):(l.take (j+1)).sum=(l.take j).sum+l[j]:=by rw[au h,List.sum_append];simp
theorem vL(l:List Nat)(j:Nat):(l.take j).sum<=l.sum:=by
 induction l generalizing j with
 |nil=>simp
 |cons a l ih=>cases j with
  |zero=>simp
  |succ j=>have:=ih j;rw[List.take_succ_cons,cT,cT];omega
theorem tJ(x:PC)(xs:List PC)(ks:List Nat)(w:World)(hxs:xs.length=x.args.n)(hks:ks.length=x.args.n)(hX:d9 ir w x.args.A xs)(hT:∀ i (h1:i<xs.length) (h2:i<ks.length),jo w xs[i] ks[i])(hsum:ks.sum<=1000000)(hnn:x.args.n<=1000000): Calls Tryz.prog 19 #[x.val] w λe w''=>e=.returned (.int .i64 (1+ks.sum:Nat))/\Touch [] w w'':=by
 obtain⟨k0,k1,⟨A2,n2,c2'⟩,⟨⟨ck,cn,⟨cvk,cvn,cvt⟩,cop⟩,CA,cnn,cc⟩,⟨NA,nn,nc⟩,⟨EA,en,ec⟩,⟨OA,ol,oc⟩,⟨GA,gn,gc⟩,⟨BA,bn,bc⟩,count⟩:=x;dsimp only at hxs hks hX hnn ⊢;simp only[PC.val];obtain⟨W,hW⟩:∃W,W=w.alloc (.cells #[.int .i64 k0,.string k1,.slice A2 n2 c2',.int .i64 ck,.string cn,.int .i64 cvk,.int .i64 cvn,.string cvt,.string cop,.slice CA cnn cc,.slice NA nn nc,.slice EA en ec,.slice OA ol oc,.slice GA gn gc,.slice BA bn bc,.int .i64 count] 49):=⟨_,rfl⟩;have t0:Touch [] w W:=hW ▸ (Touch.refl [] w).alloc _;have HW:=lh hW;have HT0:=lh t0;have HX:=lh (d9.touch0 hX t0);have HTy:=lh hT;have Hxs:=lh hxs;have Hks:=lh hks;have Hsum:=lh hsum;clear hW t0 hX hT hxs hks hsum;go_enter Tryz.func19,Tryz.ntmps19;go_wp2_with fail;rw[<- HW.o];go_loopw [3,9] (λo i wr=>∃(j q:Nat),j<=n2/\q<=1000001/\i=.int .i64 j/\o=.int .i64 q/\Ga (q=1+(ks.take j).sum)/\Ga (Touch [] W wr)) (λ_ i _=>n2-(intOf i).toNat)
 case atStart=>exact⟨0,1,by omega,by omega,rfl,rfl,lh (by simp),lh (Touch.refl _ _)⟩
 case round =>
 obtain⟨j,q,hj,hq,rfl,rfl,HQ,HT⟩:=hrel;by_cases hlt:j<n2
 ·have hjx:j<xs.length:=by rw[Hxs.o];exact hlt
  have hjv:j<ks.length:=by rw[Hks.o];exact hlt
  obtain⟨ad,b1,o1,rfl,hadd,hc⟩:=d9.cells (HX.o.touch0 HT.o) 16 lC (by omega) j hjx;have hty:=HTy.o j hjx hjv;have hst:=uG ks j hjv;have hsl:=vL ks (j+1);obtain⟨y,hy⟩:∃y,y=xs[j]:=⟨_,rfl⟩;obtain⟨u,hu⟩:∃u,u=ks[j]:=⟨_,rfl⟩;rw[<- hy] at hc hty;rw[<- hu] at hty hst;obtain⟨y0,y1,⟨yA2,yn2,yc2⟩,⟨⟨yck,ycn,⟨ycvk,ycvn,ycvt⟩,ycop⟩,yCA,ycnn,ycc⟩,⟨yNA,ynn,ync⟩,⟨yEA,yen,yec⟩,⟨yOA,yol,yoc⟩,⟨yGA,ygn,ygc⟩,⟨yBA,ybn,ybc⟩,ycount⟩:=y;have e0:=hc 0 _ rfl;have e1:=hc 1 _ rfl;have e2:=hc 2 _ rfl;have e3:=hc 3 _ rfl;have e4:=hc 4 _ rfl;have e5:=hc 5 _ rfl;have e6:=hc 6 _ rfl;have e7:=hc 7 _ rfl;have e8:=hc 8 _ rfl;have e9:=hc 9 _ rfl;have e10:=hc 10 _ rfl;have e11:=hc 11 _ rfl;have e12:=hc 12 _ rfl;have e13:=hc 13 _ rfl;have e14:=hc 14 _ rfl;have e15:=hc 15 _ rfl;rw[aM] at e0;dsimp only at e0 e1 e2 e3 e4 e5 e6 e7 e8 e9 e10 e11 e12 e13 e14 e15;have ta:=(Touch.refl [] wr).alloc (.cells #[.int .i64 y0,.string y1,.slice yA2 yn2 yc2,.int .i64 yck,.string ycn,.int .i64 ycvk,.int .i64 ycvn,.string ycvt,.string ycop,.slice yCA ycnn ycc,.slice yNA ynn ync,.slice yEA yen yec,.slice yOA yol yoc,.slice yGA ygn ygc,.slice yBA ybn ybc,.int .i64 ycount] 49);have hty2:=hty _ ((HT0.o.trans0 HT.o).trans0 ta);simp only[PC.val] at hty2;have Hty:=lh hty2;have Hst:=lh hst;have Hsl:=lh hsl;have HTa:=lh ta;have hjn:(j:Int)<(n2:Int):=by omega
  have hub:q+u<=1000001:=by have:=HQ.o;have:=Hsum.o;omega
  clear hc hty hty2 hy hu ta hst hsl;go_wp2_with fail;refine Hty.o.mono ?_;rintro e w1 ⟨rfl,t1⟩;have HT1:=lh ((HT.o.trans0 HTa.o).trans0 t1);clear t1;go_wp2_with fail;go_roundw
  case rel=>exact⟨j+1,q+u,by omega,hub,by go_num,by go_num,lh (by rw[Hst.o,HQ.o];omega),HT1⟩
  case measure=>simp[intOf];omega
 obtain rfl:j=n2:=by omega
 have Hq:=lh (show q=1+ks.sum by rw[HQ.o,<- Hks.o,aH]);clear HQ;go_wp2_with fail;go_ret;exact⟨by rw[<- Hq.o];rfl,HT0.o.trans0 HT.o⟩
theorem v_(x:PC)(k:Nat)(hk:k<=64)(I:Option Addr)(ic n:Nat)(v:Int × List CD)(w:World)(hs:jo w x k)(ht:gI w I ic n x 1 v): Calls Tryz.prog 16 #[x.val,.slice I n ic] w (fm w.heap.size v w):=by
 obtain⟨k0,k1,⟨A2,n2,c2'⟩,⟨⟨ck,cn,⟨cvk,cvn,cvt⟩,cop⟩,CA,cnn,cc⟩,⟨NA,nn,nc⟩,⟨EA,en,ec⟩,⟨OA,ol,oc⟩,⟨GA,gn,gc⟩,⟨BA,bn,bc⟩,count⟩:=x;simp only[PC.val];have ta:=(Touch.refl [] w).alloc (.cells #[.int .i64 k0,.string k1,.slice A2 n2 c2',.int .i64 ck,.string cn,.int .i64 cvk,.int .i64 cvn,.string cvt,.string cop,.slice CA cnn cc,.slice NA nn nc,.slice EA en ec,.slice OA ol oc,.slice GA gn gc,.slice BA bn bc,.int .i64 count] 49);have hb:=ah w (.cells #[.int .i64 k0,.string k1,.slice A2 n2 c2',.int .i64 ck,.string cn,.int .i64 cvk,.int .i64 cvn,.string cvt,.string cop,.slice CA cnn cc,.slice NA nn nc,.slice EA en ec,.slice OA ol oc,.slice GA gn gc,.slice BA bn bc,.int .i64 count] 49);have hs1:=hs _ ta;simp only[PC.val] at hs1;have Hs:=lh hs1;have Ht:=lh ht;have HA:=Gb ta hb;clear ta hb hs hs1 ht;have hk6:(64<(k:Int))=False:=by simp;omega
 go_enter Tryz.func16,Tryz.ntmps16;go_wp2_with fail;refine Hs.o.mono ?_;rintro e w1 ⟨rfl,t1⟩;obtain⟨p0,p1,p2,p3,p4,p5,p6,p7,p8,p9,p10,p11,p12,p13,p14,p15⟩:=fg (t1.blk HA.o.2 (by simp));have ht1:=Ht.o w1 (HA.o.1.trans0 t1);simp only[PC.val] at ht1;have Ht1:=lh ht1;have HT1:=lh (HA.o.1.trans0 t1);clear t1 ht1 Ht;go_wp2_with fail;refine Ht1.o.mono ?_;rintro e w2 ⟨⟨sA,sn,sc⟩,rfl,s1,s2,s3,s4,t2⟩;have HY:=Ge s1 s2 s3 s4 t2;clear s1 s2 s3 s4 t2;go_wp2_with fail;go_ret2;obtain⟨s1,s2,s3,s4,t2⟩:=HY.o;exact⟨⟨sA,sn,sc⟩,rfl,s1,s2,s3,λb hb=>⟨bm HT1.o.size (s4 b hb).1,(s4 b hb).2⟩,HT1.o.trans0 t2⟩
end
section
open Go.RowKit
def kf(v:Int × List CD)(ev:Int × List CD × List (List VD)):Int × List CD × List (List VD):=if v.1=0 then ev else (v.1,[],[])
theorem od(x:PC)(k:Nat)(hk:k<=64)(I:Option Addr)(ic n:Nat)(v:Int × List CD)(ev:Int × List CD × List (List VD))(w:World)(hs:jo w x k)(ht:gI w I ic n x 1 v)(he:v.1=0->gV w I ic n x ev): Calls Tryz.prog 12 #[x.val,.slice I n ic] w (hJ (kf v ev) w):=by
 obtain⟨PO,hPO⟩:∃PO,PO=hJ (kf v ev) w:=⟨_,rfl⟩;rw[<- hPO];have HPO:=lh hPO;obtain⟨k0,k1,⟨A2,n2,c2'⟩,⟨⟨ck,cn,⟨cvk,cvn,cvt⟩,cop⟩,CA,cnn,cc⟩,⟨NA,nn,nc⟩,⟨EA,en,ec⟩,⟨OA,ol,oc⟩,⟨GA,gn,gc⟩,⟨BA,bn,bc⟩,count⟩:=x;have Hty:=lh λw'(t:Touch [] w w')=>v_ _ k hk I ic n v w' (λw'' t2=>hs w'' (t.trans0 t2)) (λw'' t2=>ht w'' (t.trans0 t2));have Hev:=lh λ(h0:v.1=0)w'(t:Touch [] w w')=>he h0 w' t;simp only[PC.val] at *;obtain⟨W,hW⟩:∃W,W=(w.alloc (.cells #[.int .i64 k0,.string k1,.slice A2 n2 c2',.int .i64 ck,.string cn,.int .i64 cvk,.int .i64 cvn,.string cvt,.string cop,.slice CA cnn cc,.slice NA nn nc,.slice EA en ec,.slice OA ol oc,.slice GA gn gc,.slice BA bn bc,.int .i64 count] 49)).alloc (.cells #[.slice none 0 0,.slice none 0 0] 27):=⟨_,rfl⟩;have t0:Touch [] w W:=hW ▸ ((Touch.refl [] w).alloc _).alloc _;have hb0:=hW ▸ ((Touch.refl [] (w.alloc (.cells #[.int .i64 k0,.string k1,.slice A2 n2 c2',.int .i64 ck,.string cn,.int .i64 cvk,.int .i64 cvn,.string cvt,.string cop,.slice CA cnn cc,.slice NA nn nc,.slice EA en ec,.slice OA ol oc,.slice GA gn gc,.slice BA bn bc,.int .i64 count] 49))).alloc (.cells #[.slice none 0 0,.slice none 0 0] 27)).blk (ah w _) (by simp);have hbt:W.heap[w.heap.size+1]?=some (.cells #[.slice none 0 0,.slice none 0 0] 27 (0,0)):=by
  have:=ah (w.alloc (.cells #[.int .i64 k0,.string k1,.slice A2 n2 c2',.int .i64 ck,.string cn,.int .i64 cvk,.int .i64 cvn,.string cvt,.string cop,.slice CA cnn cc,.slice NA nn nc,.slice EA en ec,.slice OA ol oc,.slice GA gn gc,.slice BA bn bc,.int .i64 count] 49)) (.cells #[.slice none 0 0,.slice none 0 0] 27);rw[ao] at this;exact hW ▸ this
 have hWs:W.heap.size=w.heap.size+2:=by rw[hW];simp
 have HW:=lh hW;have HT0:=Gd t0 hb0 hbt hWs;clear hW t0 hb0 hbt hWs hPO hs ht he;go_enter Tryz.func12,Tryz.ntmps12;go_wp2_with fail;rw[<- HW.o];refine(Hty.o _ HT0.o.1).mono ?_;rintro e w1 ⟨⟨sA,sn,sc⟩,rfl,_,_,_,_,t1⟩;have HT1:=Gc t1 (t1.blk HT0.o.2.1 (by simp)) (t1.blk HT0.o.2.2.1 (by simp));clear t1;obtain⟨ver,vcs⟩:=v;by_cases hz:ver=0
 ·have HV:=lh (show kf (ver,vcs) ev=ev by unfold kf;rw[ae hz]);have Hev1:=lh (Hev.o hz w1 (HT0.o.1.trans0 HT1.o.1));subst hz;obtain⟨p0,p1,p2,p3,p4,p5,p6,p7,p8,p9,p10,p11,p12,p13,p14,p15⟩:=fg HT1.o.2.1;go_wp2_with fail;refine Hev1.o.mono ?_;rintro e w2 ⟨⟨mA,mn,mc⟩,⟨gA,gn',gc'⟩,rfl,hnt,t2⟩;have HM:=Gc hnt t2 (t2.blk HT1.o.2.2 (by simp));clear hnt t2 p0 p1 p2 p3 p4 p5 p6 p7 p8 p9 p10 p11 p12 p13 p14 p15;obtain⟨z0,z1,y0,y1⟩:=eL HM.o.2.2;go_wp2_with fail;obtain⟨hnt,t2,hr2⟩:=HM.o;have tq:=ik w2 (w.heap.size+1) (.slice mA mn mc) (.slice gA gn' gc');have hs7:=HT1.o.1.size;have hWs:=HT0.o.2.2.2;refine aG (eD rfl _ _ (w.heap.size+1) _ _ _ _ rfl (kR hr2 rfl _ _) bV rfl rfl) rfl ?_;rw[HPO.o,HV.o];refine⟨⟨mA,mn,mc⟩,⟨gA,gn',gc'⟩,rfl, ?_,((HT0.o.1.trans0 HT1.o.1).trans0 t2).trans tq (λb hb=>.inr (by simp at hb;omega))⟩;refine⟨hnt.n,hnt.le,d9.touch hnt.cols tq (λb hb hm=> ?_),λb hb=>⟨?_, ?_⟩,hnt.m, ?_,λb hb=> ?_,hnt.apart⟩
  ·have:=(hnt.cf b hb).1;simp at hm;omega
  ·have:=(hnt.cf b hb).1;omega
  ·have:=(hnt.cf b hb).2;have:=tq.size;omega
  ·exact(hnt.rws.touch tq (λb hb=>by simp at hb;omega) (λb hb=>hnt.rf b hb)).base (by omega)
  have:=hnt.rf b hb;omega
 have HV:=lh (show kf (ver,vcs) ev=(ver,[],[]) by unfold kf;rw[ab hz]);have hq:(ver==0)=false:=by rw[aw];exact hz
 have hq':(ver != 0)=true:=by rw[bne,hq];rfl
 obtain⟨z0,z1,y0,y1⟩:=eL HT1.o.2.2;go_wp2_with fail;refine aG (eD rfl _ _ (w.heap.size+1) _ _ _ _ rfl (kR HT1.o.2.2 rfl _ _) bV rfl rfl) rfl ?_;rw[HPO.o,HV.o];exact hJ.err ver ((HT0.o.1.trans0 HT1.o.1).trans (ik _ _ _ _) (λb hb=>.inr (by simp at hb;omega)))
end
end Go.Proofs.YtafoklilkdnepaaGreatDoor
