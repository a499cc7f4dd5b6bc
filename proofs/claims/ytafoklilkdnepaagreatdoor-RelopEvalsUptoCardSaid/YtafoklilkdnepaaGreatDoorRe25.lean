/- Part 25 of the texts of this proof, one behind the other. No condition beyond those that its theorems state. -/
import Derived.Test.YtafoklilkdnepaaGreatDoorRe24
set_option linter.all false
set_option maxRecDepth 40000
set_option maxHeartbeats 25600000
namespace Go.Proofs.YtafoklilkdnepaaGreatDoor
section
open Go.RowKit
def gJ(rows:List (List VD)):List (List VD):=(gQ rows rows.length).map λi=>rows.getD i []
theorem ti(rows:List (List VD)):(gJ rows).length<=rows.length:=by unfold gJ;rw[ay];exact EF rows _
theorem mN{rows:List (List VD)}{r:List VD}(h:r∈gJ rows):r∈rows:=by
 unfold gJ at h;obtain⟨i,hi,rfl⟩:=aJ.1 h;have hl:=sM i hi;have:rows.getD i []=rows[i]:=by simp[List.getD,hl]
 rw[this];exact am hl
theorem yx(rows:List (List VD))(h:rows.length<2):gJ rows=rows:=by
 match rows,h with
 | [],_=>rfl
 | [r],_=>rfl
theorem uU(B:Option Addr)(c:Nat)(sl:List SL)(rows:List (List VD))(hl:rows.length<=100000)(hrk:fe rows)(w:World)(hS:fX w sl rows)(hO:ep 33 1 eT w B c sl)(ha:∀ s∈sl,∀ b∈ed s.A,b∉ed B): Calls Tryz.prog 99 #[.slice B rows.length c,.func (.func 100) #[] #[]] w λe w'=> e=.returned (.slice B (gJ rows).length c)/\eW w' B (gJ rows)/\Touch (ed B) w w':=by
 by_cases h2:rows.length<2
 ·refine(uF B rows.length c h2 _ w).mono ?_;rintro e w' ⟨rfl,rfl⟩;rw[yx rows h2];exact⟨rfl,⟨sl,hS,hO.rd⟩,Touch.refl _ _⟩
 rcases hO.head with ⟨-,h0, -⟩ | ⟨G,rfl⟩
 ·rw[<- hS.1,h0] at h2;simp at h2
 have hG:∀s∈sl,∀b∈ed s.A,b≠G:=λs hs b hb q=>ha s hs b hb (by simp[ed,q]);have hn:sl.length=rows.length:=hS.1;have hat:∀i(h:i<sl.length),ig sl i=sl[i]:=λi h=>by simp[ig,List.getD,h]
 have hid:(List.range rows.length).map (λk=>ig sl k)=sl:=by
  apply List.ext_getElem
  ·simp[hn]
  intro i h1 h3;rw[aW,List.getElem_range];exact hat i h3
 have hR:fc (ig sl) w G c rows.length (λk=>k):=by unfold fc;rw[hid];exact hO
 have hv:∀i(h:i<rows.length)wr,Touch [G] w wr->(ig sl i).n=rows[i].length/\eu wr (ig sl i).A rows[i]:=λi h wr t=>by
  have hi:i<sl.length:=by omega
  rw[hat i hi];have:=hS.2 i hi h;exact⟨this.1,d9.touch this.2 t (λb hb hm=>hG _ (am hi) b hb (by simpa using hm))⟩
 have hgd:∀i(h:i<rows.length),rows.getD i []=rows[i]:=λi h=>by simp[List.getD,h]
 have hE:D_ (ig sl) rows G rows.length w:=λwr t x y hx hy=>by have h1:=hv x hx wr t;have h3:=hv y hy wr t;rw[hgd x hx,hgd y hy,h1.1,h3.1];exact zw _ _ _ _ _ _ rows[x] rows[y] rfl rfl wr h1.2 h3.2 (hrk _ (am hx)).1 (hrk _ (am hy)).1
 have hcl:rows.length<=c:=by rw[<- hn];exact hO.le
 refine(wX G c rows.length (by omega) hl hcl (ig sl) rows w hR hE).mono ?_;rintro e w' ⟨rfl,hc,ht⟩;have hlen:(gJ rows).length=(gQ rows rows.length).length:=by unfold gJ;rw[ay]
 refine⟨by rw[hlen],⟨(gQ rows rows.length).map (ig sl),⟨by rw[hlen,ay],λi a b=> ?_⟩,λh0=>⟨_,rfl,λj u hu=> ?_⟩⟩,by simpa [ed] using ht⟩
 ·have hi:i<(gQ rows rows.length).length:=by simpa using a
  have hlt:=sM _ (am hi);have e1:(gJ rows)[i]=rows[(gQ rows rows.length)[i]]:=by rw[<- hgd _ hlt];simp[gJ]
  rw[e1,aW];exact hv _ hlt w' ht
 have hfl:((gQ rows rows.length).map (ig sl)).flatMap eT=((gQ rows rows.length).map (ig sl)).map fun s:SL=>Value.slice s.A s.n s.c:=oD (val:=fun s:SL=>Value.slice s.A s.n s.c) _;rw[hfl] at hu;have hj:j<(gQ rows rows.length).length:=by have:=(bS.1 hu).1;simpa using this
 have hadd:(⟨G,0,none⟩:Addr).add j=⟨G,j,none⟩:=k7 _ _;rw[hadd,hc j hj,<- hu];simp[hj]
theorem uD(x:PC)(hk0:x.kind=8)(L:Option Addr)(lc:Nat)(s r:SL)(rows:List (List VD))(w:World)(hL:d9 kZ w L [(s,r)])(hm:r.n=rows.length)(hl:rows.length<=100000)(hrk:fe rows)(sl:List SL)(hS:fX w sl rows)(hO:ep 33 1 eT w r.A r.c sl)(ha:∀ s∈sl,∀ b∈ed s.A,b∉ed r.A): Calls Tryz.prog 65 #[x.val,.slice L 1 lc] w λe w'=>∃q:SL,e=.returned (.tuple #[.slice q.A q.n q.c,.int .i64 0])/\q.n=(gJ rows).length/\eW w' q.A (gJ rows)/\Touch (ed r.A) w w':=by
 obtain⟨SA,sn,sc⟩:=s;obtain⟨RA,rn,rc⟩:=r;obtain⟨k0,k1,⟨A2,n2,c2'⟩,⟨⟨ck,cn,⟨cvk,cvn,cvt⟩,cop⟩,CA,cnn,cc⟩,⟨NA,nn,nc⟩,⟨EA,en,ec⟩,⟨OA,ol,oc⟩,⟨GA,gn,gc⟩,⟨BA,bn,bc⟩,count⟩:=x;dsimp only at hk0 hm hO ha;subst hk0 hm;obtain⟨ad,bl,bo,rfl,hadd0,hc0⟩:=d9.cells hL 2 gi (by omega) 0 (by simp);have l1:w.cell? ⟨bl,bo+1,none⟩=some (.slice RA rows.length rc):=hc0 1 _ rfl;simp only[Nat.zero_mul] at hadd0;have had:ad=⟨bl,bo,none⟩:=by rw[<- hadd0];unfold Addr.add;simp
 subst had;have hadd1:(⟨bl,bo,none⟩:Addr).add 1=⟨bl,bo+1,none⟩:=by unfold Addr.add;simp
 have Hj:=lh λw'(t:Touch [] w w')=>uU RA rc sl rows hl hrk w' ⟨hS.1,λi a b=>⟨(hS.2 i a b).1,eu.touch0 (hS.2 i a b).2 t⟩⟩ (hO.touch0 t) ha;simp only[PC.val] at *;obtain⟨W,hW⟩:∃W,W=w.alloc (.cells #[.int .i64 8,.string k1,.slice A2 n2 c2',.int .i64 ck,.string cn,.int .i64 cvk,.int .i64 cvn,.string cvt,.string cop,.slice CA cnn cc,.slice NA nn nc,.slice EA en ec,.slice OA ol oc,.slice GA gn gc,.slice BA bn bc,.int .i64 count] 49):=⟨_,rfl⟩;have t0:Touch [] w W:=hW ▸ (Touch.refl [] w).alloc _;have hb0:=hW ▸ ah w (.cells #[.int .i64 8,.string k1,.slice A2 n2 c2',.int .i64 ck,.string cn,.int .i64 cvk,.int .i64 cvn,.string cvt,.string cop,.slice CA cnn cc,.slice NA nn nc,.slice EA en ec,.slice OA ol oc,.slice GA gn gc,.slice BA bn bc,.int .i64 count] 49);have l1d:=t0.cell l1 (by simp);have p0:W.cell? ⟨w.heap.size,0,none⟩=some (.int .i64 8):=d_ hb0 rfl;rw[hW] at l1d p0;have HW:=lh hW;have HT0:=lh t0;clear hL hc0 hW t0 l1 hb0 hS hO ha hrk;go_enter Tryz.func65,Tryz.ntmps65;go_wp2_with fail;rw[<- HW.o];refine(Hj.o _ HT0.o).mono ?_;rintro e w1 ⟨rfl,m1,m2⟩;have M1:=Gb m1 m2;clear m1 m2 p0 l1d;go_wp2_with fail;go_ret2;exact⟨⟨RA,_,rc⟩,rfl,rfl,M1.o.1,(HT0.o.mono (by simp)).trans M1.o.2 (λb hb=>.inl hb)⟩
end
section
open Go.RowKit
theorem wy(cs:List CD)(rows:List (List VD))(x:Nat):mq cs [] rows x=0:=by unfold mq oX;rw[dR.2 (λa _=>by simp[pk,fO])];rfl
theorem Cw(cs:List CD)(rows:List (List VD))(x y:Nat):mq cs [] rows x=mq cs [] rows y:=by rw[wy,wy]
theorem Ak(cs:List CD)(rows:List (List VD)):fJ (mq cs [] rows) (λk=>k) 0 rows.length:=by
 refine⟨λi j h1 h2 h3=> ?_,λx=>⟨λ⟨i,h1,h2,h3⟩=> ?_,λh=>⟨x,h.1,h.2,rfl⟩⟩⟩
 ·have:=Cw cs rows i j;unfold fW;dsimp only;omega
 dsimp only at h3;omega
theorem xb(cs:List CD)(rows:List (List VD))(count:Nat):j2 cs [] rows count=rows.take count:=by rw[qd count (Ak cs rows)];unfold jl;rw[mx rows [] _ rfl]
theorem my(a:List VD):ej a a=0:=by have:=fL a a;omega
theorem xf(rows:List (List VD))(h:rows.Pairwise fun a b=>ej a b<=0):(gJ rows).Pairwise λa b=>ej a b<0:=by
 unfold gJ;rw[dJ];have h0:(gQ rows rows.length).Pairwise (· < ·):=List.pairwise_lt_range.filter _;refine h0.imp_of_mem λ{a b}ha hb hab=> ?_;have hb1:=sM b hb;have hbn:kU rows b=true:=(bE.1 hb).2;unfold kU at hbn;rw[show decide (b=0)=false from aC (by omega),Bool.false_or,Bool.not_eq_true',d7,ne_eq,rz] at hbn;have hl:∀i j,i<j->j<rows.length->ej (rows.getD i []) (rows.getD j [])<=0:=λi j hij hj=>by have:=cI.1 h i j (by omega) hj hij;simpa [List.getD,hj,show i<rows.length by omega] using this
 have e1:=hl (b-1) b (by omega) hb1;have n1:ej (rows.getD (b-1) []) (rows.getD b [])≠0:=λe=>hbn (mB _ _ e).symm;have e2:ej (rows.getD a []) (rows.getD (b-1) [])<=0:=by
  by_cases hc:a=b-1
  ·rw[hc,my];omega
  exact hl a (b-1) (by omega) (by omega)
 have:=ln _ _ _ e2 e1;omega
theorem iy.one{a b x y:List (List VD)}(ha:iy a x)(hb:iy b y)(hp:a.Perm b):x=y:=by refine List.Perm.eq_of_pairwise (le:=λa b=>ej a b<=0) (λu v _ _ h1 h2=> ?_) ha.2 hb.2 (ha.1.trans (hp.trans hb.1.symm));have:=fL u v;exact mB _ _ (by omega)
theorem yU(p q:List VD->Bool)(rows:List (List VD))(h:∀ r∈rows,q r = !p r):(rows.filter p++rows.filter q).Perm rows:=by have e:rows.filter q=rows.filter λr=> !p r:=List.filter_congr h;rw[e];exact List.filter_append_perm p rows
theorem uR(p q:List VD->Bool){rows a b c:List (List VD)}(hr:rows.Pairwise fun a b=>ej a b<=0)(h:∀ r∈rows,q r = !p r)(ha:iy (rows.filter p) a)(hb:iy (rows.filter q) b)(hc:iy (a++b) c):c=rows:=
 iy.one hc ⟨.refl _,hr⟩ ((ha.1.append hb.1).trans (yU p q rows h))
theorem kV{α:Type}{g:α->Int}:∀{l:List α},fH g l=0->∀v∈l,g v=0
 | [],_=>λv hv=>absurd hv (by simp)
 |a:: r,h=>λv hv=>by
  rw[fH] at h;by_cases h0:g a=0
  ·rw[ae h0] at h;rcases aR.1 hv with rfl|hm
   ·exact h0
   exact kV h v hm
  rw[ab h0] at h;exact absurd h h0
end
section
open Go.RowKit
theorem p_{cs:List CD}{row:List VD}{n:Nat}{e:TX n}(h:(eP cs row n e).2=0):eP cs row n e=eG cs row n e:=by
 unfold eP at h ⊢;by_cases h1:(gu cs n e).2≠0
 ·rw[ae h1] at h;exact absurd h h1
 rw[ab h1] at h ⊢;by_cases h2:fw cs row=true
 ·rw[ae h2]
 rw[ab h2] at h;cases h
theorem EU(b:Bool):(iL b).tru=b:=by cases b<;>rfl
def j_(n:Nat)(e:TX n):TX (n+1):=(⟨3,⟨#[]⟩,⟨0,0,⟨#[]⟩⟩,rB⟩,[e])
theorem BU{cs:List CD}{row:List VD}{n:Nat}{e:TX n}(h1:(eG cs row n e).2=0):eG cs row (n+1) (j_ n e)=(iL (!(eG cs row n e).1.tru),0):=by
 rw[kw cs row n (j_ n e)];have k1:¬((j_ n e).1.kind=1):=show ¬((3:Int)=1) by decide
 have k2:¬((j_ n e).1.kind=2):=show ¬((3:Int)=2) by decide
 rw[ab k1,ab k2];show (if (eG cs row n e).2≠0 then (eQ,(eG cs row n e).2) else _)=_;rw[ab (by rw[h1];decide)];rfl
theorem Dl{cs:List CD}{row:List VD}{n:Nat}{e:TX n}(h1:(eP cs row n e).2=0)(h2:(eP cs row (n+1) (j_ n e)).2=0):(eP cs row (n+1) (j_ n e)).1.tru = !(eP cs row n e).1.tru:=by have e1:=p_ h1;rw[p_ h2,e1];rw[e1] at h1;rw[BU h1];exact EU _
end
section
open Go.RowKit
theorem TabU.touch0'{lo hi:Nat}{w w':World}{s r:SL}{cs:List CD}{rows:List (List VD)}(h:TabU lo hi w s r cs rows)(ht:Touch [] w w'):TabU lo hi w' s r cs rows:=h.touch ht (by simp)
theorem pi(x:PC)(hk0:x.kind=8)(hm:x.args.n=1)(I:Option Addr)(ic n:Nat)(w:World)(y:PC)(hX:d9 ir w x.args.A [y])(v:Int × List CD × List (List VD))(hE:gV w I ic n y v) (hok:∀c∈v.2.1,c.Ok) (hvl:v.2.1.length<=1000000) (hrk:fe v.2.2) (hrl:gR v.2.2) (hrn:v.2.2.length<=100000) : Calls Tryz.prog 30 #[x.val,.slice I n ic] w (hJ (fu [v] v.2.1 (0,gJ v.2.2)) w):=by
 obtain⟨PO,hPO⟩:∃PO,PO=hJ (fu [v] v.2.1 (0,gJ v.2.2)) w:=⟨_,rfl⟩;rw[<- hPO];have HPO:=lh hPO;have Hrd:=lh λ(L:Option Addr)(lc:Nat)(s r:SL)w'=>uD x hk0 L lc s r v.2.2 w';have Hsd:=lh λ(L:Option Addr)(lc:Nat)(s:SL)w'(h:d9 eT w' L [s])=>nr x hk0 L lc s w' h;obtain⟨k0,k1,⟨A2,n2,c2'⟩,⟨⟨ck,cn,⟨cvk,cvn,cvt⟩,cop⟩,CA,cnn,cc⟩,⟨NA,nn,nc⟩,⟨EA,en,ec⟩,⟨OA,ol,oc⟩,⟨GA,gn,gc⟩,⟨BA,bn,bc⟩,count⟩:=x;dsimp only at hk0 hm hX;subst hk0 hm;simp only[PC.val] at *;obtain⟨W,hW⟩:∃W,W=(w.alloc (.cells #[.int .i64 8,.string k1,.slice A2 1 c2',.int .i64 ck,.string cn,.int .i64 cvk,.int .i64 cvn,.string cvt,.string cop,.slice CA cnn cc,.slice NA nn nc,.slice EA en ec,.slice OA ol oc,.slice GA gn gc,.slice BA bn bc,.int .i64 count] 49)).alloc (.cells #[.slice none 0 0,.slice none 0 0] 27):=⟨_,rfl⟩;have t0:Touch [] w W:=hW ▸ ((Touch.refl [] w).alloc _).alloc _
 have hb0:W.heap[w.heap.size]?=some (.cells #[.int .i64 8,.string k1,.slice A2 1 c2',.int .i64 ck,.string cn,.int .i64 cvk,.int .i64 cvn,.string cvt,.string cop,.slice CA cnn cc,.slice NA nn nc,.slice EA en ec,.slice OA ol oc,.slice GA gn gc,.slice BA bn bc,.int .i64 count] 49 (0,0)):=hW ▸ ((Touch.refl [] (w.alloc (.cells #[.int .i64 8,.string k1,.slice A2 1 c2',.int .i64 ck,.string cn,.int .i64 cvk,.int .i64 cvn,.string cvt,.string cop,.slice CA cnn cc,.slice NA nn nc,.slice EA en ec,.slice OA ol oc,.slice GA gn gc,.slice BA bn bc,.int .i64 count] 49))).alloc (.cells #[.slice none 0 0,.slice none 0 0] 27)).blk (ah w _) (by simp);have hbt:W.heap[w.heap.size+1]?=some (.cells #[.slice none 0 0,.slice none 0 0] 27 (0,0)):=by have:=ah (w.alloc (.cells #[.int .i64 8,.string k1,.slice A2 1 c2',.int .i64 ck,.string cn,.int .i64 cvk,.int .i64 cvn,.string cvt,.string cop,.slice CA cnn cc,.slice NA nn nc,.slice EA en ec,.slice OA ol oc,.slice GA gn gc,.slice BA bn bc,.int .i64 count] 49)) (.cells #[.slice none 0 0,.slice none 0 0] 27);rw[ao] at this;exact hW ▸ this
 have hWs:W.heap.size=w.heap.size+2:=by rw[hW];simp
 have HW:=lh hW;have HT0:=Gd t0 hb0 hbt hWs;have hX2:=d9.touch0 hX t0;have q2:W.cell? ⟨w.heap.size,2,none⟩=some (.slice A2 1 c2'):=d_ hb0 rfl;obtain⟨ad,b1,o1,rfl,hadd,hc⟩:=d9.cells hX2 16 lC (by omega) 0 (by simp);have hty:=hE;clear hX hX2 hW;obtain⟨y0,y1,⟨yA2,yn2,yc2⟩,⟨⟨yck,ycn,⟨ycvk,ycvn,ycvt⟩,ycop⟩,yCA,ycnn,ycc⟩,⟨yNA,ynn,ync⟩,⟨yEA,yen,yec⟩,⟨yOA,yol,yoc⟩,⟨yGA,ygn,ygc⟩,⟨yBA,ybn,ybc⟩,ycount⟩:=y;have e0:=hc 0 _ rfl;have e1:=hc 1 _ rfl;have e2:=hc 2 _ rfl;have e3:=hc 3 _ rfl;have e4:=hc 4 _ rfl;have e5:=hc 5 _ rfl;have e6:=hc 6 _ rfl;have e7:=hc 7 _ rfl;have e8:=hc 8 _ rfl;have e9:=hc 9 _ rfl;have e10:=hc 10 _ rfl;have e11:=hc 11 _ rfl;have e12:=hc 12 _ rfl;have e13:=hc 13 _ rfl;have e14:=hc 14 _ rfl;have e15:=hc 15 _ rfl;rw[aM] at e0;rw[bQ] at hadd;simp only[List.getElem_cons_zero] at e0 e1 e2 e3 e4 e5 e6 e7 e8 e9 e10 e11 e12 e13 e14 e15;have ta:=(Touch.refl [] W).alloc (.cells #[.int .i64 y0,.string y1,.slice yA2 yn2 yc2,.int .i64 yck,.string ycn,.int .i64 ycvk,.int .i64 ycvn,.string ycvt,.string ycop,.slice yCA ycnn ycc,.slice yNA ynn ync,.slice yEA yen yec,.slice yOA yol yoc,.slice yGA ygn ygc,.slice yBA ybn ybc,.int .i64 ycount] 49);have hty2:=hty _ (t0.trans0 ta);simp only[PC.val] at hty2;have Hty:=lh hty2;have HTa:=lh ta;have Hok:=Gc hok hrk hrl;clear hc hty hty2 ta t0 hb0 hbt hWs hPO hE hok hrk hrl;go_enter Tryz.func30,Tryz.ntmps30;go_wp2_with fail;rw[<- HW.o];refine b8 2 ?_;rw[bx];go_wp2_with fail
 refine Hty.o.mono ?_;rintro e w1 ⟨⟨sA,sn,sc⟩,⟨rA,rn,rc⟩,rfl,hnt,t1⟩;obtain⟨uer,ucs,urows⟩:=v;dsimp only at hnt hvl hrn Hrd;clear e0 e1 e2 e3 e4 e5 e6 e7 e8 e9 e10 e11 e12 e13 e14 e15 q2 Hty;by_cases hz:uer=0;rotate_left
 ·as_aux_lemma =>
  have HVe:=lh (show fu [(uer,ucs,urows)] ucs (0,gJ urows)=(uer,[],[]) by
   have:fI ([(uer,ucs,urows)].map fun v:Int × List CD × List (List VD)=>(v.1,v.2.1))=uer:=by simp[fI,hz]
   unfold fu;rw[this,ab hz])
  have hq:(uer==0)=false:=by rw[aw];exact hz
  have hq':(uer != 0)=true:=by rw[bne,hq];rfl
  have ta2:=(Touch.refl [] w1).alloc (.cells #[.slice sA sn sc,.slice rA rn rc] 27);have hr2:=ta2.blk (t1.blk (HTa.o.blk HT0.o.2.2.1 (by simp)) (by simp)) (by simp);obtain⟨z0,z1,y0',y1'⟩:=eL hr2;have HT1:=Gb (((HT0.o.1.trans0 HTa.o).trans0 t1).trans0 ta2) hr2;clear hnt t1 hr2 ta2;go_wp2_with fail;refine aG (eD rfl _ _ (w.heap.size+1) _ _ _ _ rfl (kR HT1.o.2 rfl _ _) bV rfl rfl) rfl ?_;rw[HPO.o];dsimp only;rw[HVe.o];exact hJ.err uer (HT1.o.1.trans (ik _ _ _ _) (λb hb=>.inr (by simp at hb;omega)))
 subst hz;as_aux_lemma =>
 have HVe:=lh (show fu [(0,ucs,urows)] ucs (0,gJ urows)=if e_ ucs (gJ urows)=0 then (0,ucs,fF (gJ urows)) else (e_ ucs (gJ urows),[],[]) by
  have:fI ([((0:Int),ucs,urows)].map fun v:Int × List CD × List (List VD)=>(v.1,v.2.1))=0:=by simp[fI]
  unfold fu;rw[this,ae rfl,ae rfl])
 have HUT:=lh (TabU.of hnt);have tb:=(Touch.refl [] w1).alloc (.cells #[.slice sA sn sc,.slice rA rn rc] 27);have tc:=tb.alloc (.cells #[.slice sA sn sc,.slice rA rn rc] 27);have HT1:=Gc (HTa.o.trans0 t1) tc t1.size;have hrd1:=d9.one (enc:=kZ) (w1.alloc (.cells #[.slice sA sn sc,.slice rA rn rc] 27)) 27 (⟨sA,sn,sc⟩,⟨rA,rn,rc⟩) #[.slice sA sn sc,.slice rA rn rc] rfl;rw[ao] at hrd1;have HR1:=lh hrd1;clear hnt t1 tb tc hrd1;go_wp2_with (at_builtin;refine ez ?_);refine go ?_;refine eb (enc:=kZ) rfl (.tmp 37) (.tmp 39) 115 rfl 27 _ 2 48 xM Tryz.underlying115 rfl (by omega) gi xX none 0 0 [] rfl rfl (ep.nil _ _ _ _)
  (some ⟨w1.heap.size+1,0,none⟩) 1 1 [(⟨sA,sn,sc⟩,⟨rA,rn,rc⟩)] rfl rfl HR1.o (by omega) (by omega) ?_
 intro L lc w2 hown ht hf;rw[cw] at hown;have hT2:Touch [] W w2:=(HT1.o.1.trans0 HT1.o.2.1).trans0 (ht.mono (by simp[ed]));have hq0:=hT2.blk HT0.o.2.1 (by simp);have hk8:w2.cell? ⟨w.heap.size,0,none⟩=some (.int .i64 8):=d_ hq0 rfl;have hU2:TabU (W.heap.size+1) w1.heap.size w2 ⟨sA,sn,sc⟩ ⟨rA,rn,rc⟩ ucs urows:=by have:=HUT.o.touch (HT1.o.2.1.trans0 (ht.mono (by simp[ed]))) (by simp);rwa[ao] at this
 have hLf:∀b∈ed L,w1.heap.size+2<=b:=λb hb=>by
  rcases hf b hb with q|q
  ·simp[ed] at q
  rw[q];simp
 have H2:=Ge hT2 hown hU2 hLf (show w1.heap.size<=w2.heap.size from bm (by rw[ao,ao];omega) (Touch.size (ht.mono (by simp[ed]):Touch [] _ w2)));obtain⟨adL,bL,oL,rfl,haddL,hcL⟩:=d9.cells hown.rd 2 gi (by omega) 0 (by simp);have m0:=hcL 0 _ rfl;have m1:=hcL 1 _ rfl;rw[aM] at m0;rw[bQ] at haddL;simp only[List.getElem_cons_zero] at m0 m1;clear HT1 HR1 HUT hown ht hf hT2 hq0 hU2 hLf hcL;go_wp2_with fail;rw[bx];go_wp2_with fail;refine b8 2 ?_;rw[bx];go_wp2_with (at_builtin;refine ez ?_);refine go ?_;have td:=((Touch.refl [] w2).alloc (.cells #[.slice sA sn sc,.slice rA rn rc] 27)).alloc (.cells #[.slice sA sn sc] 24);have hrd2:=d9.one (enc:=eT) (w2.alloc (.cells #[.slice sA sn sc,.slice rA rn rc] 27)) 24 ⟨sA,sn,sc⟩ #[.slice sA sn sc] rfl;rw[ao] at hrd2;refine eb (enc:=eT) rfl (.tmp 60) (.tmp 63) 119 rfl 24 _ 1 24 sX Tryz.underlying119 rfl (by omega) eC ia none 0 0 [] rfl rfl (ep.nil _ _ _ _)
  (some ⟨w2.heap.size+1,0,none⟩) 1 1 [⟨sA,sn,sc⟩] rfl rfl hrd2 (by omega) (by omega) ?_
 intro L2 lc2 w4 hown2 ht2 hf2;rw[cw] at hown2;have hT4:Touch [] w2 w4:=td.trans0 (ht2.mono (by simp[ed]));have H4:=Gb hT4 hown2.rd;obtain⟨p0,p1,p2,p3,p4,p5,p6,p7,p8,p9,p10,p11,p12,p13,p14,p15⟩:=fg ((H2.o.1.trans0 hT4).blk HT0.o.2.1 (by simp));clear m0 m1 hk8 hown2 ht2 hf2 hT4 td hrd2;go_wp2_with fail;rw[bx];go_wp2_with fail;refine(Hsd.o L2 lc2 ⟨sA,sn,sc⟩ w4 H4.o.2).mono ?_;rintro e w5 ⟨rfl,t5⟩;have T5:=lh (H4.o.1.trans0 t5);clear p0 p1 p2 p3 p4 p5 p6 p7 p8 p9 p10 p11 p12 p13 p14 p15 t5;obtain⟨p0,p1,p2,p3,p4,p5,p6,p7,p8,p9,p10,p11,p12,p13,p14,p15⟩:=fg ((H2.o.1.trans0 T5.o).blk HT0.o.2.1 (by simp));have hU5:=H2.o.2.2.1.touch0' T5.o;obtain⟨sl,hs,ho,ha⟩:=hU5.rws;have Hrw:=lh (Hrd.o (some adL) lc ⟨sA,sn,sc⟩ ⟨rA,rn,rc⟩ w5 (d9.touch0 H2.o.2.1.rd T5.o) hU5.m hrn Hok.o.2.1 sl hs ho (λs hs b hb=>(ha s hs b hb).1));have HU5:=lh hU5;clear hs ho ha hU5 Hsd Hrd;go_wp2_with fail;refine Hrw.o.mono ?_;rintro e w6 ⟨⟨qA,qn,qc⟩,rfl,r1,r2,t6⟩;have hbr:w6.heap[w.heap.size+1]?=some (.cells #[.slice none 0 0,.slice none 0 0] 27 (0,0)):=t6.blk ((H2.o.1.trans0 T5.o).blk HT0.o.2.2.1 (by simp)) (λhm=>by have:=HU5.o.rf _ hm;have:=HT0.o.2.2.2;omega);have hcol:em w6 sA ucs:=d9.touch HU5.o.cols t6 (λb hb hm=>HU5.o.apart b hb hm);have hT6:Touch [] w w6:=(HT0.o.1.trans0 (H2.o.1.trans0 T5.o)).trans t6 (λb hb=>.inr (by have:=HU5.o.rf b hb;have:=HT0.o.2.2.2;omega))
 have HZ:=Gf r1 r2 hcol hT6 hbr (show w.heap.size+2<=w6.heap.size from by have h1:=t6.size;have h2:=(H2.o.1.trans0 T5.o).size;have:=HT0.o.2.2.2;omega);have hvk:fe (gJ urows):=λr hr=>Hok.o.2.1 r (mN hr);have hvl2:gR (gJ urows):=λr hr=>Hok.o.2.2 r (mN hr);have hcl:=ti urows;obtain⟨rrows,hrr⟩:∃r,r=gJ urows:=⟨_,rfl⟩;rw[<- hrr] at HVe HZ hvk hvl2 hcl HPO;have HV:=Gc hvk hvl2 hcl;obtain⟨z0,z1,y0',y1'⟩:=eL hbr;have HN:=Gb HU5.o.n HU5.o.le;clear p0 p1 p2 p3 p4 p5 p6 p7 p8 p9 p10 p11 p12 p13 p14 p15 r1 r2 t6 hcol hT6 hbr hvk hvl2 hcl hrr Hrw haddL;by_cases hf0:e_ ucs rrows=0
 ·as_aux_lemma =>
  have HVg:=lh (show fu [(0,ucs,urows)] ucs (0,rrows)=(0,ucs,fF rrows) by rw[HVe.o,ae hf0]);have Hmk:=lh (vO sA sc sn ucs HN.o.1.symm HN.o.2 Hok.o.1 qA qc qn rrows HZ.o.1.symm HV.o.1 HV.o.2.1 w6 HZ.o.2.2.1 HZ.o.2.1 (by have h:=HN.o.1;(try dsimp only at h);omega) (by have h:=HZ.o.1;have h2:=HV.o.2.2;(try dsimp only at h h2);omega) hf0);clear HVe hf0;go_wp2_with fail;refine Hmk.o.mono ?_;rintro e w7 ⟨⟨mA,mn,mc⟩,⟨gA,gn',gc'⟩,out,rfl,hnt,hso,t7⟩;have HM:=Gd hnt hso t7 (t7.blk HZ.o.2.2.2.2.1 (by simp));clear hnt hso t7 Hmk z0 z1 y0' y1';obtain⟨z0,z1,y0',y1'⟩:=eL HM.o.2.2.2;go_wp2_with fail;obtain⟨hnt,hso,t7,hr7⟩:=HM.o;have tq:=ik w7 (w.heap.size+1) (.slice mA mn mc) (.slice gA gn' gc');have hs7:=HZ.o.2.2.2.2.2;refine aG (eD rfl _ _ (w.heap.size+1) _ _ _ _ rfl (kR hr7 rfl _ _) bV rfl rfl) rfl ?_;rw[HPO.o];dsimp only;rw[HVg.o,<- m_ hso];refine⟨⟨mA,mn,mc⟩,⟨gA,gn',gc'⟩,rfl, ?_,(HZ.o.2.2.2.1.trans0 t7).trans tq (λb hb=>.inr (by simp at hb;omega))⟩;refine⟨hnt.n,hnt.le,d9.touch hnt.cols tq (λb hb hm=> ?_),λb hb=>⟨?_, ?_⟩,hnt.m, ?_,λb hb=> ?_,hnt.apart⟩
  ·have:=(hnt.cf b hb).1;simp at hm;omega
  ·have:=(hnt.cf b hb).1;omega
  ·have:=(hnt.cf b hb).2;have:=tq.size;omega
  ·exact(hnt.rws.touch tq (λb hb=>by simp at hb;omega) (λb hb=>hnt.rf b hb)).base (by omega)
  have:=hnt.rf b hb;omega
 as_aux_lemma =>
 have hmk:=yj sA sc sn ucs HN.o.1.symm Hok.o.1 qA qc qn rrows HZ.o.1.symm HV.o.1 w6 HZ.o.2.2.1 HZ.o.2.1 (by have h:=HN.o.1;(try dsimp only at h);omega) (by have h:=HZ.o.1;have h2:=HV.o.2.2;(try dsimp only at h h2);omega) hf0;have HVg:=lh (show fu [(0,ucs,urows)] ucs (0,rrows)=(e_ ucs rrows,[],[]) by rw[HVe.o,ab hf0]);obtain⟨K,hK⟩:∃K,K=e_ ucs rrows:=⟨_,rfl⟩;rw[<- hK] at hmk HVg;have Hmk:=lh hmk;clear HVe hf0 hK hmk;go_wp2_with fail;refine Hmk.o.mono ?_;rintro e w7 ⟨rfl,t7⟩;have HM:=Gb t7 (t7.blk HZ.o.2.2.2.2.1 (by simp));clear t7 Hmk z0 z1 y0' y1';obtain⟨z0,z1,y0',y1'⟩:=eL HM.o.2;go_wp2_with fail;refine aG (eD rfl _ _ (w.heap.size+1) _ _ _ _ rfl (kR HM.o.2 rfl _ _) bV rfl rfl) rfl ?_;rw[HPO.o];dsimp only;rw[HVg.o];exact hJ.err K ((HZ.o.2.2.2.1.trans0 HM.o.1).trans (ik _ _ _ _) (λb hb=>.inr (by simp at hb;omega)))
end
section
open Go.RowKit
theorem gy{cs:List CD}{rows:List (List VD)}(h:ft cs rows=0):e_ cs rows=0/\gH rows=true:=by
 unfold ft at h;by_cases h1:e_ cs rows=0
 ·rw[ae h1] at h;by_cases h2:gH rows=true
  ·exact⟨h1,h2⟩
  rw[ab h2] at h;exact absurd h (by decide)
 rw[ab h1] at h;exact absurd h h1
theorem pN{rows:List (List VD)}(h:gH rows=true)(k:Nat)(hk:k+1<rows.length):ej rows[k] rows[k+1]<=0:=by
 unfold gH at h;rw[bU] at h;have:=aN (h k (a_.2 (by omega)));have e1:rows.getD (k+1) []=rows[k+1]:=by simp[List.getD,hk]
 have e2:rows.getD k []=rows[k]:=by simp[List.getD,show k<rows.length by omega]
 rw[e1,e2] at this;have:=fL rows[k+1] rows[k];omega
theorem lE{rows:List (List VD)}(h:gH rows=true):rows.Pairwise λa b=>ej a b<=0:=by
 rw[cI];intro i j hi hj hij;obtain⟨d,rfl⟩:∃d,j=i+1+d:=⟨j-(i+1),by omega⟩;clear hij;induction d with
 |zero=>exact pN h i (by omega)
 |succ d ih =>
  have h1:=ih (by omega)
  have h2:=pN h (i+1+d) (by omega)
  exact(ln _ _ _ h1 h2).1
theorem zr{rows:List (List VD)}(h:rows.Pairwise fun a b=>ej a b<=0):fF rows=rows:=(m_ ⟨.refl _,h⟩).symm
theorem iN(rows:List (List VD)):iy rows (fF rows):=by
 refine⟨List.mergeSort_perm _ _, ?_⟩;have:=List.pairwise_mergeSort (le:=fun a b:List VD=>decide (ej a b<=0))
  (λa b c h1 h2=>by have:=ln a b c (aN h1) (aN h2);exact aF this.1)
  (λa b=>by
   have:=fL a b;by_cases h:ej a b<=0
   ·rw[aF h];rfl
   rw[aF (show ej b a<=0 by omega),Bool.or_true]) rows
 exact this.imp λh=>aN h
theorem mV{cs:List CD}{rows out:List (List VD)}(h:e_ cs rows=0)(hm:∀ r∈out,r∈rows)(hl:out.length<=rows.length):e_ cs out=0:=by obtain⟨h1,h2,h3⟩:=jO h;unfold e_;rw[ae h1,ab (by omega),ae];rw[bU] at h3 ⊢;exact λr hr=>h3 r (hm r hr)
def kP(cs:List CD)(rows:List (List VD)):List SrcD:=[⟨⟨#[120]⟩,cs,rows⟩]
theorem BT(cs:List CD)(rows:List (List VD)):j8 (kP cs rows) ⟨#[120]⟩=some 0:=k8 (l:=kP cs rows) (k:=0) (by simp[kP]) rfl (λj hj=>absurd hj (by omega))
theorem Eo{cs:List CD}{rows:List (List VD)}(h:ft cs rows=0):iS (kP cs rows) ⟨#[120]⟩=(0,cs):=by unfold iS;rw[BT];simp only[kP,List.getElem?_cons_zero];exact ae h
structure RuAt (W:World) (I:Option Addr) (ic:Nat) (cs:List CD) (rows:List (List VD)):Prop where
 tb:TbOk cs rows
 ck:ft cs rows=0
 nd:gm W
 src:iK W I (kP cs rows)
section
variable {W:World} {I:Option Addr} {ic:Nat} {cs:List CD} {rows:List (List VD)}
theorem RuAt.touch0{W':World}(h:RuAt W I ic cs rows)(t:Touch [] W W'):RuAt W' I ic cs rows:=⟨h.tb,h.ck,h.nd.touch0 t,h.src.touch0 t⟩
theorem RuAt.fit(h:RuAt W I ic cs rows):e_ cs rows=0:=(gy h.ck).1
theorem RuAt.check(h:RuAt W I ic cs rows):eB cs=0:=(jO h.fit).1
theorem RuAt.pair(h:RuAt W I ic cs rows):rows.Pairwise λa b=>ej a b<=0:=lE (gy h.ck).2
theorem RuAt.scanT(h:RuAt W I ic cs rows)(d:Int)(hd:d<=16):gI W I ic 1 (eH ⟨#[120]⟩) d (0,cs):=by
 have:=kL (eH ⟨#[120]⟩) rfl rfl d hd I ic 1 (kP cs rows) rfl (by omega) (λs hs=>by simp only[kP,List.mem_singleton] at hs;subst hs;exact h.tb.src _) W h.nd h.src
 rw[show (eH ⟨#[120]⟩).name=⟨#[120]⟩ from rfl,Eo h.ck] at this;exact this
theorem RuAt.scanE(h:RuAt W I ic cs rows):gV W I ic 1 (eH ⟨#[120]⟩) (0,cs,rows):=
 kD (eH ⟨#[120]⟩) rfl rfl I ic 1 (kP cs rows) rfl (by omega) 0 (by simp[kP]) (BT cs rows) (by simp only[kP,List.getElem_cons_zero];have:=h.tb.n;omega) (by simp only[kP,List.getElem_cons_zero];have:=h.tb.m;omega) h.tb.rle W h.src
theorem wA(s:ByteArray)(w:World):jo w (eH s) 1:=oP _ rfl w
theorem ot(x:PC)(hm:x.args.n=1)(y:PC)(hX:d9 ir W x.args.A [y])(k:Nat)(hk:k<=100)(hy:jo W y k):jo W x (1+k):=by
 have:=mF x [y] [k] W (by rw[hm];rfl) (by rw[hm];rfl) hX (λi a b=>by
  obtain rfl:i=0:=by simp at a;omega
  exact hy) (by simp;omega) (by omega)
 simpa using this
theorem RuAt.oneT(h:RuAt W I ic cs rows)(x:PC)(kk:Nat)(hk0:x.kind=kk)(hk2:2<=kk)(hk9:kk<=9)(hnd:lX kk=1)(hm:x.args.n=1)(y:PC)(hX:d9 ir W x.args.A [y])(d:Int)(hd0:0<=d)(hd:d<=16)(v:Int × List CD)(hy:gI W I ic 1 y (d+1) v)(er:Int)(hs:v.1=0->ib W x [v.2] (er,cs)):gI W I ic 1 x d (gw [v] (er,cs)):=
 j4 x kk 1 hk0 hk2 hk9 hm hnd d hd0 hd I ic 1 W h.nd [y] [v] rfl rfl hX (λi a b=>by
  obtain rfl:i=0:=by simp at a;omega
  exact hy) (er,cs) (λh0=>hs (by
  unfold fI at h0;by_cases hv:v.1=0
  ·exact hv
  rw[ab hv] at h0;exact h0)) h.tb.cols (by have:=h.tb.n;show cs.length<=_;omega)
theorem D9{v:Int × List CD}(h:fI [v]=0):v.1=0:=by
 unfold fI at h;by_cases hv:v.1=0
 ·exact hv
 rw[ab hv] at h;exact h
theorem uI{u v:Int × List CD}(h:fI [u,v]=0):u.1=0/\v.1=0:=by
 unfold fI at h;by_cases hv:u.1=0
 ·rw[ae hv] at h;exact⟨hv,D9 h⟩
 rw[ab hv] at h;exact absurd h hv
theorem lB{vs:List (Int × List CD)}{v:Int × List CD}(h:(gw vs v).1=0):fI vs=0/\v.1=0/\(gw vs v)=(0,v.2):=by
 unfold gw at h ⊢;by_cases h1:fI vs=0
 ·rw[ae h1] at h ⊢;by_cases h2:v.1=0
  ·rw[ae h2] at h ⊢;by_cases h3:eB v.2=0
   ·rw[ae h3];exact⟨h1,h2,rfl⟩
   rw[ab h3] at h;exact absurd h h3
  rw[ab h2] at h;exact absurd h h2
 rw[ab h1] at h;exact absurd h h1
theorem kr{vs:List (Int × List CD × List (List VD))}{cs:List CD}{rv:Int × List (List VD)}(h:(fu vs cs rv).1=0):fI (vs.map λv=>(v.1,v.2.1))=0/\rv.1=0/\e_ cs rv.2=0/\fu vs cs rv=(0,cs,fF rv.2):=by
 unfold fu at h ⊢;by_cases h1:fI (vs.map λv=>(v.1,v.2.1))=0
 ·rw[ae h1] at h ⊢;by_cases h2:rv.1=0
  ·rw[ae h2] at h ⊢;by_cases h3:e_ cs rv.2=0
   ·rw[ae h3];exact⟨h1,h2,h3,rfl⟩
   rw[ab h3] at h;exact absurd h h3
  rw[ab h2] at h;exact absurd h h2
 rw[ab h1] at h;exact absurd h h1
structure CondAt {m:Nat} (W:World) (x:XC) (e:TX m):Prop where
 at_:iJ iX jf m W x e
 sz:fj m e<=1000000
 tx:gj (λq=>q.v.text.size<=140737000000000) m e
theorem CondAt.touch0{m:Nat}{x:XC}{e:TX m}{W':World}(h:CondAt W x e)(t:Touch [] W W'):CondAt W' x e:=⟨h.at_.touch0 t,h.sz,h.tx⟩
theorem CondAt.ets{m:Nat}{x:XC}{e:TX m}(h:CondAt W x e)(hc:∀ c∈cs,c.Ok)(hl:cs.length<=16):lA W x cs (gu cs m e):=
 λw' A c t hcs=>pX m e x A c cs.length cs rfl hc w' (h.at_.touch0 t) hcs (by omega) h.sz h.tx
def whT{m:Nat}(cs:List CD)(e:TX m):Int × List CD:=gw [(0,cs)] ((gu cs m e).2,cs)
def whE{m:Nat}(cs:List CD)(rows:List (List VD))(e:TX m):Int × List CD × List (List VD):=fu [(0,cs,rows)] cs (gP cs e rows)
theorem lp{m:Nat}{e:TX m}{r:List VD}(h:r∈(gP cs e rows).2):r∈rows:=by
 unfold gP at h;split at h
 ·exact(bE.1 h).1
 simp at h
theorem nD{m:Nat}(e:TX m):(gP cs e rows).2.length<=rows.length:=by
 unfold gP;split
 ·exact bP _ _
 simp
theorem RuAt.whT(h:RuAt W I ic cs rows){m:Nat}(x:PC)(hk0:x.kind=2)(hm:x.args.n=1)(hX:d9 ir W x.args.A [eH ⟨#[120]⟩])(e:TX m)(hc:CondAt W x.cond e)(d:Int)(hd0:0<=d)(hd:d<=15):gI W I ic 1 x d (whT cs e):=
 h.oneT x 2 hk0 (by omega) (by omega) rfl hm _ hX d hd0 (by omega) (0,cs) (h.scanT _ (by omega)) _ (λ_=>mf x hk0 cs _ W (hc.ets h.tb.cols h.tb.n))
theorem RuAt.whE(h:RuAt W I ic cs rows){m:Nat}(x:PC)(hk0:x.kind=2)(hm:x.args.n=1)(hX:d9 ir W x.args.A [eH ⟨#[120]⟩])(e:TX m)(hc:CondAt W x.cond e):gV W I ic 1 x (whE cs rows e):=by
 refine jS x 2 1 hk0 (by omega) hm (by omega) I ic 1 W [eH ⟨#[120]⟩] [(0,cs,rows)] rfl rfl hX (λi a b=> ?_) _ cs (λ_=>mf x hk0 cs _ W (hc.ets h.tb.cols h.tb.n)) _ (λ_=> ?_) h.tb.cols (by have:=h.tb.n;omega) (λr hr=>h.tb.rok r (lp hr)) (λr hr=>h.tb.rle r (lp hr)) (by have:=nD (cs:=cs) (rows:=rows) e;have:=h.tb.m;omega)
 ·obtain rfl:i=0:=by simp at a;omega
  exact h.scanE
 exact qN x hk0 e cs rows W hc.at_ h.tb.cols (by have:=h.tb.n;omega) (by have:=h.tb.m;omega) h.tb.rok hc.sz hc.tx
theorem qs{m:Nat}(e:TX m):(_root_.Go.Proofs.YtafoklilkdnepaaGreatDoor.whE cs rows e).2.2.length<=rows.length:=by
 unfold _root_.Go.Proofs.YtafoklilkdnepaaGreatDoor.whE fu;have h0:=nD (cs:=cs) (rows:=rows) e;have h1:(fF (gP cs e rows).2).length=(gP cs e rows).2.length:=(iN _).1.length_eq;split
 ·split
  ·split
   ·dsimp only;omega
   simp
  simp
 simp
theorem qw{m:Nat}{e:TX m}{r:List VD}(h:r∈(_root_.Go.Proofs.YtafoklilkdnepaaGreatDoor.whE cs rows e).2.2):r∈rows:=by
 unfold _root_.Go.Proofs.YtafoklilkdnepaaGreatDoor.whE fu at h;split at h
 ·split at h
  ·split at h
   ·exact lp ((iN _).1.mem_iff.1 h)
   simp at h
  simp at h
 simp at h
def Fz{m:Nat}(cs:List CD)(e:TX m):Int × List CD:=gw [whT cs e,whT cs (j_ m e)] (0,cs)
def D3{m:Nat}(cs:List CD)(rows:List (List VD))(e:TX m):Int × List CD × List (List VD):=fu [whE cs rows e,whE cs rows (j_ m e)] cs (0,(whE cs rows e).2.2++(whE cs rows (j_ m e)).2.2)
theorem RuAt.both(h:RuAt W I ic cs rows){m:Nat}(x y z:PC)(hk0:x.kind=7)(hm:x.args.n=2)(hX:d9 ir W x.args.A [y,z])(e:TX m) (hky:y.kind=2) (hmy:y.args.n=1) (hXy:d9 ir W y.args.A [eH ⟨#[120]⟩]) (hcy:CondAt W y.cond e) (hkz:z.kind=2) (hmz:z.args.n=1) (hXz:d9 ir W z.args.A [eH ⟨#[120]⟩]) (hcz:CondAt W z.cond (j_ m e)) : Calls Tryz.prog 12 #[x.val,.slice I 1 ic] W (hJ (kf (Fz cs e) (D3 cs rows e)) W):=by
 have hcl:=h.tb.n;have heq:iH cs cs=true:=(oZ _ _).2 rfl;have hsch:ib W x [cs,cs] (0,cs):=by have:=pf x hk0 cs cs (by omega) (by omega) W;rw[ae heq] at this;exact this
 refine od x 5 (by omega) I ic 1 _ _ W ?_ ?_ (λ_=> ?_)
 ·have:=mF x [y,z] [2,2] W (by rw[hm];rfl) (by rw[hm];rfl) hX (λi a b=>by
   have:i=0\/i=1:=by simp at a;omega
   rcases this with rfl|rfl
   ·exact ot y hmy _ hXy 1 (by omega) (wA _ W)
   exact ot z hmz _ hXz 1 (by omega) (wA _ W)) (by simp) (by omega)
  exact this
 ·refine j4 x 7 2 hk0 (by omega) (by omega) hm rfl 1 (by omega) (by omega) I ic 1 W h.nd [y,z] [_,_] rfl rfl hX (λi a b=> ?_) (0,cs) (λh0=> ?_) h.tb.cols (by show cs.length<=_;omega)
  ·have:i=0\/i=1:=by simp at a;omega
   rcases this with rfl|rfl
   ·exact h.whT y hky hmy hXy e hcy _ (by omega) (by omega)
   exact h.whT z hkz hmz hXz _ hcz _ (by omega) (by omega)
  obtain⟨h1,h2⟩:=uI h0;have e1:=(lB h1).2.2;have e2:=(lB h2).2.2;show ib W x [(_root_.Go.Proofs.YtafoklilkdnepaaGreatDoor.whT cs e).2,(_root_.Go.Proofs.YtafoklilkdnepaaGreatDoor.whT cs (j_ m e)).2] (0,cs);unfold _root_.Go.Proofs.YtafoklilkdnepaaGreatDoor.whT;rw[e1,e2];exact hsch
 refine jS x 7 2 hk0 (by omega) hm (by omega) I ic 1 W [y,z] [_,_] rfl rfl hX (λi a b=> ?_) 0 cs (λh0=> ?_) (0,_) (λ_=> ?_) h.tb.cols (by omega) ?_ ?_ ?_
 ·have:i=0\/i=1:=by simp at a;omega
  rcases this with rfl|rfl
  ·exact h.whE y hky hmy hXy e hcy
  exact h.whE z hkz hmz hXz _ hcz
 ·obtain⟨h1,h2⟩:=uI h0;have e1:=(kr h1).2.2.2;have e2:=(kr h2).2.2.2;show ib W x [(_root_.Go.Proofs.YtafoklilkdnepaaGreatDoor.whE cs rows e).2.1,(_root_.Go.Proofs.YtafoklilkdnepaaGreatDoor.whE cs rows (j_ m e)).2.1] (0,cs);unfold _root_.Go.Proofs.YtafoklilkdnepaaGreatDoor.whE;rw[e1,e2];exact hsch
 ·have l1:=qs (cs:=cs) (rows:=rows) e;have l2:=qs (cs:=cs) (rows:=rows) (j_ m e);have:=h.tb.m;exact qD x hk0 _ _ (_root_.Go.Proofs.YtafoklilkdnepaaGreatDoor.whE cs rows e).2.2 (_root_.Go.Proofs.YtafoklilkdnepaaGreatDoor.whE cs rows (j_ m e)).2.2 W (by omega) (by omega)
 ·intro r hr;rcases aZ.1 hr with hr|hr
  ·exact h.tb.rok r (qw hr)
  exact h.tb.rok r (qw hr)
 ·intro r hr;rcases aZ.1 hr with hr|hr
  ·exact h.tb.rle r (qw hr)
  exact h.tb.rle r (qw hr)
 have l1:=qs (cs:=cs) (rows:=rows) e;have l2:=qs (cs:=cs) (rows:=rows) (j_ m e);have:=h.tb.m;rw[az];omega
theorem Af{v:Int × List CD}{ev:Int × List CD × List (List VD)}(h:(kf v ev).1=0):v.1=0/\ev.1=0/\kf v ev=ev:=by
 unfold kf at h ⊢;by_cases h1:v.1=0
 ·rw[ae h1] at h ⊢;exact⟨h1,h,rfl⟩
 rw[ab h1] at h;exact absurd h h1
theorem RuAt.bothV(h:RuAt W I ic cs rows){m:Nat}(e:TX m)(h0:(kf (Fz cs e) (D3 cs rows e)).1=0):kf (Fz cs e) (D3 cs rows e)=(0,cs,rows):=by
 obtain⟨-,h1,h2⟩:=Af h0;rw[h2];obtain⟨g1, -, -,g4⟩:=kr h1;unfold D3;rw[g4];obtain⟨p1,p2⟩:=uI g1;obtain⟨-,q1, -,q2⟩:=kr p1;obtain⟨-,r1, -,r2⟩:=kr p2;unfold _root_.Go.Proofs.YtafoklilkdnepaaGreatDoor.whE at *;rw[q2,r2];unfold gP at q1 r1 ⊢;have z1:fH (λr=>(eP cs r m e).2) rows=0:=by
  by_cases hz:fH (λr=>(eP cs r m e).2) rows=0
  ·exact hz
  rw[ab hz] at q1;exact q1
 have z2:fH (λr=>(eP cs r (m+1) (j_ m e)).2) rows=0:=by
  by_cases hz:fH (λr=>(eP cs r (m+1) (j_ m e)).2) rows=0
  ·exact hz
  rw[ab hz] at r1;exact r1
 rw[ae z1,ae z2];have:=uR (λr=>(eP cs r m e).1.tru) (λr=>(eP cs r (m+1) (j_ m e)).1.tru) (rows:=rows) h.pair (λr hr=>Dl (kV z1 r hr) (kV z2 r hr)) (iN _) (iN _) (iN _);rw[this]
def Fs(cs:List CD)(rows:List (List VD))(count:Int):Int × List CD × List (List VD):=if count<0 then (20,[],[]) else (0,cs,rows.take count.toNat)
theorem RuAt.some(h:RuAt W I ic cs rows)(x:PC)(hk0:x.kind=9)(hm:x.args.n=1)(hX:d9 ir W x.args.A [eH ⟨#[120]⟩])(hb:x.by_.n=0): Calls Tryz.prog 12 #[x.val,.slice I 1 ic] W (hJ (Fs cs rows x.count) W):=by
 have hcl:=h.tb.n;have hrl:=h.tb.m;have hsz:=ot x hm _ hX 1 (by omega) (wA _ W);have hsch:=po x hk0 [] (by rw[hb];rfl) (by simp) cs (by omega) W (d9.nil _ _ _);have hty:=h.oneT x 9 hk0 (by omega) (by omega) rfl hm _ hX 1 (by omega) (by omega) (0,cs) (h.scanT _ (by omega)) _ (λ_=>hsch);by_cases hc:x.count<0
 ·have hv:j0 cs [] x.count=20:=by unfold j0;rw[ae hc]
  have hn:gw [(0,cs)] (j0 cs [] x.count,cs)=(20,[]):=by rw[hv];rfl
  rw[hn] at hty;have:=od x 2 (by omega) I ic 1 (20,[]) (20,[],[]) W hsz hty (λq=>absurd q (by decide));rw[show kf (20,[]) (20,[],[])=(20,[],[]) from rfl] at this;unfold Fs;rw[ae hc];exact this
 have hv:j0 cs [] x.count=0:=by unfold j0;rw[ab hc];rfl
 rw[hv,vx rfl rfl h.check] at hty;rw[hv] at hsch;have hmem:∀r∈rows.take x.count.toNat,r∈rows:=λr hr=>da hr;have htl:(rows.take x.count.toNat).length<=rows.length:=by rw[aO];omega
 have hE:=jS x 9 1 hk0 (by omega) hm (by omega) I ic 1 W [eH ⟨#[120]⟩] [(0,cs,rows)] rfl rfl hX (λi a b=>by
  obtain rfl:i=0:=by simp at a;omega
  exact h.scanE) 0 cs (λ_=>hsch) (0,rows.take x.count.toNat) (λ_=>by have:=qQ x hk0 cs [] rows W (by rw[hb];rfl) (d9.nil _ _ _) (by omega) (by omega) (by omega) (by simp) (λr hr=>⟨by have:=(h.tb.r r hr).1;omega,by simp⟩);rw[xb] at this;exact this) h.tb.cols (by omega) (λr hr=>h.tb.rok r (hmem r hr)) (λr hr=>h.tb.rle r (hmem r hr)) (by show (rows.take x.count.toNat).length<=_;omega)
 rw[vF rfl rfl (mV h.fit hmem htl)] at hE;have hs:fF (rows.take x.count.toNat)=rows.take x.count.toNat:=zr (h.pair.sublist (List.take_sublist _ _));rw[show ((0:Int),rows.take x.count.toNat).2=rows.take x.count.toNat from rfl,hs] at hE;have:=od x 2 (by omega) I ic 1 (0,cs) _ W hsz hty (λ_=>hE);rw[show kf (0,cs) (0,cs,rows.take x.count.toNat)=(0,cs,rows.take x.count.toNat) from ae rfl] at this;unfold Fs;rw[ab hc];exact this
end
end
end Go.Proofs.YtafoklilkdnepaaGreatDoor
