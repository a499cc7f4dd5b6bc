/- Part 10 of the texts of this proof, one behind the other. No condition beyond those that its theorems state. -/
import Derived.Test.YtafoklilkdnepaaGreatDoorRe9
set_option linter.all false
set_option maxRecDepth 40000
set_option maxHeartbeats 25600000
namespace Go.Proofs.YtafoklilkdnepaaGreatDoor
section
open Go.RowKit
theorem fm.base{b b':Nat}{v:Int × List CD}{w:World}{e:Ending}{w':World}(h:fm b v w e w')(hb:b'<=b):fm b' v w e w':=by obtain⟨s,h1,h2,h3,h4,h5,h6⟩:=h;exact⟨s,h1,h2,h3,h4,λx hx=>⟨bm hb (h5 x hx).1,(h5 x hx).2⟩,h6⟩
theorem jo.touch0{w w':World}{x:PC}{k:Nat}(h:jo w x k)(ht:Touch [] w w'):jo w' x k:=λw'' t=>h w'' (ht.trans0 t)
theorem gI.touch0{w w':World}{I:Option Addr}{ic n:Nat}{x:PC}{d:Int}{v:Int × List CD}(h:gI w I ic n x d v)(ht:Touch [] w w'):gI w' I ic n x d v:=λw'' t=>h w'' (ht.trans0 t)
theorem oP(x:PC)(h0:x.args.n=0)(w:World):jo w x 1:=λw' _=>by have:=tJ x [] [] w' (by rw[h0];rfl) (by rw[h0];rfl) (d9.nil _ _ _) (λi h=>absurd h (by simp)) (by simp) (by omega);exact this
theorem mF(x:PC)(xs:List PC)(ks:List Nat)(w:World)(hxs:xs.length=x.args.n)(hks:ks.length=x.args.n)(hX:d9 ir w x.args.A xs)(hT:∀ i (h1:i<xs.length) (h2:i<ks.length),jo w xs[i] ks[i])(hsum:ks.sum<=1000000)(hnn:x.args.n<=1000000):jo w x (1+ks.sum):=
 λw' t=>tJ x xs ks w' hxs hks (d9.touch0 hX t) (λi a b=>(hT i a b).touch0 t) hsum hnn
theorem kL(x:PC)(hk0:x.kind=1)(ha0:x.args.n=0)(d:Int)(hd:d<=16)(I:Option Addr)(ic n:Nat)(l:List SrcD)(hn:l.length=n)(hl:n<=1000000)(hok:∀ d∈l,d.Ok)(w:World)(hG:gm w)(h:iK w I l):gI w I ic n x d (iS l x.name):=
 λw' t=>zg x hk0 ha0 d hd I ic n l hn hl hok w' (hG.touch0 t) (h.touch0 t)
theorem j4(x:PC)(kk m:Nat)(hk0:x.kind=kk)(hk2:2<=kk)(hk9:kk<=9)(hm:x.args.n=m)(hnd:lX kk=m)(d:Int)(hd0:0<=d)(hd:d<=16)(I:Option Addr)(ic n:Nat)(w:World)(hG:gm w)
  (xs:List PC) (vs:List (Int × List CD)) (hxs:xs.length=m) (hvs:vs.length=m) (hX:d9 ir w x.args.A xs) (hT:∀i(h1:i<xs.length)(h2:i<vs.length),gI w I ic n xs[i] (d+1) vs[i])
  (v:Int × List CD) (hv:fI vs=0->ib w x (vs.map (·.2)) v) (hok:∀c∈v.2,c.Ok) (hvl:v.2.length<=1000000):gI w I ic n x d (gw vs v):=
 λw' t=>yw x kk m hk0 hk2 hk9 hm hnd d hd0 hd I ic n w' (hG.touch0 t) xs vs hxs hvs (d9.touch0 hX t) (λi a b=>(hT i a b).touch0 t) v (λh0 w'' base L lc sl t2=>hv h0 w'' base L lc sl (t.trans0 t2)) hok hvl
theorem kD(x:PC)(hk0:x.kind=1)(ha0:x.args.n=0)(I:Option Addr)(ic n:Nat)(l:List SrcD)(hn:l.length=n)(hl:n<=1000000)(k:Nat)(hkl:k<l.length)(hs:j8 l x.name=some k)(hcl:l[k].cs.length<=1000000)(hrl:l[k].rows.length<=1000000)(hrr:gR l[k].rows)(w:World)(h:iK w I l):gV w I ic n x (0,l[k].cs,l[k].rows):=
 λw' t=>BO x hk0 ha0 I ic n l hn hl k hkl hs hcl hrl hrr w' (h.touch0 t)
theorem jS(x:PC)(kk m:Nat)(hk0:x.kind=kk)(hk2:2<=kk)(hm:x.args.n=m)(hm2:m<=2)(I:Option Addr)(ic n:Nat)(w:World)
  (xs:List PC) (vs:List (Int × List CD × List (List VD))) (hxs:xs.length=m) (hvs:vs.length=m) (hX:d9 ir w x.args.A xs) (hE:∀i(h1:i<xs.length)(h2:i<vs.length),gV w I ic n xs[i] vs[i])
  (ver:Int) (cs:List CD) (hS:fI (vs.map λv=>(v.1,v.2.1))=0->ib w x (vs.map (·.2.1)) (ver,cs)) (rv:Int × List (List VD)) (hR:fI (vs.map λv=>(v.1,v.2.1))=0->lS w x (vs.map (·.2)) rv)
  (hok:∀c∈cs,c.Ok) (hvl:cs.length<=1000000) (hrk:fe rv.2) (hrl:gR rv.2) (hrn:rv.2.length<=1000000):gV w I ic n x (fu vs cs rv):=
 λw' t=>BW x kk m hk0 hk2 hm hm2 I ic n w' xs vs hxs hvs (d9.touch0 hX t) (λi a b w'' t2=>hE i a b w'' (t.trans0 t2)) ver cs (λh0 w'' base L lc sl t2=>hS h0 w'' base L lc sl (t.trans0 t2)) rv (λh0 w'' L lc tl t2=>hR h0 w'' L lc tl (t.trans0 t2)) hok hvl hrk hrl hrn
theorem wu(x:PC)(hk0:x.kind=4)(on:List (ByteArray × ByteArray))(ho:x.on.n=on.length)(hlo:on.length<=1000000)(a b:List CD)(hl1:a.length<=1000)(hl2:b.length<=1000)(w:World)(hr:d9 nz w x.on.A on):ib w x [a,b] (iY a b on,a++b):=by
 intro w' base L lc sl t hb hs hL;obtain⟨hs1,hs2⟩:=hs;match sl,hs1 with
 | [s1,s2],_ =>
  have h1:=hs2 0 (by simp) (by simp)
  have h2:=hs2 1 (by simp) (by simp)
  refine(wY x hk0 on ho hlo L lc s1 s2 a b h1.1 h2.1 h1.2.1 h2.2.1 hl1 hl2 w' hL (d9.touch0 hr t) h1.2.2.1 h2.2.2.1).mono ?_
  rintro e w'' ⟨A,c,rfl,hm⟩
  exact(fm.made hm).base hb
theorem mi(x:PC)(hk0:x.kind=6)(names:List ByteArray)(aggs:List AG)(hnn:x.names.n=names.length)(han:x.aggs.n=aggs.length)(hln:names.length<=100000)(hla:aggs.length<=100000)(a:List CD)(hl1:a.length<=1000)(w:World) (hr:d9 gD w x.names.A names) (hg:d9 lK w x.aggs.A aggs):ib w x [a] (g_ a names aggs):=by
 intro w' base L lc sl t hb hs hL;obtain⟨hs1,hs2⟩:=hs;match sl,hs1 with
 | [s1],_ =>
  have h1:=hs2 0 (by simp) (by simp)
  refine(vp x hk0 names aggs hnn han hln hla L lc s1 a h1.1 hl1 w' hL (d9.touch0 hr t) (d9.touch0 hg t) h1.2.2.1).mono ?_
  intro e w'' h
  exact(fm.of h).base hb
theorem wH(x:PC)(hk0:x.kind=6)(h1:x.names.n=0)(h2:x.aggs.n=1)(op nm:ByteArray)(cs:List CD)(hl:cs.length<=1000000)(w:World)(hg:d9 lK w x.aggs.A [⟨op,⟨#[]⟩,nm⟩]):lS w x [(cs,[])] (0,[[⟨1,0,⟨#[]⟩⟩]]):=by
 intro w' L lc tl t hs hL;obtain⟨hs1,hs2⟩:=hs;match tl,hs1 with
 | [t1],_=>exact xr x hk0 h1 h2 op nm L lc t1 cs hl w' hL (hs2 0 (by simp) (by simp)) (d9.touch0 hg t)
theorem An(r:List VD):fF [r]=[r]:=(m_ (rows:=[r]) ⟨.refl _,by simp⟩).symm
end
section
open Go.RowKit
theorem Ae(n:Nat)(hn:n<=1000000)(w:World): Calls Tryz.prog 140 #[.slice none 0 0,.int .i64 n] w λe w'=>∃A c,e=.returned (.slice A 0 c)/\Made 33 1 eT [] A c w w':=by
 obtain⟨i0,hi0,hz0,hz1,hz2⟩:=info_parts gf;go_enter Tryz.func140,Tryz.ntmps140;by_cases h0:n=0
 ·subst h0;go_wp2;go_ret;exact⟨none,0,rfl,Made.nil _ _ _ _⟩
 have hn0:0<n:=by omega
 have hge:=grownCap_ge w n 0 33;have hle:=grownCap_le_maxLen w n 0 33 (by simp only[maxLen];omega);have hold:(Builtin.firstCells i0.size 0 (.slice none 0 0)).run Tryz.prog w.drew=.ok ([]:List Value).toArray w.drew:=run_firstCells_none w.drew i0.size 0 0 0;have hrz:∀ty,(Builtin.append_ #[25,3] ty #[.slice none 0 0,.int .i64 (n:Int)]).run Tryz.prog w=_:=λty=>
  Lib.run_append_grow_zeros w 25 3 ty 33 i0 (.slice none 0 0) .i64 .i64 bp cN hi0 hz0 none 0 0 [] hold n hn0 (by omega) (by omega) (by omega)
   (by rw[hz2];omega) (by rw[hz2];exact growslice_fits (by omega) (by omega))
 simp only[Nat.zero_add] at hrz;have hsz:(([]:List Value).toArray++Builtin.zeroCells (Value.slice none 0 0).cells n++Builtin.zeroCells (Value.slice none 0 0).cells (grownCap w n 0 33-n)).size=grownCap w n 0 33*1:=by rw[de,de,size_zeroCells,size_zeroCells];simp[Value.cells];omega
 have hcut:=ep.room 33 1 eT w.drew (grownCap w n 0 33) _ hle hsz;obtain⟨W,hW⟩:∃W,W=w.drew.alloc (.cells (([]:List Value).toArray++Builtin.zeroCells (Value.slice none 0 0).cells n++Builtin.zeroCells (Value.slice none 0 0).cells (grownCap w n 0 33-n)) 33):=⟨_,rfl⟩;obtain⟨G,hG⟩:∃G,G=grownCap w n 0 33:=⟨_,rfl⟩;have tW:Touch [] w W:=by rw[hW];exact((Touch.refl [] w).drew).alloc _
 rw[<- hW] at hrz hcut;rw[<- hG] at hrz hcut hge hle;have hws:w.drew.heap.size=w.heap.size:=rfl;rw[hws] at hcut;unfold maxLen at hle;clear hW hG hold hsz hws;go_wp2_with (at_builtin;refine Lib.wpList_append_run _ rfl _ _ _ _ rfl _ _ rfl rfl _ _ (hrz _) ?_);go_ret;exact⟨_,G,rfl,hcut,tW,by simp[ed]⟩
theorem xi(A1 A2:Option Addr)(n1 n2 c1 c2:Nat)(l1 l2:List SL)(e1:l1.length=n1)(e2:l2.length=n2)(h1:n1<=100000)(h2:n2<=100000)(w:World)(r1:d9 eT w A1 l1)(r2:d9 eT w A2 l2): Calls Tryz.prog 98 #[.slice (some ⟨w.heap.size,0,none⟩) 2 2] (w.alloc (.cells #[.slice A1 n1 c1,.slice A2 n2 c2] 25)) λe w'=> ∃A c,e=.returned (.slice A (l1++l2).length c)/\Made 33 1 eT (l1++l2) A c w w':=by
 subst e1 e2;have t0:=(Touch.refl [] w).alloc (.cells #[.slice A1 l1.length c1,.slice A2 l2.length c2] 25);have hb:=ah w (.cells #[.slice A1 l1.length c1,.slice A2 l2.length c2] 25);obtain⟨W,hW⟩:∃W,W=w.alloc (.cells #[.slice A1 l1.length c1,.slice A2 l2.length c2] 25):=⟨_,rfl⟩;have hWs:w.heap.size<W.heap.size:=by rw[hW,ao];omega
 rw[<- hW] at t0 hb ⊢;have d0:=d_ hb (i:=0) rfl;have d1:=d_ hb (i:=1) rfl;have hlen:(l1++l2).length=l1.length+l2.length:=az;have Hlen:=lh hlen;clear hW hlen;go_enter Tryz.func98,Tryz.ntmps98;go_wp2;refine b8 3 ?_;rw[bx];go_wp2;rw[bx];go_wp2;rw[bx];go_wp2_with fail;have hgr:=Ae (l1.length+l2.length) (by omega) W;rw[Int.natCast_add] at hgr;refine hgr.mono ?_;rintro e w1 ⟨A3,c3,rfl,hm3⟩;have b1:=hm3.t.blk hb (by simp);have f0:=d_ b1 (i:=0) rfl;have f1:=d_ b1 (i:=1) rfl;have T1:=t0.trans0 hm3.t;go_wp2_with fail;refine b8 3 ?_;rw[bx];go_wp2_with (at_builtin;refine ez ?_);refine go ?_;refine eb rfl (.tmp 31) (.tmp 32) 25 rfl 33 _ 1 24 gf bp rfl (by omega) eC ia A3 0 c3 [] rfl rfl hm3.own
  A1 l1.length c1 l1 rfl rfl (r1.touch0 T1) (by omega) (by omega) ?_
 intro A4 c4 w4 hown4 ht4 hf4;have hm4:=hm3.step hown4 ht4 hf4;have b4:=hm4.t.blk hb (by simp);have g0:=d_ b4 (i:=0) rfl;have g1:=d_ b4 (i:=1) rfl;rw[cw] at hm4;go_wp2_with fail;rw[bx];go_wp2_with (at_builtin;refine ez ?_);refine go ?_;refine eb rfl (.tmp 31) (.tmp 32) 25 rfl 33 _ 1 24 gf bp rfl (by omega) eC ia A4 l1.length c4 l1 rfl rfl hm4.own
  A2 l2.length c2 l2 rfl rfl (r2.touch0 (t0.trans0 hm4.t)) (by omega) (by omega) ?_
 intro A5 c5 w5 hown5 ht5 hf5;have hm5:=hm4.step hown5 ht5 hf5;go_wp2_with fail;rw[bx];go_wp2;go_ret;exact⟨A5,c5,pu Hlen.o.symm,hm5.own,t0.trans0 hm5.t,λb hb=>by have:=hm5.f b hb;omega⟩
end
section
open Go.RowKit
theorem fX.append{w:World}{s1 s2:List SL}{r1 r2:List (List VD)}(h1:fX w s1 r1)(h2:fX w s2 r2):fX w (s1++s2) (r1++r2):=by
 refine⟨by rw[az,az,h1.1,h2.1],λi a b=> ?_⟩;by_cases hi:i<s1.length
 ·have hi2:i<r1.length:=by rw[<- h1.1];exact hi
  rw[bH hi,bH hi2];exact h1.2 i hi hi2
 have hi2:r1.length<=i:=by rw[<- h1.1];omega
 have hs:i-s1.length<s2.length:=by rw[az] at a;omega
 have hr:i-r1.length<r2.length:=by rw[az] at b;omega
 rw[bM (by omega),bM hi2];have:=h2.2 (i-s1.length) hs (by rw[<- h2.1];exact hs);simp only[h1.1] at this ⊢;exact this
theorem fX.touch0'{w w':World}{sl:List SL}{rows:List (List VD)}(h:fX w sl rows)(ht:Touch [] w w'):fX w' sl rows:=⟨h.1,λi a b=>⟨(h.2 i a b).1,eu.touch0 (h.2 i a b).2 ht⟩⟩
theorem zc(x:PC)(hk0:x.kind=7)(L:Option Addr)(lc:Nat)(ta tb:SL × SL)(csA csB:List CD)(rowsA rowsB:List (List VD))(w:World)(hL:d9 kZ w L [ta,tb])(hTA:TabAt w ta.1 ta.2 csA rowsA)(hTB:TabAt w tb.1 tb.2 csB rowsB)(hA2:rowsA.length<=100000)(hB2:rowsB.length<=100000): Calls Tryz.prog 65 #[x.val,.slice L 2 lc] w (eX (0,rowsA++rowsB) w):=by
 obtain⟨⟨SA,sn,sc⟩,⟨RA,rn,rc⟩⟩:=ta;obtain⟨⟨SB,tn,tc⟩,⟨RB,un,uc⟩⟩:=tb;obtain⟨k0,k1,⟨A2,n2,c2'⟩,⟨⟨ck,cn,⟨cvk,cvn,cvt⟩,cop⟩,CA,cnn,cc⟩,⟨NA,nn,nc⟩,⟨EA,en,ec⟩,⟨OA,ol,oc⟩,⟨GA,gn,gc⟩,⟨BA,bn,bc⟩,count⟩:=x;dsimp only at hk0;subst hk0;obtain⟨ad,bl,bo,rfl,hadd0,hc0⟩:=d9.cells hL 2 gi (by omega) 0 (by simp);obtain⟨ad',bl',bo',e',hadd1,hc1⟩:=d9.cells hL 2 gi (by omega) 1 (by simp);obtain rfl:ad=ad':=by injection e'
 have l1:=hc0 1 _ rfl;have l3:=hc1 1 _ rfl;simp only[Nat.zero_mul,Nat.one_mul,Nat.add_zero] at hadd0 hadd1;simp only[List.getElem_cons_zero,List.getElem_cons_succ] at l1 l3;obtain⟨sl1,hs1,hr1⟩:=hTA.rws;obtain⟨sl2,hs2,hr2⟩:=hTB.rws;have hn1:rn=rowsA.length:=hTA.m;have hn2:un=rowsB.length:=hTB.m;have hm1:sl1.length=rn:=by rw[hn1,hs1.1]
 have hm2:sl2.length=un:=by rw[hn2,hs2.1]
 have Hj:=lh λw'(t:Touch [] w w')=>xi RA RB rn un rc uc sl1 sl2 hm1 hm2 (by omega) (by omega) w' (d9.touch0 hr1 t) (d9.touch0 hr2 t);have HS:=Gb hs1 hs2;have HN:=lh (show sl1.length+sl2.length=(rowsA++rowsB).length by rw[az,hs1.1,hs2.1]);simp only[PC.val] at *;obtain⟨W,hW⟩:∃W,W=w.alloc (.cells #[.int .i64 7,.string k1,.slice A2 n2 c2',.int .i64 ck,.string cn,.int .i64 cvk,.int .i64 cvn,.string cvt,.string cop,.slice CA cnn cc,.slice NA nn nc,.slice EA en ec,.slice OA ol oc,.slice GA gn gc,.slice BA bn bc,.int .i64 count] 49):=⟨_,rfl⟩;have t0:Touch [] w W:=hW ▸ (Touch.refl [] w).alloc _;have hb0:=hW ▸ ah w (.cells #[.int .i64 7,.string k1,.slice A2 n2 c2',.int .i64 ck,.string cn,.int .i64 cvk,.int .i64 cvn,.string cvt,.string cop,.slice CA cnn cc,.slice NA nn nc,.slice EA en ec,.slice OA ol oc,.slice GA gn gc,.slice BA bn bc,.int .i64 count] 49);have l1d:=t0.drew.cell l1 (by simp);have l3d:=t0.drew.cell l3 (by simp);have p0:W.cell? ⟨w.heap.size,0,none⟩=some (.int .i64 7):=d_ hb0 rfl;have KP:Ga (∀w',Touch [] W.drew w'->w'.cell? ⟨bl,bo+1,none⟩=some (.slice RA rn rc)/\w'.cell? ⟨bl',bo'+1,none⟩=some (.slice RB un uc)):=lh λw' t=>⟨t.cell l1d (by simp),t.cell l3d (by simp)⟩;have HW:=lh hW;have HT0:=lh t0.drew;clear hTA hTB hL hc0 hc1 hW t0 l1 l3 e' hb0 l1d l3d hs1 hs2 hr1 hr2 hn1 hn2 hm1 hm2;go_enter Tryz.func65,Tryz.ntmps65;go_wp2_with fail;rw[<- HW.o];clear p0
 go_region_held3 (λw'=>w'.cell? ⟨bl,bo+1,none⟩=some (.slice RA rn rc)/\w'.cell? ⟨bl',bo'+1,none⟩=some (.slice RB un uc)) (first | exact KP.o _ (Touch.refl _ _) | exact KP.o _ ((Touch.refl _ _).alloc _) | exact KP.o _ M1.o.2) (first
  |(go_at_call 98;refine(Hj.o _ HT0.o).mono ?_;rintro e w1 ⟨A1,c1,rfl,m1⟩;have M1:=Gb m1.own m1.t;clear m1))
 go_wp2_with fail;go_ret2;exact⟨⟨A1,_,c1⟩,rfl,HN.o,⟨_,(HS.o.1.touch0' (HT0.o.trans0 M1.o.2)).append (HS.o.2.touch0' (HT0.o.trans0 M1.o.2)),M1.o.1.rd⟩,HT0.o.trans0 M1.o.2⟩
end
section
open Go.RowKit
theorem zy(x:PC)(hk0:x.kind=2)(rv:Int × List (List VD))(L:Option Addr)(lc:Nat)(ta:SL × SL)(w:World)(hL:d9 kZ w L [ta]) (H:∀w',Touch [] w w'->Calls Tryz.prog 94 #[x.val,.agg #[.slice ta.1.A ta.1.n ta.1.c,.slice ta.2.A ta.2.n ta.2.c]] w' (eX rv w')) : Calls Tryz.prog 65 #[x.val,.slice L 1 lc] w (eX rv w):=by
 obtain⟨⟨SA,sn,sc⟩,⟨RA,rn,rc⟩⟩:=ta;obtain⟨k0,k1,⟨A2,n2,c2'⟩,⟨⟨ck,cn,⟨cvk,cvn,cvt⟩,cop⟩,CA,cnn,cc⟩,⟨NA,nn,nc⟩,⟨EA,en,ec⟩,⟨OA,ol,oc⟩,⟨GA,gn,gc⟩,⟨BA,bn,bc⟩,count⟩:=x;dsimp only at hk0 H;subst hk0;obtain⟨ad,bl,bo,rfl,hadd0,hc0⟩:=d9.cells hL 2 gi (by omega) 0 (by simp);have l0:=hc0 0 _ rfl;have l1:=hc0 1 _ rfl;simp only[Nat.zero_mul,Nat.add_zero] at hadd0 l0 l1;simp only[List.getElem_cons_zero] at l0 l1;have Hj:=lh H;simp only[PC.val] at *;obtain⟨W,hW⟩:∃W,W=w.alloc (.cells #[.int .i64 2,.string k1,.slice A2 n2 c2',.int .i64 ck,.string cn,.int .i64 cvk,.int .i64 cvn,.string cvt,.string cop,.slice CA cnn cc,.slice NA nn nc,.slice EA en ec,.slice OA ol oc,.slice GA gn gc,.slice BA bn bc,.int .i64 count] 49):=⟨_,rfl⟩;have t0:Touch [] w W:=hW ▸ (Touch.refl [] w).alloc _;have hb0:=hW ▸ ah w (.cells #[.int .i64 2,.string k1,.slice A2 n2 c2',.int .i64 ck,.string cn,.int .i64 cvk,.int .i64 cvn,.string cvt,.string cop,.slice CA cnn cc,.slice NA nn nc,.slice EA en ec,.slice OA ol oc,.slice GA gn gc,.slice BA bn bc,.int .i64 count] 49);have l0d:=t0.drew.cell l0 (by simp);have l1d:=t0.drew.cell l1 (by simp);obtain⟨p0,p1,p2,p3,p4,p5,p6,p7,p8,p9,p10,p11,p12,p13,p14,p15⟩:=fg ((Touch.refl [] W).drew.blk hb0 (by simp))
 have HP:Ga (W.drew.cell? ⟨w.heap.size,0,none⟩=some (.int .i64 2)/\W.drew.cell? ⟨w.heap.size,1,none⟩=some (.string k1)/\W.drew.cell? ⟨w.heap.size,2,none⟩=some (.slice A2 n2 c2')/\W.drew.cell? ⟨w.heap.size,3,none⟩=some (.int .i64 ck)/\W.drew.cell? ⟨w.heap.size,4,none⟩=some (.string cn)/\W.drew.cell? ⟨w.heap.size,5,none⟩=some (.int .i64 cvk)/\W.drew.cell? ⟨w.heap.size,6,none⟩=some (.int .i64 cvn)/\W.drew.cell? ⟨w.heap.size,7,none⟩=some (.string cvt)/\W.drew.cell? ⟨w.heap.size,8,none⟩=some (.string cop)/\W.drew.cell? ⟨w.heap.size,9,none⟩=some (.slice CA cnn cc)/\W.drew.cell? ⟨w.heap.size,10,none⟩=some (.slice NA nn nc)/\W.drew.cell? ⟨w.heap.size,11,none⟩=some (.slice EA en ec)/\W.drew.cell? ⟨w.heap.size,12,none⟩=some (.slice OA ol oc)/\W.drew.cell? ⟨w.heap.size,13,none⟩=some (.slice GA gn gc)/\W.drew.cell? ⟨w.heap.size,14,none⟩=some (.slice BA bn bc)/\W.drew.cell? ⟨w.heap.size,15,none⟩=some (.int .i64 count)/\W.drew.cell? ⟨bl,bo,none⟩=some (.slice SA sn sc)/\W.drew.cell? ⟨bl,bo+1,none⟩=some (.slice RA rn rc)):=lh ⟨p0,p1,p2,p3,p4,p5,p6,p7,p8,p9,p10,p11,p12,p13,p14,p15,l0d,l1d⟩;have HW:=lh hW;have HT0:=lh t0.drew;clear H hL hc0 hW t0 l0 l1 hb0 l0d l1d p0 p1 p2 p3 p4 p5 p6 p7 p8 p9 p10 p11 p12 p13 p14 p15;go_enter Tryz.func65,Tryz.ntmps65;go_wp2_with fail;rw[<- HW.o]
 go_region_held3 (λw'=>w'.cell? ⟨w.heap.size,0,none⟩=some (.int .i64 2)/\w'.cell? ⟨w.heap.size,1,none⟩=some (.string k1)/\w'.cell? ⟨w.heap.size,2,none⟩=some (.slice A2 n2 c2')/\w'.cell? ⟨w.heap.size,3,none⟩=some (.int .i64 ck)/\w'.cell? ⟨w.heap.size,4,none⟩=some (.string cn)/\w'.cell? ⟨w.heap.size,5,none⟩=some (.int .i64 cvk)/\w'.cell? ⟨w.heap.size,6,none⟩=some (.int .i64 cvn)/\w'.cell? ⟨w.heap.size,7,none⟩=some (.string cvt)/\w'.cell? ⟨w.heap.size,8,none⟩=some (.string cop)/\w'.cell? ⟨w.heap.size,9,none⟩=some (.slice CA cnn cc)/\w'.cell? ⟨w.heap.size,10,none⟩=some (.slice NA nn nc)/\w'.cell? ⟨w.heap.size,11,none⟩=some (.slice EA en ec)/\w'.cell? ⟨w.heap.size,12,none⟩=some (.slice OA ol oc)/\w'.cell? ⟨w.heap.size,13,none⟩=some (.slice GA gn gc)/\w'.cell? ⟨w.heap.size,14,none⟩=some (.slice BA bn bc)/\w'.cell? ⟨w.heap.size,15,none⟩=some (.int .i64 count)/\w'.cell? ⟨bl,bo,none⟩=some (.slice SA sn sc)/\w'.cell? ⟨bl,bo+1,none⟩=some (.slice RA rn rc)) (first | exact HP.o | exact iE M1.o.2.2 HP.o) (first
  |(go_at_call 94;refine(Hj.o _ HT0.o).mono ?_;rintro e w1 ⟨⟨A1,n1,c1⟩,rfl,m1⟩;have M1:=lh m1;clear m1))
 go_wp2_with fail;go_ret2;exact⟨⟨A1,n1,c1⟩,rfl,M1.o.1,M1.o.2.1,HT0.o.trans0 M1.o.2.2⟩
theorem At(x:PC)(hk0:x.kind=3)(rv:Int × List (List VD))(L:Option Addr)(lc:Nat)(ta:SL × SL)(w:World)(hL:d9 kZ w L [ta]) (H:∀w',Touch [] w w'->Calls Tryz.prog 95 #[x.val,.agg #[.slice ta.1.A ta.1.n ta.1.c,.slice ta.2.A ta.2.n ta.2.c]] w' (eX rv w')) : Calls Tryz.prog 65 #[x.val,.slice L 1 lc] w (eX rv w):=by
 obtain⟨⟨SA,sn,sc⟩,⟨RA,rn,rc⟩⟩:=ta;obtain⟨k0,k1,⟨A2,n2,c2'⟩,⟨⟨ck,cn,⟨cvk,cvn,cvt⟩,cop⟩,CA,cnn,cc⟩,⟨NA,nn,nc⟩,⟨EA,en,ec⟩,⟨OA,ol,oc⟩,⟨GA,gn,gc⟩,⟨BA,bn,bc⟩,count⟩:=x;dsimp only at hk0 H;subst hk0;obtain⟨ad,bl,bo,rfl,hadd0,hc0⟩:=d9.cells hL 2 gi (by omega) 0 (by simp);have l0:=hc0 0 _ rfl;have l1:=hc0 1 _ rfl;simp only[Nat.zero_mul,Nat.add_zero] at hadd0 l0 l1;simp only[List.getElem_cons_zero] at l0 l1;have Hj:=lh H;simp only[PC.val] at *;obtain⟨W,hW⟩:∃W,W=w.alloc (.cells #[.int .i64 3,.string k1,.slice A2 n2 c2',.int .i64 ck,.string cn,.int .i64 cvk,.int .i64 cvn,.string cvt,.string cop,.slice CA cnn cc,.slice NA nn nc,.slice EA en ec,.slice OA ol oc,.slice GA gn gc,.slice BA bn bc,.int .i64 count] 49):=⟨_,rfl⟩;have t0:Touch [] w W:=hW ▸ (Touch.refl [] w).alloc _;have hb0:=hW ▸ ah w (.cells #[.int .i64 3,.string k1,.slice A2 n2 c2',.int .i64 ck,.string cn,.int .i64 cvk,.int .i64 cvn,.string cvt,.string cop,.slice CA cnn cc,.slice NA nn nc,.slice EA en ec,.slice OA ol oc,.slice GA gn gc,.slice BA bn bc,.int .i64 count] 49);have l0d:=t0.drew.cell l0 (by simp);have l1d:=t0.drew.cell l1 (by simp);obtain⟨p0,p1,p2,p3,p4,p5,p6,p7,p8,p9,p10,p11,p12,p13,p14,p15⟩:=fg ((Touch.refl [] W).drew.blk hb0 (by simp))
 have HP:Ga (W.drew.cell? ⟨w.heap.size,0,none⟩=some (.int .i64 3)/\W.drew.cell? ⟨w.heap.size,1,none⟩=some (.string k1)/\W.drew.cell? ⟨w.heap.size,2,none⟩=some (.slice A2 n2 c2')/\W.drew.cell? ⟨w.heap.size,3,none⟩=some (.int .i64 ck)/\W.drew.cell? ⟨w.heap.size,4,none⟩=some (.string cn)/\W.drew.cell? ⟨w.heap.size,5,none⟩=some (.int .i64 cvk)/\W.drew.cell? ⟨w.heap.size,6,none⟩=some (.int .i64 cvn)/\W.drew.cell? ⟨w.heap.size,7,none⟩=some (.string cvt)/\W.drew.cell? ⟨w.heap.size,8,none⟩=some (.string cop)/\W.drew.cell? ⟨w.heap.size,9,none⟩=some (.slice CA cnn cc)/\W.drew.cell? ⟨w.heap.size,10,none⟩=some (.slice NA nn nc)/\W.drew.cell? ⟨w.heap.size,11,none⟩=some (.slice EA en ec)/\W.drew.cell? ⟨w.heap.size,12,none⟩=some (.slice OA ol oc)/\W.drew.cell? ⟨w.heap.size,13,none⟩=some (.slice GA gn gc)/\W.drew.cell? ⟨w.heap.size,14,none⟩=some (.slice BA bn bc)/\W.drew.cell? ⟨w.heap.size,15,none⟩=some (.int .i64 count)/\W.drew.cell? ⟨bl,bo,none⟩=some (.slice SA sn sc)/\W.drew.cell? ⟨bl,bo+1,none⟩=some (.slice RA rn rc)):=lh ⟨p0,p1,p2,p3,p4,p5,p6,p7,p8,p9,p10,p11,p12,p13,p14,p15,l0d,l1d⟩;have HW:=lh hW;have HT0:=lh t0.drew;clear H hL hc0 hW t0 l0 l1 hb0 l0d l1d p0 p1 p2 p3 p4 p5 p6 p7 p8 p9 p10 p11 p12 p13 p14 p15;go_enter Tryz.func65,Tryz.ntmps65;go_wp2_with fail;rw[<- HW.o]
 go_region_held3 (λw'=>w'.cell? ⟨w.heap.size,0,none⟩=some (.int .i64 3)/\w'.cell? ⟨w.heap.size,1,none⟩=some (.string k1)/\w'.cell? ⟨w.heap.size,2,none⟩=some (.slice A2 n2 c2')/\w'.cell? ⟨w.heap.size,3,none⟩=some (.int .i64 ck)/\w'.cell? ⟨w.heap.size,4,none⟩=some (.string cn)/\w'.cell? ⟨w.heap.size,5,none⟩=some (.int .i64 cvk)/\w'.cell? ⟨w.heap.size,6,none⟩=some (.int .i64 cvn)/\w'.cell? ⟨w.heap.size,7,none⟩=some (.string cvt)/\w'.cell? ⟨w.heap.size,8,none⟩=some (.string cop)/\w'.cell? ⟨w.heap.size,9,none⟩=some (.slice CA cnn cc)/\w'.cell? ⟨w.heap.size,10,none⟩=some (.slice NA nn nc)/\w'.cell? ⟨w.heap.size,11,none⟩=some (.slice EA en ec)/\w'.cell? ⟨w.heap.size,12,none⟩=some (.slice OA ol oc)/\w'.cell? ⟨w.heap.size,13,none⟩=some (.slice GA gn gc)/\w'.cell? ⟨w.heap.size,14,none⟩=some (.slice BA bn bc)/\w'.cell? ⟨w.heap.size,15,none⟩=some (.int .i64 count)/\w'.cell? ⟨bl,bo,none⟩=some (.slice SA sn sc)/\w'.cell? ⟨bl,bo+1,none⟩=some (.slice RA rn rc)) (first | exact HP.o | exact iE M1.o.2.2 HP.o) (first
  |(go_at_call 95;refine(Hj.o _ HT0.o).mono ?_;rintro e w1 ⟨⟨A1,n1,c1⟩,rfl,m1⟩;have M1:=lh m1;clear m1))
 go_wp2_with fail;go_ret2;exact⟨⟨A1,n1,c1⟩,rfl,M1.o.1,M1.o.2.1,HT0.o.trans0 M1.o.2.2⟩
theorem yE(x:PC)(hk0:x.kind=6)(rv:Int × List (List VD))(L:Option Addr)(lc:Nat)(ta:SL × SL)(w:World)(hL:d9 kZ w L [ta]) (H:∀w',Touch [] w w'->Calls Tryz.prog 97 #[x.val,.agg #[.slice ta.1.A ta.1.n ta.1.c,.slice ta.2.A ta.2.n ta.2.c]] w' (eX rv w')) : Calls Tryz.prog 65 #[x.val,.slice L 1 lc] w (eX rv w):=by
 obtain⟨⟨SA,sn,sc⟩,⟨RA,rn,rc⟩⟩:=ta;obtain⟨k0,k1,⟨A2,n2,c2'⟩,⟨⟨ck,cn,⟨cvk,cvn,cvt⟩,cop⟩,CA,cnn,cc⟩,⟨NA,nn,nc⟩,⟨EA,en,ec⟩,⟨OA,ol,oc⟩,⟨GA,gn,gc⟩,⟨BA,bn,bc⟩,count⟩:=x;dsimp only at hk0 H;subst hk0;obtain⟨ad,bl,bo,rfl,hadd0,hc0⟩:=d9.cells hL 2 gi (by omega) 0 (by simp);have l0:=hc0 0 _ rfl;have l1:=hc0 1 _ rfl;simp only[Nat.zero_mul,Nat.add_zero] at hadd0 l0 l1;simp only[List.getElem_cons_zero] at l0 l1;have Hj:=lh H;simp only[PC.val] at *;obtain⟨W,hW⟩:∃W,W=w.alloc (.cells #[.int .i64 6,.string k1,.slice A2 n2 c2',.int .i64 ck,.string cn,.int .i64 cvk,.int .i64 cvn,.string cvt,.string cop,.slice CA cnn cc,.slice NA nn nc,.slice EA en ec,.slice OA ol oc,.slice GA gn gc,.slice BA bn bc,.int .i64 count] 49):=⟨_,rfl⟩;have t0:Touch [] w W:=hW ▸ (Touch.refl [] w).alloc _;have hb0:=hW ▸ ah w (.cells #[.int .i64 6,.string k1,.slice A2 n2 c2',.int .i64 ck,.string cn,.int .i64 cvk,.int .i64 cvn,.string cvt,.string cop,.slice CA cnn cc,.slice NA nn nc,.slice EA en ec,.slice OA ol oc,.slice GA gn gc,.slice BA bn bc,.int .i64 count] 49);have l0d:=t0.drew.cell l0 (by simp);have l1d:=t0.drew.cell l1 (by simp);obtain⟨p0,p1,p2,p3,p4,p5,p6,p7,p8,p9,p10,p11,p12,p13,p14,p15⟩:=fg ((Touch.refl [] W).drew.blk hb0 (by simp))
 have HP:Ga (W.drew.cell? ⟨w.heap.size,0,none⟩=some (.int .i64 6)/\W.drew.cell? ⟨w.heap.size,1,none⟩=some (.string k1)/\W.drew.cell? ⟨w.heap.size,2,none⟩=some (.slice A2 n2 c2')/\W.drew.cell? ⟨w.heap.size,3,none⟩=some (.int .i64 ck)/\W.drew.cell? ⟨w.heap.size,4,none⟩=some (.string cn)/\W.drew.cell? ⟨w.heap.size,5,none⟩=some (.int .i64 cvk)/\W.drew.cell? ⟨w.heap.size,6,none⟩=some (.int .i64 cvn)/\W.drew.cell? ⟨w.heap.size,7,none⟩=some (.string cvt)/\W.drew.cell? ⟨w.heap.size,8,none⟩=some (.string cop)/\W.drew.cell? ⟨w.heap.size,9,none⟩=some (.slice CA cnn cc)/\W.drew.cell? ⟨w.heap.size,10,none⟩=some (.slice NA nn nc)/\W.drew.cell? ⟨w.heap.size,11,none⟩=some (.slice EA en ec)/\W.drew.cell? ⟨w.heap.size,12,none⟩=some (.slice OA ol oc)/\W.drew.cell? ⟨w.heap.size,13,none⟩=some (.slice GA gn gc)/\W.drew.cell? ⟨w.heap.size,14,none⟩=some (.slice BA bn bc)/\W.drew.cell? ⟨w.heap.size,15,none⟩=some (.int .i64 count)/\W.drew.cell? ⟨bl,bo,none⟩=some (.slice SA sn sc)/\W.drew.cell? ⟨bl,bo+1,none⟩=some (.slice RA rn rc)):=lh ⟨p0,p1,p2,p3,p4,p5,p6,p7,p8,p9,p10,p11,p12,p13,p14,p15,l0d,l1d⟩;have HW:=lh hW;have HT0:=lh t0.drew;clear H hL hc0 hW t0 l0 l1 hb0 l0d l1d p0 p1 p2 p3 p4 p5 p6 p7 p8 p9 p10 p11 p12 p13 p14 p15;go_enter Tryz.func65,Tryz.ntmps65;go_wp2_with fail;rw[<- HW.o]
 go_region_held3 (λw'=>w'.cell? ⟨w.heap.size,0,none⟩=some (.int .i64 6)/\w'.cell? ⟨w.heap.size,1,none⟩=some (.string k1)/\w'.cell? ⟨w.heap.size,2,none⟩=some (.slice A2 n2 c2')/\w'.cell? ⟨w.heap.size,3,none⟩=some (.int .i64 ck)/\w'.cell? ⟨w.heap.size,4,none⟩=some (.string cn)/\w'.cell? ⟨w.heap.size,5,none⟩=some (.int .i64 cvk)/\w'.cell? ⟨w.heap.size,6,none⟩=some (.int .i64 cvn)/\w'.cell? ⟨w.heap.size,7,none⟩=some (.string cvt)/\w'.cell? ⟨w.heap.size,8,none⟩=some (.string cop)/\w'.cell? ⟨w.heap.size,9,none⟩=some (.slice CA cnn cc)/\w'.cell? ⟨w.heap.size,10,none⟩=some (.slice NA nn nc)/\w'.cell? ⟨w.heap.size,11,none⟩=some (.slice EA en ec)/\w'.cell? ⟨w.heap.size,12,none⟩=some (.slice OA ol oc)/\w'.cell? ⟨w.heap.size,13,none⟩=some (.slice GA gn gc)/\w'.cell? ⟨w.heap.size,14,none⟩=some (.slice BA bn bc)/\w'.cell? ⟨w.heap.size,15,none⟩=some (.int .i64 count)/\w'.cell? ⟨bl,bo,none⟩=some (.slice SA sn sc)/\w'.cell? ⟨bl,bo+1,none⟩=some (.slice RA rn rc)) (first | exact HP.o | exact iE M1.o.2.2 HP.o) (first
  |(go_at_call 97;refine(Hj.o _ HT0.o).mono ?_;rintro e w1 ⟨⟨A1,n1,c1⟩,rfl,m1⟩;have M1:=lh m1;clear m1))
 go_wp2_with fail;go_ret2;exact⟨⟨A1,n1,c1⟩,rfl,M1.o.1,M1.o.2.1,HT0.o.trans0 M1.o.2.2⟩
end
section
open Go.RowKit
def oh(cs:List CD)(o:ByteArray × Bool)(a b:List VD):Int:=let c:=eU (a.getD ((ef cs o.1).getD 0) ⟨0,0,ByteArray.empty⟩) (b.getD ((ef cs o.1).getD 0) ⟨0,0,ByteArray.empty⟩);if o.2 then -c else c
def fO(cs:List CD):List (ByteArray × Bool)->List VD->List VD->Int
 | [],_,_=>0
 |o:: os,a,b=>if oh cs o a b=0 then fO cs os a b else oh cs o a b
theorem yC{cs:List CD}{os:List (ByteArray × Bool)}{a b:List VD}{k:Nat}(h:k<os.length):fO cs (os.drop k) a b=if oh cs os[k] a b=0 then fO cs (os.drop (k+1)) a b else oh cs os[k] a b:=by rw[bj h];rfl
theorem zA(PB TB:Nat)(A B sA BA:Option Addr)(c1 c2 n m sc bn bc:Nat)(cs:List CD)(os:List (ByteArray × Bool))(l r:List VD)(hn:l.length=n)(hm:r.length=m)(hbn:os.length=bn)(w:World)(hp:w.cell? ⟨PB,14,none⟩=some (.slice BA bn bc))(ht':w.cell? ⟨TB,0,none⟩=some (.slice sA cs.length sc)) (hby:d9 pg w BA os) (hcol:em w sA cs) (h:eu w A l) (h2:eu w B r) (hl:n<=140737000000000) (hl2:m<=140737000000000) (hl3:cs.length<=140737000000000) (hl4:os.length<=140737000000000) (hin:∀o∈os,(ef cs o.1).getD 0<l.length/\(ef cs o.1).getD 0<r.length) : Calls Tryz.prog 142 #[.slice A n c1,.slice B m c2,.pointer (some ⟨PB,0,none⟩),.pointer (some ⟨TB,0,none⟩)] w λe w'=>e=.returned (.int .i64 (fO cs os l r))/\Touch [] w w':=by
 subst hn hm hbn;have Hp:=lh hp;have Ht:=lh ht';have Hin:=lh hin;clear hin;go_enter Tryz.func142,Tryz.ntmps142;go_wp2;go_loopw [15] (λi wr=>∃k:Nat,k<=os.length/\i=.int .i64 k/\Ga (fO cs os l r=fO cs (os.drop k) l r)/\Touch [] w wr) (λi _=>os.length-(intOf i).toNat)
 case atStart=>exact⟨0,by omega,rfl,lh rfl,Touch.refl _ _⟩
 case round =>
 obtain⟨k,hka,rfl,Ho,ht⟩:=hrel;have Hp2:wr.cell? ⟨PB,14,none⟩=some (.slice BA os.length bc):=ht.cell Hp.o (by simp);have Ht2:wr.cell? ⟨TB,0,none⟩=some (.slice sA cs.length sc):=ht.cell Ht.o (by simp);by_cases h1:k<os.length
 ·obtain⟨ad,b,off,rfl,hadd,hcell⟩:=d9.cells (hby.touch0 ht) 2 mJ (by omega) k h1;have hst:=yC (cs:=cs) (a:=l) (b:=r) h1;have hin:=Hin.o os[k] (am h1);have e0:=hcell 0 _ rfl;have e1:=hcell 1 _ rfl;obtain⟨o,ho⟩:∃o,o=os[k]:=⟨_,rfl⟩;rw[<- ho] at hst hin e0 e1;obtain⟨nm,dn⟩:=o;dsimp only at hin e0 e1;rw[aM] at e0;have hkI:(k:Int)<(os.length:Int):=by omega
  obtain⟨W,hW⟩:∃W,W=wr.alloc (.cells #[.string nm,.bool dn] 94):=⟨_,rfl⟩;have ta:Touch [] wr W:=hW ▸ (Touch.refl [] wr).alloc _;have Ht3:W.cell? ⟨TB,0,none⟩=some (.slice sA cs.length sc):=ta.cell Ht2 (by simp);have hbn':W.heap[wr.heap.size]?=some (.cells #[.string nm,.bool dn] 94 (0,0)):=hW ▸ ah wr (.cells #[.string nm,.bool dn] 94);have z0:W.cell? ⟨wr.heap.size,0,none⟩=some (.string nm):=d_ hbn' rfl;have z1:W.cell? ⟨wr.heap.size,1,none⟩=some (.bool dn):=d_ hbn' rfl;have hf:=fS sA sc cs.length cs rfl nm W (hcol.touch0 (ht.trans0 ta)) hl3;have Hf:=lh hf;have T0:=lh (ht.trans0 ta);have HB:=lh hbn';clear hf hbn' ta;subst hW;go_wp2_with (go_at_call 130;refine Hf.o.mono ?_;rintro e w1 ⟨rfl,t1⟩);have t2:=T0.o.trans0 t1;have hb2:=t1.blk HB.o (by simp);have z2:w1.cell? ⟨wr.heap.size,1,none⟩=some (.bool dn):=d_ hb2 rfl;unfold oh at hst;dsimp only at hst;obtain⟨i,hi⟩:∃i,i=(ef cs nm).getD 0:=⟨_,rfl⟩;rw[<- hi] at hin hst ⊢;obtain⟨adl,bl,offl,rfl,haddl,c0,c1,c2⟩:=(h.touch0 t2).at_ i hin.1;obtain⟨adr,br,offr,rfl,haddr,d0,d1,d2⟩:=(h2.touch0 t2).at_ i hin.2;rw[show l.getD i ⟨0,0,ByteArray.empty⟩=l[i]'hin.1 by simp[hin.1],show r.getD i ⟨0,0,ByteArray.empty⟩=r[i]'hin.2 by simp[hin.2]] at hst;obtain⟨x,hx⟩:∃x,x=l[i]'hin.1:=⟨_,rfl⟩;obtain⟨y,hy⟩:∃y,y=r[i]'hin.2:=⟨_,rfl⟩;rw[<- hx,<- hy] at hst;rw[<- hx] at c0 c1 c2;rw[<- hy] at d0 d1 d2;obtain⟨k1,n1,s1⟩:=x;obtain⟨k2,n2,s2⟩:=y;simp only at c0 c1 c2 d0 d1 d2;have hcv:=λw'=>lD ⟨k1,n1,s1⟩ ⟨k2,n2,s2⟩ w'
  simp only[VD.val] at hcv;obtain⟨q,hq⟩:∃q,q=eU ⟨k1,n1,s1⟩ ⟨k2,n2,s2⟩:=⟨_,rfl⟩;have hqb:=sP ⟨k1,n1,s1⟩ ⟨k2,n2,s2⟩;rw[<- hq] at hst hcv hqb;obtain⟨hqb1,hqb2⟩:=hqb;have Hcv:=lh hcv;have Hst:=lh hst;have HB2:=lh hb2;have hiL:(i:Int)<(l.length:Int):=by omega
  have hiR:(i:Int)<(r.length:Int):=by omega
  have hi0:(0:Int)<=(i:Int):=by omega
  have T2:=lh t2;clear hst hcv hx hy hq hi hin t1 t2 hb2;have c0:=TW.cell c0;have c1:=TW.cell c1;have c2:=TW.cell c2;have d0:=TW.cell d0;have d1:=TW.cell d1;have d2:=TW.cell d2;clear hp ht' Hp2 Ht2 e0 e1 Ht3 z0 z1 hby hcol h h2 ht T0 HB;go_wp2_with fail;refine eh w1 (Touch.refl _ _) (by kernel_rfl) (by kernel_rfl) ?_;repeat (go_big_quiet_step ((go_at_call 112;exact Calls.tw _ (Hcv.o _))))
  refine aS ?_;rintro _ ⟨x9,rfl⟩;have z9:x9.w.cell? ⟨wr.heap.size,1,none⟩=some (.bool dn):=x9.t.cell z2 (by simp);have T9:=lh (T2.o.trans0 x9.t);clear z2 c0 c1 c2 d0 d1 d2;cases dn with
  |true =>
   have Hst2:=lh (show fO cs (os.drop k) l r=if -q=0 then fO cs (os.drop (k+1)) l r else -q from Hst.o)
   by_cases h0:q=0
   ·subst h0;have Hq:=lh (show fO cs os l r=fO cs (os.drop (k+1)) l r by rw[Ho.o,Hst2.o];rfl);go_wp2_with fail;go_roundw
    case rel=>exact⟨k+1,by omega,by go_num,Hq,T9.o⟩
    case measure=>simp[intOf];omega
   ·have Hq:=lh (show fO cs os l r = -q by rw[Ho.o,Hst2.o,ab (by omega)]);have h0':¬(-q=0):=by omega
    go_wp2_with fail;go_ret;exact⟨by rw[Hq.o];go_num,T9.o⟩
  |false =>
   have Hst2:=lh (show fO cs (os.drop k) l r=if q=0 then fO cs (os.drop (k+1)) l r else q from Hst.o)
   by_cases h0:q=0
   ·subst h0;have Hq:=lh (show fO cs os l r=fO cs (os.drop (k+1)) l r by rw[Ho.o,Hst2.o];rfl);go_wp2_with fail;go_roundw
    case rel=>exact⟨k+1,by omega,by go_num,Hq,T9.o⟩
    case measure=>simp[intOf];omega
   ·have Hq:=lh (show fO cs os l r=q by rw[Ho.o,Hst2.o,ab h0]);go_wp2_with fail;go_ret;exact⟨by rw[Hq.o];rfl,T9.o⟩
 have hkI:¬(k:Int)<(os.length:Int):=by omega
 obtain rfl:k=os.length:=by omega
 go_wp2;go_ret;exact⟨by rw[Ho.o,bY];rfl,ht⟩
end
section
open Go.RowKit
theorem E6(cs:List CD)(o:ByteArray × Bool)(a b:List VD):oh cs o b a = -oh cs o a b:=by unfold oh;dsimp only;rw[lY (a.getD ((ef cs o.1).getD 0) ⟨0,0,ByteArray.empty⟩) (b.getD ((ef cs o.1).getD 0) ⟨0,0,ByteArray.empty⟩)];split<;>omega
theorem Fn(cs:List CD)(o:ByteArray × Bool)(a b c:List VD):Tr (oh cs o a b) (oh cs o b c) (oh cs o a c):=by
 unfold oh;dsimp only;obtain⟨x,hx⟩:∃x,x=a.getD ((ef cs o.1).getD 0) ⟨0,0,ByteArray.empty⟩:=⟨_,rfl⟩;obtain⟨y,hy⟩:∃y,y=b.getD ((ef cs o.1).getD 0) ⟨0,0,ByteArray.empty⟩:=⟨_,rfl⟩;obtain⟨z,hz⟩:∃z,z=c.getD ((ef cs o.1).getD 0) ⟨0,0,ByteArray.empty⟩:=⟨_,rfl⟩;rw[<- hx,<- hy,<- hz];cases o.2
 ·exact vW x y z
 have h:=vW z y x;rw[lY x y,lY y z,lY x z] at h;intro h1 h2;have:=h h2 h1;exact⟨this.1,this.2.trans And.comm⟩
theorem pW(cs:List CD):∀(os:List (ByteArray × Bool))(a b:List VD),fO cs os b a = -fO cs os a b
 | [],_,_=>by simp[fO]
 |o:: os,a,b=>by
  rw[fO,fO,pW cs os a b,E6 cs o a b];by_cases h:oh cs o a b=0
  ·rw[ae (by omega),ae h]
  rw[ab (by omega),ab h]
theorem vK(cs:List CD):∀(os:List (ByteArray × Bool))(a b c:List VD),Tr (fO cs os a b) (fO cs os b c) (fO cs os a c)
 | [],_,_,_=>λ_ _=>by simp[fO]
 |o:: os,a,b,c=>by rw[fO,fO,fO];exact(Fn cs o a b c).lex (vK cs os a b c)
def pk(cs:List CD)(os:List (ByteArray × Bool))(rows:List (List VD))(x y:Nat):Int:=fO cs os (rows.getD x []) (rows.getD y [])
def mq(cs:List CD)(os:List (ByteArray × Bool))(rows:List (List VD))(x:Nat):Nat:=oX (pk cs os rows) (rows.length+1) x
theorem sF(cs:List CD)(os:List (ByteArray × Bool))(rows:List (List VD))(x y:Nat):pk cs os rows x y<0 ↔ mq cs os rows x<mq cs os rows y:=by
 refine vy (R:=pk cs os rows) (λx y=>pW cs os _ _) (λx y z=>vK cs os _ _ _) (λx=> ?_) x y;by_cases h:x<rows.length
 ·exact⟨x,by omega,λ_=>rfl⟩
 refine⟨rows.length,by omega,λy=> ?_⟩;unfold pk;rw[bG,bT (aL _),bG (l:=rows) (i:=x),bT (by omega)]
structure ByAt (PB TB:Nat) (cs:List CD) (os:List (ByteArray × Bool)) (w:World):Prop where
 by_:∃BA bc,w.cell? ⟨PB,14,none⟩=some (.slice BA os.length bc)/\d9 pg w BA os
 cols:∃sA sc,w.cell? ⟨TB,0,none⟩=some (.slice sA cs.length sc)/\em w sA cs
def jl{α:Type}(z:α)(l:List α)(g:Nat->Nat):List α:=(List.range l.length).map λk=>l.getD (g k) z
theorem jK{α:Type}(z:α)(l:List α)(g:Nat->Nat):(jl z l g).length=l.length:=by simp[jl]
theorem wb(args:Array Value)(wk:World):(callFunc 142 args).run Tryz.prog wk=.ok (.enter 142 args) wk:=by kernel_rfl
theorem zz(PB TB:Nat)(cs:List CD)(os:List (ByteArray × Bool))(B:Option Addr)(c n:Nat)(sl:List SL)(rows:List (List VD))(hn:rows.length=n)(hl:n<=100000)(hin:∀ r∈rows,r.length<=140737000000000/\∀ o∈os,(ef cs o.1).getD 0<r.length)(hl3:cs.length<=140737000000000)(hl4:os.length<=140737000000000) (w:World) (h1:sl.length=rows.length) (h2:ep 33 1 eT w B c sl) (hk:∀wr,Touch (ed B) w wr->fX wr sl rows/\ByAt PB TB cs os wr) : Calls Tryz.prog 102 #[.slice B n c,.func (.func 142) #[] #[.pointer (some ⟨PB,0,none⟩),.pointer (some ⟨TB,0,none⟩)]] w λe w'=> e=.returned (.tuple #[])/\∃g,fJ (mq cs os rows) g 0 rows.length/\ep 33 1 eT w' B c (jl ⟨none,0,0⟩ sl g)/\fX w' (jl ⟨none,0,0⟩ sl g) (jl [] rows g)/\Touch (ed B) w w':=by
 subst hn;by_cases h0:rows.length=0
 ·obtain rfl:rows=[]:=aV h0;obtain rfl:sl=[]:=aV h1;refine(ur B c _ w).mono ?_;rintro e w1 ⟨rfl,rfl⟩;exact⟨rfl,λk=>k,⟨λi j h1 h2 h3=>absurd (show j<0 from h3) (by omega),λk=>⟨λ⟨i,_,h,_⟩=>absurd (show i<0 from h) (by omega),λh=>absurd (show k<0 from h.2) (by omega)⟩⟩,h2,(hk _ (Touch.refl _ _)).1,Touch.refl _ _⟩
 rcases h2.head with ⟨q1,q2,q3⟩ | ⟨G,rfl⟩
 ·exact absurd (by rw[<- h1,q2];rfl) h0
 have hget:∀x(hx:x<sl.length),sl.getD x ⟨none,0,0⟩=sl[x]:=λx hx=>by simp[hx]
 have hgr:∀x(hx:x<rows.length),rows.getD x []=rows[x]:=λx hx=>by simp[hx]
 have hat:∀wr,Touch [G] w wr->∀x(hx:x<rows.length),(sl.getD x ⟨none,0,0⟩).n=(rows.getD x []).length/\eu wr (sl.getD x ⟨none,0,0⟩).A (rows.getD x []):=λwr ht x hx=>by
  have hx1:x<sl.length:=by omega
  rw[hget x hx1,hgr x hx];exact(hk wr ht).1.2 x hx1 hx
 have hC:ll 142 [.pointer (some ⟨PB,0,none⟩),.pointer (some ⟨TB,0,none⟩)] (λx=>sl.getD x ⟨none,0,0⟩) (pk cs os rows) G rows.length w:=by intro wr ht x y hx hy;obtain⟨a1,a2⟩:=hat wr ht x hx;obtain⟨b1,b2⟩:=hat wr ht y hy;have k1:=hin _ (am hx);have k2:=hin _ (am hy);rw[<- hgr x hx] at k1;rw[<- hgr y hy] at k2;obtain⟨⟨BA,bc,p1,p2⟩,⟨sA,sc,p3,p4⟩⟩:=(hk wr ht).2;exact zA PB TB _ _ sA BA _ _ _ _ sc _ bc cs os _ _ a1.symm b1.symm rfl wr p1 p3 p2 p4 a2 b2 (by rw[a1];exact k1.1) (by rw[b1];exact k2.1) hl3 hl4 (λo ho=>⟨k1.2 o ho,k2.2 o ho⟩)
 have hR:fc (λx=>sl.getD x ⟨none,0,0⟩) w G c rows.length (λk=>k):=by unfold fc;rw[mx sl _ _ h1];exact h2
 refine(nB 142 _ wb G c rows.length (by omega) hl _ _ _ (sF cs os rows) w hC w hR (Touch.refl _ _)).mono ?_;rintro e w1 ⟨rfl,g,hr,hg,ht⟩;have hgn:∀i,i<rows.length->g i<rows.length:=λi hi=>((hg.2 (g i)).1 ⟨i,aY _,hi,rfl⟩).2;refine⟨rfl,g,hg,by unfold jl;rw[h1];exact hr,⟨by rw[jK,jK,h1],λi a b=> ?_⟩,ht⟩;have hi:i<rows.length:=by rw[jK] at b;exact b
 have:=hat w1 ht (g i) (hgn i hi);simpa [jl] using this
end
section
open Go.RowKit
def fH{α:Type}(g:α->Int):List α->Int
 | []=>0
 |a:: r=>if g a=0 then fH g r else g a
theorem iI{α:Type}{g:α->Int}:∀{l:List α},(∀v∈l,g v=0)->fH g l=0
 | [],_=>rfl
 |v:: l,h=>by rw[fH,ae (h v aK)];exact iI λx hx=>h x (aP _ hx)
theorem jG{α:Type}{g:α->Int}:∀{l:List α}{j:Nat}(hj:j<l.length),(∀i(hi:i<j),g l[i]=0)->g l[j]≠0->fH g l=g l[j]
 |v:: l,0,_,_,h=>by have h:g v≠0:=h;rw[fH,ab h];rfl
 |v:: l,j+1,hj,h0,h=>by have hz:g v=0:=h0 0 (by omega);rw[fH,ae hz];exact jG (by simpa using hj) (λi hi=>by have:=h0 (i+1) (by omega);simpa using this) (by simpa using h)
end
section
open Go.RowKit
structure RU where
 name:ByteArray
 args:List Int
 o:Int
def fC(kind:Int):List RU:=
 if kind=3 then [⟨S [45],[1],1⟩,⟨S [110,111,116],[0],1⟩]
 else if kind=4 then [⟨S [43],[1,1],1⟩,⟨S [45],[1,1],1⟩,⟨S [42],[1,1],1⟩,⟨S [47],[1,1],1⟩,⟨S [37],[1,1],1⟩,
  ⟨S [61],[-1, -1],1⟩,⟨S [33,61],[-1, -1],1⟩,⟨S [60],[-1, -1],1⟩,⟨S [60,61],[-1, -1],1⟩,⟨S [62],[-1, -1],1⟩,⟨S [62,61],[-1, -1],1⟩,
  ⟨S [97,110,100],[0,0],1⟩,⟨S [111,114],[0,0],1⟩]
 else if kind=5 then [⟨S [108,101,110],[2],1⟩,⟨S [97,98,115],[1],1⟩,⟨S [105,115,110,117,108,108],[0],1⟩,⟨S [99,97,116],[2,2],2⟩,
  ⟨S [101,105,116,104,101,114],[-1, -1], -1⟩,⟨S [105,102],[0, -1, -1], -1⟩]
 else []
def nJ(d:ND):ByteArray:=if d.kind=5 then d.name else d.op
def oC(d:ND):Option Nat:=(fC d.kind).findIdx? λr=>decide (r.name=nJ d)
def jd(d:ND):Option RU:=match oC d with | some k=>(fC d.kind)[k]? | none=>none
def Cf(o:Option Nat):Int:=match o with | some k=>(k:Int) | none => -1
def oq(v:VD):Bool:=decide (v.kind=0)&&(decide (v.num=0)&&decide (v.text=S []))
def gL(d:ND)(n:Nat):Bool:=
 if d.kind=1 then decide (d.op=S [])&&(decide (n=0)&&oq d.v)
 else if d.kind=2 then decide (d.name=S [])&&(decide (d.op=S [])&&(decide (n=0)&&d.v.right))
 else (match jd d with | some r=>decide (n=r.args.length) | none=>false)&&(oq d.v&&(if d.kind=5 then decide (d.op=S []) else decide (d.name=S [])))
def fR:List Int->List Int->Int->Int × Bool
 |w:: ws,t:: ts,both =>
  if t=0\/w=0 then fR ws ts both
  else if w ≠ -1/\w≠t\/w = -1/\both≠0/\both≠t then (0,false)
  else if w = -1 then fR ws ts t else fR ws ts both
 | _,_,both=>(both,true)
def rg(cs:List CD)(s:ByteArray):Option Int:=match ef cs s with | some k=>cs[k]?.map CD.typ | none=>none
def eV(cs:List CD):(n:Nat)->Nat->TX n->Int × Int
 | 0,_,_=>(0,0)
 |n+1,d,e =>
  if 32<d then (0,52)
  else if gL e.1 e.2.length=false then (0,20)
  else if e.1.kind=2 then (e.1.v.kind,0)
  else if e.1.kind=1 then (match rg cs e.1.name with | some t=>(t,0) | none=>(0,13))
  else match e.2.find? λa=>decide ((eV cs n (d+1) a).2≠0) with
   |some a=>(0,(eV cs n (d+1) a).2)
   |none=>match jd e.1 with
    |none=>(0,20)
    |some r=>match fR r.args (e.2.map λa=>(eV cs n (d+1) a).1) 0 with
     |(both,true)=>if r.o = -1 then (both,0) else (r.o,0)
     |(_,false)=>(0,12)
def gu(cs:List CD)(n:Nat)(e:TX n):Int × Int:=
 if eB cs=0 then (if 256<fj n e then (0,31) else eV cs n 1 e) else (0,eB cs)
def eQ:VD:=⟨0,0,S []⟩
def ofV(n:Int):VD:=⟨1,n,S []⟩
def iL(b:Bool):VD:=if b=true then ofV 1 else ofV 0
def VD.tru(v:VD):Bool:=decide (v.kind=1)&&decide (v.num≠0)
end
section
open Go.RowKit
theorem fN{X:World}{R:Nat}{t:TypeId}{a0 a1 a2:Value}(h:X.heap[R]?=some (.cells #[a0,a1,a2] t (0,0)))(v0 v1 v2:Value):
  (((X.setCell ⟨R,0,none⟩ v0).setCell ⟨R,1,none⟩ v1).setCell ⟨R,2,none⟩ v2).heap[R]?=some (.cells #[v0,v1,v2] t (0,0))/\Touch [R] X (((X.setCell ⟨R,0,none⟩ v0).setCell ⟨R,1,none⟩ v1).setCell ⟨R,2,none⟩ v2):=
 ⟨fD (fD (fD h 0 v0) 1 v1) 2 v2,(((Touch.refl [R] X).setCell (p:=⟨R,0,none⟩) (.inl (by simp)) v0).setCell (p:=⟨R,1,none⟩) (.inl (by simp)) v1).setCell (p:=⟨R,2,none⟩) (.inl (by simp)) v2⟩
theorem ee{w:World}{R:Nat}{a b c:Value}{t:TypeId}(h:w.heap[R]?=some (.cells #[a,b,c] t (0,0))):w.cell? ⟨R,0,none⟩=some a/\w.cell? ⟨R,1,none⟩=some b/\w.cell? ⟨R,2,none⟩=some c /\
  w.frozen? ⟨R,0,none⟩=false/\w.frozen? ⟨R,1,none⟩=false/\w.frozen? ⟨R,2,none⟩=false:=
 ⟨d_ h rfl,d_ h rfl,d_ h rfl,by simp[World.frozen?,h],by simp[World.frozen?,h],by simp[World.frozen?,h]⟩
theorem mR(n:Int)(w:World):Calls Tryz.prog 11 #[.int .i64 n] w λe w'=>e=.returned (ofV n).val/\Touch [] w w':=by dsimp only[VD.val,ofV];go_enter Tryz.func11,Tryz.ntmps11;go_wp2_with fail;exact aG (ci rfl _ _ w.heap.size _ _ _ _ rfl (ah w _) bA rfl rfl) rfl ⟨rfl,(Touch.refl _ _).alloc _⟩
theorem kY(w:World):Calls Tryz.prog 173 #[] w λe w'=>e=.returned eQ.val/\Touch [] w w':=by dsimp only[VD.val,eQ];go_enter Tryz.func173,Tryz.ntmps173;go_wp2_with fail;exact aG (ci rfl _ _ w.heap.size _ _ _ _ rfl (ah w _) bA rfl rfl) rfl ⟨rfl,(Touch.refl _ _).alloc _⟩
theorem DG(s:ByteArray)(w:World):Calls Tryz.prog 185 #[.string s] w λe w'=>e=.returned (VD.val ⟨2,0,s⟩)/\Touch [] w w':=by dsimp only[VD.val];go_enter Tryz.func185,Tryz.ntmps185;go_wp2_with fail;exact aG (ci rfl _ _ w.heap.size _ _ _ _ rfl (ah w _) bA rfl rfl) rfl ⟨rfl,(Touch.refl _ _).alloc _⟩
theorem ow(v:VD)(w:World):Calls Tryz.prog 132 #[v.val] w λe w'=>e=.returned (.bool v.tru)/\Touch [] w w':=by
 obtain⟨k,n,s⟩:=v;dsimp only[VD.val];have t0:=(Touch.refl [] w).alloc (.cells #[.int .i64 k,.int .i64 n,.string s] 31);by_cases h1:k=1
 ·have hk:(k==1)=true:=by simpa using h1
  by_cases h0:n=0
  ·have hn:(n != 0)=false:=by simpa using h0
   have Hf:=lh (show VD.tru ⟨k,n,s⟩=false by simp[VD.tru,h0]);clear h0 h1;go_enter Tryz.func132,Tryz.ntmps132;go_wp2_with fail;go_ret;exact⟨by rw[Hf.o];rfl,t0⟩
  have hn:(n != 0)=true:=by simpa using h0
  have Hf:=lh (show VD.tru ⟨k,n,s⟩=true by simp[VD.tru,h0,h1]);clear h0 h1;go_enter Tryz.func132,Tryz.ntmps132;go_wp2_with fail;go_ret;exact⟨by rw[Hf.o];rfl,t0⟩
 have hk:(k==1)=false:=by simpa using h1
 have Hf:=lh (show VD.tru ⟨k,n,s⟩=false by simp[VD.tru,h1]);clear h1;go_enter Tryz.func132,Tryz.ntmps132;go_wp2_with fail;go_ret;exact⟨by rw[Hf.o];rfl,t0⟩
theorem nU(b:Bool)(w:World):Calls Tryz.prog 183 #[.bool b] w λe w'=>e=.returned (iL b).val/\Touch [] w w':=by
 have h1:=lh λw'=>mR 1 w';have h0:=lh λw'=>mR 0 w';simp only[VD.val,ofV] at h1 h0;have t0:=(Touch.refl [] w).alloc (.cells #[.int .i64 0,.int .i64 0,.string ⟨#[]⟩] 31);have hb:=ah w (.cells #[.int .i64 0,.int .i64 0,.string ⟨#[]⟩] 31);have Hb:=lh hb;clear hb;cases b
 ·simp only[iL,VD.val,ofV];go_enter Tryz.func183,Tryz.ntmps183;go_wp2_with fail;refine(h0.o _).mono ?_;rintro e w1 ⟨rfl,t1⟩;have hb1:=t1.blk Hb.o (by simp);obtain⟨c0,c1,c2,f0,f1,f2⟩:=ee hb1;go_wp2_with fail;obtain⟨q1,q2⟩:=fN hb1 (.int .i64 1) (.int .i64 0) (.string (S []));exact aG (ci rfl _ _ w.heap.size _ _ _ _ rfl q1 bA rfl rfl) rfl ⟨rfl,(t0.trans0 t1).trans q2 (λb hb=>.inr (by simp at hb;omega))⟩
 simp only[iL,VD.val,ofV];go_enter Tryz.func183,Tryz.ntmps183;go_wp2_with fail;refine(h1.o _).mono ?_;rintro e w1 ⟨rfl,t1⟩;have hb1:=t1.blk Hb.o (by simp);obtain⟨c0,c1,c2,f0,f1,f2⟩:=ee hb1;go_wp2_with fail;obtain⟨q1,q2⟩:=fN hb1 (.int .i64 1) (.int .i64 1) (.string (S []));exact aG (ci rfl _ _ w.heap.size _ _ _ _ rfl q1 bA rfl rfl) rfl ⟨rfl,(t0.trans0 t1).trans q2 (λb hb=>.inr (by simp at hb;omega))⟩
end
end Go.Proofs.YtafoklilkdnepaaGreatDoor
