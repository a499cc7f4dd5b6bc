/- Part 21 of the texts of this proof, one behind the other. No condition beyond those that its theorems state. -/
import Derived.Test.YtafoklilkdnepaaGreatDoorRe20
set_option linter.all false
set_option maxRecDepth 40000
set_option maxHeartbeats 25600000
namespace Go.Proofs.YtafoklilkdnepaaGreatDoor
section
open Go.RowKit
def lA(w:World)(x:XC)(a:List CD)(r:Int × Int):Prop:=∀w' A c,Touch [] w w'->em w' A a->Calls Tryz.prog 68 #[x.val,.slice A a.length c] w' λe w''=>e=.returned (.tuple #[.int .i64 r.1,.int .i64 r.2])/\Touch [] w' w''
theorem lA.touch0{w w':World}{x:XC}{a:List CD}{r:Int × Int}(h:lA w x a r)(t:Touch [] w w'):lA w' x a r:=λw'' A c t2 hc=>h w'' A c (t.trans0 t2) hc
theorem lA.at_{w:World}{x:XC}{a:List CD}{r:Int × Int}(h:lA w x a r){w':World}(t:Touch [] w w'){A:Option Addr}(hc:em w' A a)(c:Nat):lq w' A c a.length x r:=λw'' t2=>h w'' A c (t.trans0 t2) (hc.touch0 t2)
theorem vG(x:PC)(hk0:x.kind=2)(L:Option Addr)(lc:Nat)(s1:SL)(a:List CD)(h1:s1.n=a.length)(r:Int × Int)(w:World)(hL:d9 eT w L [s1])(hE:lq w s1.A s1.c s1.n x.cond r): Calls Tryz.prog 64 #[x.val,.slice L 1 lc] w λe w'=>e=.returned (.tuple #[.slice s1.A s1.n s1.c,.int .i64 r.2])/\Touch [] w w':=by
 obtain⟨SA,sn,sc⟩:=s1;dsimp only at *;subst h1;obtain⟨k0,k1,⟨A2,n2,c2'⟩,⟨⟨ck,cn,⟨cvk,cvn,cvt⟩,cop⟩,CA,cnn,cc⟩,⟨NA,nn,nc⟩,⟨EA,en,ec⟩,⟨OA,ol,oc⟩,⟨GA,gn,gc⟩,⟨BA,bn,bc⟩,count⟩:=x;dsimp only at hk0 hE;subst hk0;obtain⟨ad,bl,bo,rfl,hadd0,hc0⟩:=d9.cells hL 1 eC (by omega) 0 (by simp);have l0:=hc0 0 _ rfl;simp only[Nat.zero_mul,Nat.add_zero] at hadd0 l0;simp only[List.getElem_cons_zero] at l0;have Het:=lh hE;simp only[XC.val,lq] at Het;simp only[PC.val] at *;obtain⟨r1,r2⟩:=r;dsimp only at Het ⊢;obtain⟨W,hW⟩:∃W,W=w.alloc (.cells #[.int .i64 2,.string k1,.slice A2 n2 c2',.int .i64 ck,.string cn,.int .i64 cvk,.int .i64 cvn,.string cvt,.string cop,.slice CA cnn cc,.slice NA nn nc,.slice EA en ec,.slice OA ol oc,.slice GA gn gc,.slice BA bn bc,.int .i64 count] 49):=⟨_,rfl⟩;have t0:Touch [] w W:=hW ▸ (Touch.refl [] w).alloc _;have hb0:=hW ▸ ah w (.cells #[.int .i64 2,.string k1,.slice A2 n2 c2',.int .i64 ck,.string cn,.int .i64 cvk,.int .i64 cvn,.string cvt,.string cop,.slice CA cnn cc,.slice NA nn nc,.slice EA en ec,.slice OA ol oc,.slice GA gn gc,.slice BA bn bc,.int .i64 count] 49);have l0d:=t0.drew.cell l0 (by simp);obtain⟨p0,p1,p2,p3,p4,p5,p6,p7,p8,p9,p10,p11,p12,p13,p14,p15⟩:=fg ((Touch.refl [] W).drew.blk hb0 (by simp))
 have HP:Ga (W.drew.cell? ⟨w.heap.size,0,none⟩=some (.int .i64 2)/\W.drew.cell? ⟨w.heap.size,1,none⟩=some (.string k1)/\W.drew.cell? ⟨w.heap.size,2,none⟩=some (.slice A2 n2 c2')/\W.drew.cell? ⟨w.heap.size,3,none⟩=some (.int .i64 ck)/\W.drew.cell? ⟨w.heap.size,4,none⟩=some (.string cn)/\W.drew.cell? ⟨w.heap.size,5,none⟩=some (.int .i64 cvk)/\W.drew.cell? ⟨w.heap.size,6,none⟩=some (.int .i64 cvn)/\W.drew.cell? ⟨w.heap.size,7,none⟩=some (.string cvt)/\W.drew.cell? ⟨w.heap.size,8,none⟩=some (.string cop)/\W.drew.cell? ⟨w.heap.size,9,none⟩=some (.slice CA cnn cc)/\W.drew.cell? ⟨w.heap.size,10,none⟩=some (.slice NA nn nc)/\W.drew.cell? ⟨w.heap.size,11,none⟩=some (.slice EA en ec)/\W.drew.cell? ⟨w.heap.size,12,none⟩=some (.slice OA ol oc)/\W.drew.cell? ⟨w.heap.size,13,none⟩=some (.slice GA gn gc)/\W.drew.cell? ⟨w.heap.size,14,none⟩=some (.slice BA bn bc)/\W.drew.cell? ⟨w.heap.size,15,none⟩=some (.int .i64 count)/\W.drew.cell? ⟨bl,bo,none⟩=some (.slice SA a.length sc)):=lh ⟨p0,p1,p2,p3,p4,p5,p6,p7,p8,p9,p10,p11,p12,p13,p14,p15,l0d⟩;have HW:=lh hW;have HT0:=lh t0.drew;have HQ:=lh t0;clear hE hL hc0 l0 hW t0 hb0 l0d p0 p1 p2 p3 p4 p5 p6 p7 p8 p9 p10 p11 p12 p13 p14 p15;go_enter Tryz.func64,dU;go_wp2_with fail;rw[<- HW.o]
 go_region_held3 (λw'=>w'.cell? ⟨w.heap.size,0,none⟩=some (.int .i64 2)/\w'.cell? ⟨w.heap.size,1,none⟩=some (.string k1)/\w'.cell? ⟨w.heap.size,2,none⟩=some (.slice A2 n2 c2')/\w'.cell? ⟨w.heap.size,3,none⟩=some (.int .i64 ck)/\w'.cell? ⟨w.heap.size,4,none⟩=some (.string cn)/\w'.cell? ⟨w.heap.size,5,none⟩=some (.int .i64 cvk)/\w'.cell? ⟨w.heap.size,6,none⟩=some (.int .i64 cvn)/\w'.cell? ⟨w.heap.size,7,none⟩=some (.string cvt)/\w'.cell? ⟨w.heap.size,8,none⟩=some (.string cop)/\w'.cell? ⟨w.heap.size,9,none⟩=some (.slice CA cnn cc)/\w'.cell? ⟨w.heap.size,10,none⟩=some (.slice NA nn nc)/\w'.cell? ⟨w.heap.size,11,none⟩=some (.slice EA en ec)/\w'.cell? ⟨w.heap.size,12,none⟩=some (.slice OA ol oc)/\w'.cell? ⟨w.heap.size,13,none⟩=some (.slice GA gn gc)/\w'.cell? ⟨w.heap.size,14,none⟩=some (.slice BA bn bc)/\w'.cell? ⟨w.heap.size,15,none⟩=some (.int .i64 count)/\w'.cell? ⟨bl,bo,none⟩=some (.slice SA a.length sc)) (first | exact HP.o | exact pU HT1.o HP.o) (first
  |(go_at_call 68;refine(Het.o _ HT0.o).mono ?_;rintro e w1 ⟨rfl,t1⟩;have HT1:=lh t1;clear t1))
 have z0:=(pU HT1.o HP.o).2.2.2.2.2.2.2.2.2.2.2.2.2.2.2.2;go_wp2_with fail;go_ret2;exact⟨rfl,HT0.o.trans0 HT1.o⟩
theorem wW(x:PC)(hk0:x.kind=3)(names:List ByteArray)(xs:List XC)(ets:List (Int × Int))(hnn:x.names.n=names.length)(hen:x.exprs.n=xs.length)(hle:ets.length=xs.length)(hln:names.length<=100000)(hlx:xs.length<=100000)(L:Option Addr)(lc:Nat)(s1:SL)(a:List CD)(h1:s1.n=a.length)(w:World) (hL:d9 eT w L [s1]) (hr:d9 gD w x.names.A names) (hx:d9 iX w x.exprs.A xs) (hE:∀i(h1:i<xs.length)(h2:i<ets.length),lq w s1.A s1.c s1.n xs[i] ets[i]) : Calls Tryz.prog 64 #[x.val,.slice L 1 lc] w (fB (kh names ets) w):=by
 obtain⟨SA,sn,sc⟩:=s1;dsimp only at *;subst h1;obtain⟨k0,k1,⟨A2,n2,c2'⟩,⟨⟨ck,cn,⟨cvk,cvn,cvt⟩,cop⟩,CA,cnn,cc⟩,⟨NA,nn,nc⟩,⟨EA,en,ec⟩,⟨OA,ol,oc⟩,⟨GA,gn,gc⟩,⟨BA,bn,bc⟩,count⟩:=x;dsimp only at hk0 hnn hen hr hx;subst hk0;obtain⟨ad,bl,bo,rfl,hadd0,hc0⟩:=d9.cells hL 1 eC (by omega) 0 (by simp);have l0:=hc0 0 _ rfl;simp only[Nat.zero_mul,Nat.add_zero] at hadd0 l0;simp only[List.getElem_cons_zero] at l0;have Hgs:=lh λw'(t:Touch [] w w')=>sE ⟨3,k1,⟨A2,n2,c2'⟩,⟨⟨ck,cn,⟨cvk,cvn,cvt⟩,cop⟩,CA,cnn,cc⟩,⟨NA,nn,nc⟩,⟨EA,en,ec⟩,⟨OA,ol,oc⟩,⟨GA,gn,gc⟩,⟨BA,bn,bc⟩,count⟩ names xs ets hnn hen hle SA sc a.length hln hlx w' (d9.touch0 hr t) (d9.touch0 hx t) (λi h1 h2 w'' t2=>hE i h1 h2 w'' (t.trans0 t2));simp only[PC.val] at *;obtain⟨V,hV⟩:∃V,V=kh names ets:=⟨_,rfl⟩;rw[<- hV] at Hgs ⊢;obtain⟨W,hW⟩:∃W,W=w.alloc (.cells #[.int .i64 3,.string k1,.slice A2 n2 c2',.int .i64 ck,.string cn,.int .i64 cvk,.int .i64 cvn,.string cvt,.string cop,.slice CA cnn cc,.slice NA nn nc,.slice EA en ec,.slice OA ol oc,.slice GA gn gc,.slice BA bn bc,.int .i64 count] 49):=⟨_,rfl⟩;have t0:Touch [] w W:=hW ▸ (Touch.refl [] w).alloc _;have hb0:=hW ▸ ah w (.cells #[.int .i64 3,.string k1,.slice A2 n2 c2',.int .i64 ck,.string cn,.int .i64 cvk,.int .i64 cvn,.string cvt,.string cop,.slice CA cnn cc,.slice NA nn nc,.slice EA en ec,.slice OA ol oc,.slice GA gn gc,.slice BA bn bc,.int .i64 count] 49);have l0d:=t0.drew.cell l0 (by simp)
 obtain⟨p0,p1,p2,p3,p4,p5,p6,p7,p8,p9,p10,p11,p12,p13,p14,p15⟩:=fg ((Touch.refl [] W).drew.blk hb0 (by simp));have HP:Ga (W.drew.cell? ⟨w.heap.size,0,none⟩=some (.int .i64 3)/\W.drew.cell? ⟨w.heap.size,1,none⟩=some (.string k1)/\W.drew.cell? ⟨w.heap.size,2,none⟩=some (.slice A2 n2 c2')/\W.drew.cell? ⟨w.heap.size,3,none⟩=some (.int .i64 ck)/\W.drew.cell? ⟨w.heap.size,4,none⟩=some (.string cn)/\W.drew.cell? ⟨w.heap.size,5,none⟩=some (.int .i64 cvk)/\W.drew.cell? ⟨w.heap.size,6,none⟩=some (.int .i64 cvn)/\W.drew.cell? ⟨w.heap.size,7,none⟩=some (.string cvt)/\W.drew.cell? ⟨w.heap.size,8,none⟩=some (.string cop)/\W.drew.cell? ⟨w.heap.size,9,none⟩=some (.slice CA cnn cc)/\W.drew.cell? ⟨w.heap.size,10,none⟩=some (.slice NA nn nc)/\W.drew.cell? ⟨w.heap.size,11,none⟩=some (.slice EA en ec)/\W.drew.cell? ⟨w.heap.size,12,none⟩=some (.slice OA ol oc)/\W.drew.cell? ⟨w.heap.size,13,none⟩=some (.slice GA gn gc)/\W.drew.cell? ⟨w.heap.size,14,none⟩=some (.slice BA bn bc)/\W.drew.cell? ⟨w.heap.size,15,none⟩=some (.int .i64 count)/\W.drew.cell? ⟨bl,bo,none⟩=some (.slice SA a.length sc)):=lh ⟨p0,p1,p2,p3,p4,p5,p6,p7,p8,p9,p10,p11,p12,p13,p14,p15,l0d⟩;have HW:=lh hW;have HT0:=lh t0.drew;have HQ:=lh t0;clear hnn hen hle hr hx hE hL hc0 hV l0 hW t0 hb0 l0d p0 p1 p2 p3 p4 p5 p6 p7 p8 p9 p10 p11 p12 p13 p14 p15;go_enter Tryz.func64,dU;go_wp2_with fail;rw[<- HW.o]
 go_region_held3 (λw'=>w'.cell? ⟨w.heap.size,0,none⟩=some (.int .i64 3)/\w'.cell? ⟨w.heap.size,1,none⟩=some (.string k1)/\w'.cell? ⟨w.heap.size,2,none⟩=some (.slice A2 n2 c2')/\w'.cell? ⟨w.heap.size,3,none⟩=some (.int .i64 ck)/\w'.cell? ⟨w.heap.size,4,none⟩=some (.string cn)/\w'.cell? ⟨w.heap.size,5,none⟩=some (.int .i64 cvk)/\w'.cell? ⟨w.heap.size,6,none⟩=some (.int .i64 cvn)/\w'.cell? ⟨w.heap.size,7,none⟩=some (.string cvt)/\w'.cell? ⟨w.heap.size,8,none⟩=some (.string cop)/\w'.cell? ⟨w.heap.size,9,none⟩=some (.slice CA cnn cc)/\w'.cell? ⟨w.heap.size,10,none⟩=some (.slice NA nn nc)/\w'.cell? ⟨w.heap.size,11,none⟩=some (.slice EA en ec)/\w'.cell? ⟨w.heap.size,12,none⟩=some (.slice OA ol oc)/\w'.cell? ⟨w.heap.size,13,none⟩=some (.slice GA gn gc)/\w'.cell? ⟨w.heap.size,14,none⟩=some (.slice BA bn bc)/\w'.cell? ⟨w.heap.size,15,none⟩=some (.int .i64 count)/\w'.cell? ⟨bl,bo,none⟩=some (.slice SA a.length sc)) (first | exact HP.o | exact pU M1.o.t HP.o) (first
  |(go_at_call 89;refine(Hgs.o _ HT0.o).mono ?_;rintro e w1 ⟨A1,c1,rfl,m1⟩;have M1:=lh m1;clear m1))
 go_wp2_with fail;go_ret2;exact⟨A1,c1,rfl,M1.o.own,HT0.o.trans0 M1.o.t,λb hb=>bm HT0.o.size (M1.o.f b hb)⟩
theorem wR(x:PC)(hk0:x.kind=7)(L:Option Addr)(lc:Nat)(s1 s2:SL)(a b:List CD)(h1:s1.n=a.length)(h2:s2.n=b.length)(hl1:a.length<=1000000)(hl2:b.length<=1000000)(w:World) (hL:d9 eT w L [s1,s2]) (ha:em w s1.A a) (hb:em w s2.A b) : Calls Tryz.prog 64 #[x.val,.slice L 2 lc] w λe w'=>e=.returned (if iH a b=true then .tuple #[.slice s1.A s1.n s1.c,.int .i64 0] else .tuple #[.slice none 0 0,.int .i64 12])/\Touch [] w w':=by
 obtain⟨SA,sn,sc⟩:=s1;obtain⟨SB,tn,tc⟩:=s2;dsimp only at *;subst h1 h2;obtain⟨k0,k1,⟨A2,n2,c2'⟩,⟨⟨ck,cn,⟨cvk,cvn,cvt⟩,cop⟩,CA,cnn,cc⟩,⟨NA,nn,nc⟩,⟨EA,en,ec⟩,⟨OA,ol,oc⟩,⟨GA,gn,gc⟩,⟨BA,bn,bc⟩,count⟩:=x;dsimp only at hk0;subst hk0;obtain⟨ad,bl,bo,rfl,hadd0,hc0⟩:=d9.cells hL 1 eC (by omega) 0 (by simp);obtain⟨ad',bl',bo',e',hadd1,hc1⟩:=d9.cells hL 1 eC (by omega) 1 (by simp);obtain rfl:ad=ad':=by injection e'
 have l0:=hc0 0 _ rfl;have l1:=hc1 0 _ rfl;simp only[Nat.zero_mul,Nat.one_mul,Nat.add_zero] at hadd0 hadd1 l0 l1;simp only[List.getElem_cons_zero,List.getElem_cons_succ] at l0 l1;have Heq:=lh λw'(t:Touch [] w w')=>mX SA SB sc tc a.length b.length a b rfl rfl w' (ha.touch0 t) (hb.touch0 t) (by omega) (by omega);simp only[PC.val] at *;obtain⟨K,hK⟩:∃K,K=iH a b:=⟨_,rfl⟩;rw[<- hK] at Heq ⊢;obtain⟨W,hW⟩:∃W,W=w.alloc (.cells #[.int .i64 7,.string k1,.slice A2 n2 c2',.int .i64 ck,.string cn,.int .i64 cvk,.int .i64 cvn,.string cvt,.string cop,.slice CA cnn cc,.slice NA nn nc,.slice EA en ec,.slice OA ol oc,.slice GA gn gc,.slice BA bn bc,.int .i64 count] 49):=⟨_,rfl⟩;have t0:Touch [] w W:=hW ▸ (Touch.refl [] w).alloc _;have hb0:=hW ▸ ah w (.cells #[.int .i64 7,.string k1,.slice A2 n2 c2',.int .i64 ck,.string cn,.int .i64 cvk,.int .i64 cvn,.string cvt,.string cop,.slice CA cnn cc,.slice NA nn nc,.slice EA en ec,.slice OA ol oc,.slice GA gn gc,.slice BA bn bc,.int .i64 count] 49);have l0d:=t0.drew.cell l0 (by simp);have l1d:=t0.drew.cell l1 (by simp);obtain⟨p0,p1,p2,p3,p4,p5,p6,p7,p8,p9,p10,p11,p12,p13,p14,p15⟩:=fg ((Touch.refl [] W).drew.blk hb0 (by simp))
 have HP:Ga (W.drew.cell? ⟨w.heap.size,0,none⟩=some (.int .i64 7)/\W.drew.cell? ⟨w.heap.size,1,none⟩=some (.string k1)/\W.drew.cell? ⟨w.heap.size,2,none⟩=some (.slice A2 n2 c2')/\W.drew.cell? ⟨w.heap.size,3,none⟩=some (.int .i64 ck)/\W.drew.cell? ⟨w.heap.size,4,none⟩=some (.string cn)/\W.drew.cell? ⟨w.heap.size,5,none⟩=some (.int .i64 cvk)/\W.drew.cell? ⟨w.heap.size,6,none⟩=some (.int .i64 cvn)/\W.drew.cell? ⟨w.heap.size,7,none⟩=some (.string cvt)/\W.drew.cell? ⟨w.heap.size,8,none⟩=some (.string cop)/\W.drew.cell? ⟨w.heap.size,9,none⟩=some (.slice CA cnn cc)/\W.drew.cell? ⟨w.heap.size,10,none⟩=some (.slice NA nn nc)/\W.drew.cell? ⟨w.heap.size,11,none⟩=some (.slice EA en ec)/\W.drew.cell? ⟨w.heap.size,12,none⟩=some (.slice OA ol oc)/\W.drew.cell? ⟨w.heap.size,13,none⟩=some (.slice GA gn gc)/\W.drew.cell? ⟨w.heap.size,14,none⟩=some (.slice BA bn bc)/\W.drew.cell? ⟨w.heap.size,15,none⟩=some (.int .i64 count)/\W.drew.cell? ⟨bl,bo,none⟩=some (.slice SA a.length sc)/\W.drew.cell? ⟨bl',bo',none⟩=some (.slice SB b.length tc)):=lh ⟨p0,p1,p2,p3,p4,p5,p6,p7,p8,p9,p10,p11,p12,p13,p14,p15,l0d,l1d⟩;have HW:=lh hW;have HT0:=lh t0.drew;have HQ:=lh t0;clear ha hb hL hc0 hc1 hK l0 l1 e' hW t0 hb0 l0d l1d p0 p1 p2 p3 p4 p5 p6 p7 p8 p9 p10 p11 p12 p13 p14 p15;cases K
 ·go_enter Tryz.func64,dU;go_wp2_with fail;rw[<- HW.o];go_region_held3 (λw'=>w'.cell? ⟨w.heap.size,0,none⟩=some (.int .i64 7)/\w'.cell? ⟨w.heap.size,1,none⟩=some (.string k1)/\w'.cell? ⟨w.heap.size,2,none⟩=some (.slice A2 n2 c2')/\w'.cell? ⟨w.heap.size,3,none⟩=some (.int .i64 ck)/\w'.cell? ⟨w.heap.size,4,none⟩=some (.string cn)/\w'.cell? ⟨w.heap.size,5,none⟩=some (.int .i64 cvk)/\w'.cell? ⟨w.heap.size,6,none⟩=some (.int .i64 cvn)/\w'.cell? ⟨w.heap.size,7,none⟩=some (.string cvt)/\w'.cell? ⟨w.heap.size,8,none⟩=some (.string cop)/\w'.cell? ⟨w.heap.size,9,none⟩=some (.slice CA cnn cc)/\w'.cell? ⟨w.heap.size,10,none⟩=some (.slice NA nn nc)/\w'.cell? ⟨w.heap.size,11,none⟩=some (.slice EA en ec)/\w'.cell? ⟨w.heap.size,12,none⟩=some (.slice OA ol oc)/\w'.cell? ⟨w.heap.size,13,none⟩=some (.slice GA gn gc)/\w'.cell? ⟨w.heap.size,14,none⟩=some (.slice BA bn bc)/\w'.cell? ⟨w.heap.size,15,none⟩=some (.int .i64 count)/\w'.cell? ⟨bl,bo,none⟩=some (.slice SA a.length sc)/\w'.cell? ⟨bl',bo',none⟩=some (.slice SB b.length tc)) (first | exact HP.o | exact iE HT1.o HP.o) (first
   |(go_at_call 18;refine(Heq.o _ HT0.o).mono ?_;rintro e w1 ⟨rfl,t1⟩;have HT1:=lh t1;clear t1))
  have z0:=(iE HT1.o HP.o).2.2.2.2.2.2.2.2.2.2.2.2.2.2.2.2.1;have z1:=(iE HT1.o HP.o).1;go_wp2_with fail;go_ret2;exact⟨rfl,HT0.o.trans0 HT1.o⟩
 go_enter Tryz.func64,dU;go_wp2_with fail;rw[<- HW.o];go_region_held3 (λw'=>w'.cell? ⟨w.heap.size,0,none⟩=some (.int .i64 7)/\w'.cell? ⟨w.heap.size,1,none⟩=some (.string k1)/\w'.cell? ⟨w.heap.size,2,none⟩=some (.slice A2 n2 c2')/\w'.cell? ⟨w.heap.size,3,none⟩=some (.int .i64 ck)/\w'.cell? ⟨w.heap.size,4,none⟩=some (.string cn)/\w'.cell? ⟨w.heap.size,5,none⟩=some (.int .i64 cvk)/\w'.cell? ⟨w.heap.size,6,none⟩=some (.int .i64 cvn)/\w'.cell? ⟨w.heap.size,7,none⟩=some (.string cvt)/\w'.cell? ⟨w.heap.size,8,none⟩=some (.string cop)/\w'.cell? ⟨w.heap.size,9,none⟩=some (.slice CA cnn cc)/\w'.cell? ⟨w.heap.size,10,none⟩=some (.slice NA nn nc)/\w'.cell? ⟨w.heap.size,11,none⟩=some (.slice EA en ec)/\w'.cell? ⟨w.heap.size,12,none⟩=some (.slice OA ol oc)/\w'.cell? ⟨w.heap.size,13,none⟩=some (.slice GA gn gc)/\w'.cell? ⟨w.heap.size,14,none⟩=some (.slice BA bn bc)/\w'.cell? ⟨w.heap.size,15,none⟩=some (.int .i64 count)/\w'.cell? ⟨bl,bo,none⟩=some (.slice SA a.length sc)/\w'.cell? ⟨bl',bo',none⟩=some (.slice SB b.length tc)) (first | exact HP.o | exact iE HT1.o HP.o) (first
  |(go_at_call 18;refine(Heq.o _ HT0.o).mono ?_;rintro e w1 ⟨rfl,t1⟩;have HT1:=lh t1;clear t1))
 have z0:=(iE HT1.o HP.o).2.2.2.2.2.2.2.2.2.2.2.2.2.2.2.2.1;have z1:=(iE HT1.o HP.o).1;go_wp2_with fail;go_ret2;exact⟨rfl,HT0.o.trans0 HT1.o⟩
theorem nr(x:PC)(hk0:x.kind=8)(L:Option Addr)(lc:Nat)(s1:SL)(w:World)(hL:d9 eT w L [s1]): Calls Tryz.prog 64 #[x.val,.slice L 1 lc] w λe w'=>e=.returned (.tuple #[.slice s1.A s1.n s1.c,.int .i64 0])/\Touch [] w w':=by obtain⟨SA,sn,sc⟩:=s1;obtain⟨k0,k1,⟨A2,n2,c2'⟩,⟨⟨ck,cn,⟨cvk,cvn,cvt⟩,cop⟩,CA,cnn,cc⟩,⟨NA,nn,nc⟩,⟨EA,en,ec⟩,⟨OA,ol,oc⟩,⟨GA,gn,gc⟩,⟨BA,bn,bc⟩,count⟩:=x;dsimp only at hk0;subst hk0;obtain⟨ad,bl,bo,rfl,hadd0,hc0⟩:=d9.cells hL 1 eC (by omega) 0 (by simp);have l0:=hc0 0 _ rfl;simp only[Nat.zero_mul,Nat.add_zero] at hadd0 l0;simp only[List.getElem_cons_zero] at l0;simp only[PC.val] at *;have t0:=(Touch.refl [] w).alloc (.cells #[.int .i64 8,.string k1,.slice A2 n2 c2',.int .i64 ck,.string cn,.int .i64 cvk,.int .i64 cvn,.string cvt,.string cop,.slice CA cnn cc,.slice NA nn nc,.slice EA en ec,.slice OA ol oc,.slice GA gn gc,.slice BA bn bc,.int .i64 count] 49);have l0d:=t0.cell l0 (by simp);have HT0:=lh t0;clear hL hc0 l0 t0;go_enter Tryz.func64,dU;go_wp2;go_ret2;exact⟨rfl,HT0.o⟩
theorem wU(x:PC)(hk0:x.kind=9)(l:List (ByteArray × Bool))(hlb:x.by_.n=l.length)(hll:l.length<=1000000)(L:Option Addr)(lc:Nat)(s1:SL)(a:List CD)(h1:s1.n=a.length)(hl1:a.length<=1000000)(w:World) (hL:d9 eT w L [s1]) (hr:d9 pg w x.by_.A l) (ha:em w s1.A a) : Calls Tryz.prog 64 #[x.val,.slice L 1 lc] w λe w'=>e=.returned (.tuple #[.slice s1.A s1.n s1.c,.int .i64 (j0 a l x.count)])/\Touch [] w w':=by
 obtain⟨SA,sn,sc⟩:=s1;dsimp only at *;subst h1;obtain⟨k0,k1,⟨A2,n2,c2'⟩,⟨⟨ck,cn,⟨cvk,cvn,cvt⟩,cop⟩,CA,cnn,cc⟩,⟨NA,nn,nc⟩,⟨EA,en,ec⟩,⟨OA,ol,oc⟩,⟨GA,gn,gc⟩,⟨BA,bn,bc⟩,count⟩:=x;dsimp only at hk0 hlb hr ⊢;subst hk0;obtain⟨ad,bl,bo,rfl,hadd0,hc0⟩:=d9.cells hL 1 eC (by omega) 0 (by simp);have l0:=hc0 0 _ rfl;simp only[Nat.zero_mul,Nat.add_zero] at hadd0 l0;simp only[List.getElem_cons_zero] at l0;have Hby:=lh λw'(t:Touch [] w w')=>xg ⟨9,k1,⟨A2,n2,c2'⟩,⟨⟨ck,cn,⟨cvk,cvn,cvt⟩,cop⟩,CA,cnn,cc⟩,⟨NA,nn,nc⟩,⟨EA,en,ec⟩,⟨OA,ol,oc⟩,⟨GA,gn,gc⟩,⟨BA,bn,bc⟩,count⟩ l hlb SA sc a.length a rfl (by omega) hll w' (d9.touch0 hr t) (ha.touch0 t);simp only[PC.val] at *;obtain⟨V,hV⟩:∃V,V=j0 a l count:=⟨_,rfl⟩;rw[<- hV] at Hby ⊢;obtain⟨W,hW⟩:∃W,W=w.alloc (.cells #[.int .i64 9,.string k1,.slice A2 n2 c2',.int .i64 ck,.string cn,.int .i64 cvk,.int .i64 cvn,.string cvt,.string cop,.slice CA cnn cc,.slice NA nn nc,.slice EA en ec,.slice OA ol oc,.slice GA gn gc,.slice BA bn bc,.int .i64 count] 49):=⟨_,rfl⟩;have t0:Touch [] w W:=hW ▸ (Touch.refl [] w).alloc _;have hb0:=hW ▸ ah w (.cells #[.int .i64 9,.string k1,.slice A2 n2 c2',.int .i64 ck,.string cn,.int .i64 cvk,.int .i64 cvn,.string cvt,.string cop,.slice CA cnn cc,.slice NA nn nc,.slice EA en ec,.slice OA ol oc,.slice GA gn gc,.slice BA bn bc,.int .i64 count] 49);have l0d:=t0.drew.cell l0 (by simp);obtain⟨p0,p1,p2,p3,p4,p5,p6,p7,p8,p9,p10,p11,p12,p13,p14,p15⟩:=fg ((Touch.refl [] W).drew.blk hb0 (by simp))
 have HP:Ga (W.drew.cell? ⟨w.heap.size,0,none⟩=some (.int .i64 9)/\W.drew.cell? ⟨w.heap.size,1,none⟩=some (.string k1)/\W.drew.cell? ⟨w.heap.size,2,none⟩=some (.slice A2 n2 c2')/\W.drew.cell? ⟨w.heap.size,3,none⟩=some (.int .i64 ck)/\W.drew.cell? ⟨w.heap.size,4,none⟩=some (.string cn)/\W.drew.cell? ⟨w.heap.size,5,none⟩=some (.int .i64 cvk)/\W.drew.cell? ⟨w.heap.size,6,none⟩=some (.int .i64 cvn)/\W.drew.cell? ⟨w.heap.size,7,none⟩=some (.string cvt)/\W.drew.cell? ⟨w.heap.size,8,none⟩=some (.string cop)/\W.drew.cell? ⟨w.heap.size,9,none⟩=some (.slice CA cnn cc)/\W.drew.cell? ⟨w.heap.size,10,none⟩=some (.slice NA nn nc)/\W.drew.cell? ⟨w.heap.size,11,none⟩=some (.slice EA en ec)/\W.drew.cell? ⟨w.heap.size,12,none⟩=some (.slice OA ol oc)/\W.drew.cell? ⟨w.heap.size,13,none⟩=some (.slice GA gn gc)/\W.drew.cell? ⟨w.heap.size,14,none⟩=some (.slice BA bn bc)/\W.drew.cell? ⟨w.heap.size,15,none⟩=some (.int .i64 count)/\W.drew.cell? ⟨bl,bo,none⟩=some (.slice SA a.length sc)):=lh ⟨p0,p1,p2,p3,p4,p5,p6,p7,p8,p9,p10,p11,p12,p13,p14,p15,l0d⟩;have HW:=lh hW;have HT0:=lh t0.drew;have HQ:=lh t0;clear hlb hr ha hL hc0 hV l0 hW t0 hb0 l0d p0 p1 p2 p3 p4 p5 p6 p7 p8 p9 p10 p11 p12 p13 p14 p15;go_enter Tryz.func64,dU;go_wp2_with fail;rw[<- HW.o]
 go_region_held3 (λw'=>w'.cell? ⟨w.heap.size,0,none⟩=some (.int .i64 9)/\w'.cell? ⟨w.heap.size,1,none⟩=some (.string k1)/\w'.cell? ⟨w.heap.size,2,none⟩=some (.slice A2 n2 c2')/\w'.cell? ⟨w.heap.size,3,none⟩=some (.int .i64 ck)/\w'.cell? ⟨w.heap.size,4,none⟩=some (.string cn)/\w'.cell? ⟨w.heap.size,5,none⟩=some (.int .i64 cvk)/\w'.cell? ⟨w.heap.size,6,none⟩=some (.int .i64 cvn)/\w'.cell? ⟨w.heap.size,7,none⟩=some (.string cvt)/\w'.cell? ⟨w.heap.size,8,none⟩=some (.string cop)/\w'.cell? ⟨w.heap.size,9,none⟩=some (.slice CA cnn cc)/\w'.cell? ⟨w.heap.size,10,none⟩=some (.slice NA nn nc)/\w'.cell? ⟨w.heap.size,11,none⟩=some (.slice EA en ec)/\w'.cell? ⟨w.heap.size,12,none⟩=some (.slice OA ol oc)/\w'.cell? ⟨w.heap.size,13,none⟩=some (.slice GA gn gc)/\w'.cell? ⟨w.heap.size,14,none⟩=some (.slice BA bn bc)/\w'.cell? ⟨w.heap.size,15,none⟩=some (.int .i64 count)/\w'.cell? ⟨bl,bo,none⟩=some (.slice SA a.length sc)) (first | exact HP.o | exact pU HT1.o HP.o) (first
  |(go_at_call 93;refine(Hby.o _ HT0.o).mono ?_;rintro e w1 ⟨rfl,t1⟩;have HT1:=lh t1;clear t1))
 go_wp2_with fail;go_ret2;exact⟨rfl,HT0.o.trans0 HT1.o⟩
end
section
open Go.RowKit
theorem vj(x:PC)(hk0:x.kind=5)(on:List (ByteArray × ByteArray))(ho:x.on.n=on.length)(hlo:on.length<=1000000)(a b:List CD)(hl1:a.length<=1000)(hl2:b.length<=1000)(w:World)(hr:d9 nz w x.on.A on):ib w x [a,b] (iY a b on,a++b):=by
 intro w' base L lc sl t hb hs hL;obtain⟨hs1,hs2⟩:=hs;match sl,hs1 with
 | [s1,s2],_ =>
  have h1:=hs2 0 (by simp) (by simp)
  have h2:=hs2 1 (by simp) (by simp)
  refine(xd x hk0 on ho hlo L lc s1 s2 a b h1.1 h2.1 h1.2.1 h2.2.1 hl1 hl2 w' hL (d9.touch0 hr t) h1.2.2.1 h2.2.2.1).mono ?_
  rintro e w'' ⟨A,c,rfl,hm⟩
  exact(fm.made hm).base hb
theorem fm.same{base:Nat}{w w':World}{s:SL}{a:List CD}{k:Int}(h1:s.n=a.length)(h2:s.n<=s.c)(h3:em w s.A a)(h4:∀ b∈ed s.A,base<=b/\b<w.heap.size)(t:Touch [] w w'):fm base (k,a) w (.returned (.tuple #[.slice s.A s.n s.c,.int .i64 k])) w':=
 ⟨s,rfl,h1,h2,h3.touch0 t,λb hb=>⟨(h4 b hb).1,bW (h4 b hb).2 t.size⟩,t⟩
theorem mf(x:PC)(hk0:x.kind=2)(a:List CD)(r:Int × Int)(w:World)(hE:lA w x.cond a r):ib w x [a] (r.2,a):=by
 intro w' base L lc sl t hb hs hL;obtain⟨hs1,hs2⟩:=hs;match sl,hs1 with
 | [s1],_ =>
  have h1:=hs2 0 (by simp) (by simp)
  have hE2:=hE.at_ t h1.2.2.1 s1.c
  rw[show a.length=s1.n from h1.1.symm] at hE2
  refine(vG x hk0 L lc s1 a h1.1 r w' hL hE2).mono ?_
  rintro e w'' ⟨rfl,t2⟩
  exact fm.same h1.1 h1.2.1 h1.2.2.1 h1.2.2.2 t2
theorem wt(x:PC)(hk0:x.kind=3)(names:List ByteArray)(xs:List XC)(ets:List (Int × Int))(hnn:x.names.n=names.length)(hen:x.exprs.n=xs.length)(hle:ets.length=xs.length)(hln:names.length<=100000)(hlx:xs.length<=100000)(a:List CD)(w:World) (hr:d9 gD w x.names.A names) (hx:d9 iX w x.exprs.A xs) (hE:∀i(h1:i<xs.length)(h2:i<ets.length),lA w xs[i] a ets[i]):ib w x [a] (kh names ets):=by
 intro w' base L lc sl t hb hs hL;obtain⟨hs1,hs2⟩:=hs;match sl,hs1 with
 | [s1],_ =>
  have h1:=hs2 0 (by simp) (by simp)
  refine(wW x hk0 names xs ets hnn hen hle hln hlx L lc s1 a h1.1 w' hL (d9.touch0 hr t) (d9.touch0 hx t) (λi q1 q2=> ?_)).mono ?_
  ·have hE2:=(hE i q1 q2).at_ t h1.2.2.1 s1.c;rw[show a.length=s1.n from h1.1.symm] at hE2;exact hE2
  ·intro e w'' h;exact(fm.of h).base hb
theorem pf(x:PC)(hk0:x.kind=7)(a b:List CD)(hl1:a.length<=1000000)(hl2:b.length<=1000000)(w:World):ib w x [a,b] (if iH a b=true then (0,a) else (12,[])):=by
 intro w' base L lc sl t hb hs hL;obtain⟨hs1,hs2⟩:=hs;match sl,hs1 with
 | [s1,s2],_ =>
  have h1:=hs2 0 (by simp) (by simp)
  have h2:=hs2 1 (by simp) (by simp)
  refine(wR x hk0 L lc s1 s2 a b h1.1 h2.1 hl1 hl2 w' hL h1.2.2.1 h2.2.2.1).mono ?_
  rintro e w'' ⟨rfl,t2⟩
  by_cases h:iH a b=true
  ·rw[ae h,ae h];exact fm.same h1.1 h1.2.1 h1.2.2.1 h1.2.2.2 t2
  ·rw[ab h,ab h];exact fm.err _ 12 t2
theorem rG(x:PC)(hk0:x.kind=8)(a:List CD)(w:World):ib w x [a] (0,a):=by
 intro w' base L lc sl t hb hs hL;obtain⟨hs1,hs2⟩:=hs;match sl,hs1 with
 | [s1],_ =>
  have h1:=hs2 0 (by simp) (by simp)
  refine(nr x hk0 L lc s1 w' hL).mono ?_
  rintro e w'' ⟨rfl,t2⟩
  exact fm.same h1.1 h1.2.1 h1.2.2.1 h1.2.2.2 t2
theorem po(x:PC)(hk0:x.kind=9)(l:List (ByteArray × Bool))(hlb:x.by_.n=l.length)(hll:l.length<=1000000)(a:List CD)(hl1:a.length<=1000000)(w:World)(hr:d9 pg w x.by_.A l):ib w x [a] (j0 a l x.count,a):=by
 intro w' base L lc sl t hb hs hL;obtain⟨hs1,hs2⟩:=hs;match sl,hs1 with
 | [s1],_ =>
  have h1:=hs2 0 (by simp) (by simp)
  refine(wU x hk0 l hlb hll L lc s1 a h1.1 hl1 w' hL (d9.touch0 hr t) h1.2.2.1).mono ?_
  rintro e w'' ⟨rfl,t2⟩
  exact fm.same h1.1 h1.2.1 h1.2.2.1 h1.2.2.2 t2
theorem xh(x:PC)(hk:x.kind<1\/9<x.kind)(d:Int)(hd:d<=16)(I:Option Addr)(ic n:Nat)(w:World): Calls Tryz.prog 31 #[x.val,.slice I n ic,.int .i64 d] w (fm w.heap.size (20,[]) w):=by
 obtain⟨k0,k1,⟨A2,n2,c2'⟩,⟨⟨ck,cn,⟨cvk,cvn,cvt⟩,cop⟩,CA,cnn,cc⟩,⟨NA,nn,nc⟩,⟨EA,en,ec⟩,⟨OA,ol,oc⟩,⟨GA,gn,gc⟩,⟨BA,bn,bc⟩,count⟩:=x;dsimp only at hk ⊢;simp only[PC.val];obtain⟨W,hW⟩:∃W,W=w.alloc (.cells #[.int .i64 k0,.string k1,.slice A2 n2 c2',.int .i64 ck,.string cn,.int .i64 cvk,.int .i64 cvn,.string cvt,.string cop,.slice CA cnn cc,.slice NA nn nc,.slice EA en ec,.slice OA ol oc,.slice GA gn gc,.slice BA bn bc,.int .i64 count] 49):=⟨_,rfl⟩;have t0:Touch [] w W:=hW ▸ (Touch.refl [] w).alloc _;have hb0:=hW ▸ ah w (.cells #[.int .i64 k0,.string k1,.slice A2 n2 c2',.int .i64 ck,.string cn,.int .i64 cvk,.int .i64 cvn,.string cvt,.string cop,.slice CA cnn cc,.slice NA nn nc,.slice EA en ec,.slice OA ol oc,.slice GA gn gc,.slice BA bn bc,.int .i64 count] 49);have q0:W.cell? ⟨w.heap.size,0,none⟩=some (.int .i64 k0):=d_ hb0 rfl;have hd2:(16<d)=False:=by simp;omega
 have HW:=lh hW;have HT0:=lh t0;clear hb0 hW t0;rcases hk with hk|hk
 ·have hk1:(k0<1)=True:=cQ hk;go_enter Tryz.func31,Tryz.ntmps31;go_wp2_with fail;rw[<- HW.o];go_quiet (fail);go_wp2;go_ret2;exact fm.err _ 20 (HT0.o.drewN _)
 have hk1:(k0<1)=False:=bi (by omega);have hk2:(9<k0)=True:=cQ hk;go_enter Tryz.func31,Tryz.ntmps31;go_wp2_with fail;rw[<- HW.o];go_quiet (fail);go_wp2;go_ret2;exact fm.err _ 20 (HT0.o.drewN _)
theorem wQ(x:PC)(hk:x.kind<1\/9<x.kind)(d:Int)(hd:d<=16)(I:Option Addr)(ic n:Nat)(w:World):gI w I ic n x d (20,[]):=λw' _=>xh x hk d hd I ic n w'
end
section
open Go.RowKit
def wF(m:Nat)(e:TX m):Bool:=decide (fj m e<=60)
def j6{m:Nat}(d:PD m):Bool:=d.exprs.all (wF m)&&(decide (d.names.length<=20)&&(decide (d.exprs.length<=20)&&(decide (d.on.length<=20)&&(decide (d.aggs.length<=20)&&(decide (d.by_.length<=20)&&decide (fj m d.cond<=60))))))
structure PD.Small {m:Nat} (d:PD m):Prop where
 x:∀e∈d.exprs,fj m e<=60
 n:d.names.length<=20
 e:d.exprs.length<=20
 o:d.on.length<=20
 a:d.aggs.length<=20
 b:d.by_.length<=20
 c:fj m d.cond<=60
theorem pQ{m:Nat}{d:PD m}(h:j6 d=true):d.Small:=by unfold j6 at h;simp only[Bool.and_eq_true,List.all_eq_true,decide_eq_true_eq] at h;obtain⟨h1,h2,h3,h4,h5,h6,h7⟩:=h;exact⟨λe he=>by simpa [wF] using h1 e he,h2,h3,h4,h5,h6,h7⟩
structure PD.Ok {m:Nat} (d:PD m):Prop where
 x:∀e∈d.exprs,fj m e<=2000000
 n:d.names.length<=2000000
 e:d.exprs.length<=2000000
 o:d.on.length<=2000000
 a:d.aggs.length<=2000000
 b:d.by_.length<=2000000
 c:fj m d.cond<=2000000
theorem j1(m:Nat)(x:PC)(d:PD m)(hd:d.Ok)(w:World)(h:PlanAt w x d): Calls Tryz.prog 14 #[x.val] w λe w'=>e=.returned (.bool (j6 d))/\Touch [] w w':=by
 obtain⟨-, -,hcd,hnn, -,hen,hex,hon, -,han, -,hbn, -, -⟩:=h;obtain⟨o1,o2,o3,o4,o5,o6,o7⟩:=hd;have Ho1:=lh o1;have HX:=lh hex;have Hcs:=lh λw'(t:Touch [] w w')=>qi m d.cond x.cond w' (hcd.touch0 t) o7;obtain⟨V,hV⟩:∃V,V=j6 d:=⟨_,rfl⟩;have HV:=lh hV;rw[<- hV];obtain⟨k0,k1,⟨A2,n2,c2'⟩,⟨⟨ck,cn,⟨cvk,cvn,cvt⟩,cop⟩,CA,cnn,cc⟩,⟨NA,nn,nc⟩,⟨EA,en,ec⟩,⟨OA,ol,oc⟩,⟨GA,gn,gc⟩,⟨BA,bn,bc⟩,count⟩:=x;dsimp only at hnn hen hon han hbn HX;subst hnn hen hon han hbn;simp only[PC.val,XC.val] at Hcs ⊢;obtain⟨sz,hsz⟩:∃sz,sz=fj m d.cond:=⟨_,rfl⟩;rw[<- hsz] at Hcs o7;have Hsz:=lh hsz;clear hsz o1 hcd hex hV;have hb0:=ah w (.cells #[.int .i64 k0,.string k1,.slice A2 n2 c2',.int .i64 ck,.string cn,.int .i64 cvk,.int .i64 cvn,.string cvt,.string cop,.slice CA cnn cc,.slice NA d.names.length nc,.slice EA d.exprs.length ec,.slice OA d.on.length oc,.slice GA d.aggs.length gc,.slice BA d.by_.length bc,.int .i64 count] 49);have t0:=(Touch.refl [] w).alloc (.cells #[.int .i64 k0,.string k1,.slice A2 n2 c2',.int .i64 ck,.string cn,.int .i64 cvk,.int .i64 cvn,.string cvt,.string cop,.slice CA cnn cc,.slice NA d.names.length nc,.slice EA d.exprs.length ec,.slice OA d.on.length oc,.slice GA d.aggs.length gc,.slice BA d.by_.length bc,.int .i64 count] 49)
 obtain⟨W,hW⟩:∃W,W=w.alloc (.cells #[.int .i64 k0,.string k1,.slice A2 n2 c2',.int .i64 ck,.string cn,.int .i64 cvk,.int .i64 cvn,.string cvt,.string cop,.slice CA cnn cc,.slice NA d.names.length nc,.slice EA d.exprs.length ec,.slice OA d.on.length oc,.slice GA d.aggs.length gc,.slice BA d.by_.length bc,.int .i64 count] 49):=⟨_,rfl⟩;rw[<- hW] at hb0 t0;have HW:=lh hW;have HB:=lh hb0;have HT0:=lh t0;clear hb0 t0 hW;go_enter Tryz.func14,Tryz.ntmps14;go_wp2_with fail;rw[<- HW.o];go_loopw [8] (λi wr=>∃k:Nat,k<=d.exprs.length/\i=.int .i64 k/\Ga ((d.exprs.take k).all (wF m)=true)/\Ga (Touch [] W wr)) (λi _=>d.exprs.length-(intOf i).toNat)
 case atStart=>exact⟨0,by omega,rfl,lh rfl,lh (Touch.refl _ _)⟩
 case round =>
 obtain⟨k,hk,rfl,Hall,HT⟩:=hrel;by_cases hlt:k<d.exprs.length
 ·obtain⟨ad,b,off,y,rfl,hadd,hy,hcell⟩:=(HX.o.touch0 (HT0.o.trans0 HT.o)).at_ gW k hlt;have hsy:=Ho1.o _ (am hlt);have hno:=lu (p:=wF m) hlt;have hyes:=jt (p:=wF m) hlt Hall.o;obtain⟨e,he⟩:∃e,e=d.exprs[k]:=⟨_,rfl⟩;rw[<- he] at hy hsy hno hyes;have c0:=hcell 0 _ rfl;have c1:=hcell 1 _ rfl;have c2:=hcell 2 _ rfl;have c3:=hcell 3 _ rfl;have c4:=hcell 4 _ rfl;have c5:=hcell 5 _ rfl;have c6:=hcell 6 _ rfl;rw[aM] at c0;have ta:=(Touch.refl [] wr).alloc (.cells #[.int .i64 y.nd.kind,.string y.nd.name,.int .i64 y.nd.v.kind,.int .i64 y.nd.v.num,.string y.nd.v.text,.string y.nd.op,.slice y.A y.n y.c] 44);have hc:=lh (qi m e y _ (hy.touch0 ta) hsy);obtain⟨q,hq⟩:∃q,q=fj m e:=⟨_,rfl⟩;rw[<- hq] at hc hsy;have Hno:=lh fun h0:60<q=>hno (by unfold wF;rw[<- hq];simp;omega);have Hyes:=lh fun h0:q<=60=>hyes (by unfold wF;rw[<- hq];simp;omega);have HTa:=lh ta;clear hno hyes he hcell hq ta hy Hall;obtain⟨⟨k2,nm2,⟨vk2,vn2,vt2⟩,op2⟩,A3,m2,c3'⟩:=y;simp only[XC.val] at hc c0 c1 c2 c3 c4 c5 c6;have hkn:(k:Int)<(d.exprs.length:Int):=by omega
  by_cases h60:60<q
  ·have Hs:=lh (show V=false by rw[HV.o];unfold j6;rw[Hno.o h60];rfl);have hq6:(60<(q:Int))=True:=cQ (by omega);go_wp2_with fail;refine hc.o.mono ?_;rintro e w1 ⟨rfl,t1⟩;go_wp2;go_ret;exact⟨eo (by rw[Hs.o]),(HT0.o.trans0 HT.o).trans0 (HTa.o.trans0 t1)⟩
  have hq6:(60<(q:Int))=False:=bi (by omega);go_wp2_with fail;refine hc.o.mono ?_;rintro e w1 ⟨rfl,t1⟩;have HT1:=lh (HT.o.trans0 (HTa.o.trans0 t1));clear t1;go_wp2_with fail;go_roundw
  case rel=>exact⟨k+1,by omega,by go_num,lh (Hyes.o (by omega)),HT1⟩
  case measure=>simp[intOf];omega
 obtain rfl:k=d.exprs.length:=by omega
 have hall:=Hall.o;rw[aH] at hall;have HA:=lh (show V=(decide (d.names.length<=20)&&(decide (d.exprs.length<=20)&&(decide (d.on.length<=20)&&(decide (d.aggs.length<=20)&&(decide (d.by_.length<=20)&&decide (sz<=60)))))) by rw[HV.o,Hsz.o];unfold j6;rw[hall,cM]);obtain⟨p0,p1,p2,p3,p4,p5,p6,p7,p8,p9,p10,p11,p12,p13,p14,p15⟩:=fg (HT.o.blk HB.o (by simp));have Hc:=lh (Hcs.o _ (HT0.o.trans0 HT.o));clear hall Hall Hcs HV;by_cases g0:d.names.length<=20;rotate_left
 ·have Hs:=lh (show V=false by rw[HA.o,aC g0];simp);have q0:((d.names.length:Int)<=20)=False:=bi (by omega);go_wp2;go_ret;exact⟨eo (by rw[Hs.o]),HT0.o.trans0 HT.o⟩
 by_cases g1:d.exprs.length<=20;rotate_left
 ·have Hs:=lh (show V=false by rw[HA.o,aF g0,aC g1];simp);have q1:((d.exprs.length:Int)<=20)=False:=bi (by omega);have q0:((d.names.length:Int)<=20)=True:=cQ (by omega);go_wp2;go_ret;exact⟨eo (by rw[Hs.o]),HT0.o.trans0 HT.o⟩
 by_cases g2:d.on.length<=20;rotate_left
 ·have Hs:=lh (show V=false by rw[HA.o,aF g0,aF g1,aC g2];simp);have q2:((d.on.length:Int)<=20)=False:=bi (by omega);have q0:((d.names.length:Int)<=20)=True:=cQ (by omega);have q1:((d.exprs.length:Int)<=20)=True:=cQ (by omega);go_wp2;go_ret;exact⟨eo (by rw[Hs.o]),HT0.o.trans0 HT.o⟩
 by_cases g3:d.aggs.length<=20;rotate_left
 ·have Hs:=lh (show V=false by rw[HA.o,aF g0,aF g1,aF g2,aC g3];simp);have q3:((d.aggs.length:Int)<=20)=False:=bi (by omega);have q0:((d.names.length:Int)<=20)=True:=cQ (by omega);have q1:((d.exprs.length:Int)<=20)=True:=cQ (by omega);have q2:((d.on.length:Int)<=20)=True:=cQ (by omega);go_wp2;go_ret;exact⟨eo (by rw[Hs.o]),HT0.o.trans0 HT.o⟩
 by_cases g4:d.by_.length<=20;rotate_left
 ·have Hs:=lh (show V=false by rw[HA.o,aF g0,aF g1,aF g2,aF g3,aC g4];simp);have q4:((d.by_.length:Int)<=20)=False:=bi (by omega);have q0:((d.names.length:Int)<=20)=True:=cQ (by omega);have q1:((d.exprs.length:Int)<=20)=True:=cQ (by omega);have q2:((d.on.length:Int)<=20)=True:=cQ (by omega);have q3:((d.aggs.length:Int)<=20)=True:=cQ (by omega);go_wp2;go_ret;exact⟨eo (by rw[Hs.o]),HT0.o.trans0 HT.o⟩
 have Hs:=lh (show V=decide (sz<=60) by rw[HA.o,aF g0,aF g1,aF g2,aF g3,aF g4];simp);have q0:((d.names.length:Int)<=20)=True:=cQ (by omega);have q1:((d.exprs.length:Int)<=20)=True:=cQ (by omega);have q2:((d.on.length:Int)<=20)=True:=cQ (by omega);have q3:((d.aggs.length:Int)<=20)=True:=cQ (by omega);have q4:((d.by_.length:Int)<=20)=True:=cQ (by omega);go_wp2_with fail;refine Hc.o.mono ?_;rintro e w1 ⟨rfl,t1⟩;go_wp2;go_ret;exact⟨eo (by rw[Hs.o,cD,bF,bF];omega),(HT0.o.trans0 HT.o).trans0 t1⟩
end
section
open Go.RowKit
theorem yR:(Tryz.prog.info? 146).map (λi=>(i.zero,i.size,i.bytes))=some (some (.agg #[.string ⟨#[]⟩,.int .i64 0]),2,24):=by kernel_rfl
theorem zh(A:Option Addr)(cap n:Nat)(cs:List CD)(hn:cs.length=n)(w:World)(h:em w A cs)(hl:n<=100000000): Calls Tryz.prog 56 #[.slice A n cap] w λe w'=>∃A' c',e=.returned (.slice A' n c')/\Made 146 2 fQ cs A' c' w w':=by
 subst hn;go_enter Tryz.func56,Tryz.ntmps56;go_wp2;go_loopw [3,8] (λv i wr=>∃(k:Nat)(A':Option Addr)(c':Nat),k<=cs.length/\i=.int .i64 k/\v=.slice A' k c'/\Made 146 2 fQ (cs.take k) A' c' w wr) (λ_ i _=>cs.length-(intOf i).toNat)
 case atStart=>exact⟨0,none,0,by omega,rfl,rfl,Made.nil _ _ _ _⟩
 case round =>
 obtain⟨k,A',c',hk,rfl,rfl,hmd⟩:=hrel;have ht:=hmd.t;by_cases hlt:k<cs.length
 ·obtain⟨ad,b,off,rfl,hadd,c0,c1⟩:=(h.touch0 ht).at_ k hlt;have hsn:=au hlt;obtain⟨c,hce⟩:∃c,c=cs[k]:=⟨_,rfl⟩;rw[<- hce] at c0 c1 hsn;have Hsn:=lh hsn;have Hlen:=lh (show (cs.take k).length=k by rw[aO];omega);clear hce hsn;go_wp2_with (at_builtin;refine ez ?_);refine go ?_;have tb:=((Touch.refl [] wr).alloc (.cells #[.string c.name,.int .i64 c.typ] 29)).alloc (.cells #[.string c.name,.int .i64 c.typ] 146);refine eb rfl (.tmp 12) (.tmp 18) 109 rfl 146 _ 2 24 yR Tryz.underlying109 rfl (by omega) eZ gq A' k c' (cs.take k) Hlen.o rfl (hmd.own.touch0 tb)
   (some ⟨wr.heap.size+1,0,none⟩) 1 1 [c] rfl rfl (by have:=d9.one (enc:=fQ) (wr.alloc (.cells #[.string c.name,.int .i64 c.typ] 29)) 146 c #[.string c.name,.int .i64 c.typ] rfl;rwa[ao] at this) (by omega) (by omega) ?_
  intro A3 c3 w3 hown3 ht3 hf3;go_wp2;go_roundw
  case rel=>exact⟨k+1,A3,c3,by omega,by go_num,rfl,by rw[Hsn.o];exact(hmd.touch0 tb).step hown3 ht3 hf3⟩
  case measure=>simp[intOf];omega
 obtain rfl:k=cs.length:=by omega
 rw[aH] at hmd;go_wp2;go_ret;exact⟨A',c',rfl,hmd⟩
end
section
open Go.RowKit
theorem gT:(Tryz.prog.info? 130).map (λi=>(i.zero,i.size,i.bytes))=some (some (.agg #[.int .i64 0,.int .i64 0,.string ⟨#[]⟩]),3,32):=by kernel_rfl
theorem gh:(Tryz.prog.info? 105).map (λi=>(i.zero,i.size,i.bytes))=some (some (.slice none 0 0),1,24):=by kernel_rfl
theorem jw(A:Option Addr)(c n:Nat)(rows:List (List VD))(hn:rows.length=n)(hl:n<=1000000)(hr:gR rows)(w:World)(h:eW w A rows): Calls Tryz.prog 42 #[.slice A n c] w λe w'=>∃B c',e=.returned (.slice B n c')/\fl 105 w.heap.size w' B c' rows/\Touch [] w w'/\∀b∈ed B,w.heap.size<=b:=by
 subst hn;have HR:=lh h;clear h;go_enter Tryz.func42,Tryz.ntmps42;go_wp2_with fail;go_loopw [3,11] (λo i wr=>∃(k:Nat)(B:Option Addr)(c2:Nat),k<=rows.length/\i=.int .i64 k/\o=.slice B k c2/\Ga (fl 105 w.heap.size wr B c2 (rows.take k))/\Ga (Touch [] w wr)/\Ga (∀b∈ed B,w.heap.size<=b)) (λ_ i _=>rows.length-(intOf i).toNat)
 case atStart=>exact⟨0,none,0,by omega,rfl,rfl,lh (fl.nil _ _ _),lh (Touch.refl _ _),lh (by simp[ed])⟩
 case round =>
 obtain⟨k,B,c2,hk,rfl,rfl,HO,HT,HF⟩:=hrel;by_cases hlt:k<rows.length
 ·obtain⟨bd,A1,c1,rfl,e0,hr1⟩:=(HR.o.touch0 HT.o).at_ k hlt;have hl1:=hr _ (am hlt);have htk:=au hlt;obtain⟨r,hre⟩:∃r,r=rows[k]:=⟨_,rfl⟩;rw[<- hre] at e0 hr1 hl1 htk;have Htk:=lh htk;have HR1:=lh hr1;have hkn:(k:Int)<(rows.length:Int):=by omega
  clear hre htk hr1;go_wp2_with fail;go_loopw [6,17] (λv i wx=>∃(j:Nat)(A':Option Addr)(c':Nat),j<=r.length/\i=.int .i64 j/\v=.slice A' j c'/\Ga (Made 130 3 ff (r.take j) A' c' wr wx)) (λ_ i _=>r.length-(intOf i).toNat)
  case atStart=>exact⟨0,none,0,by omega,rfl,rfl,lh (Made.nil _ _ _ _)⟩
  case round =>
  obtain⟨j,A',c',hj,rfl,rfl,HM⟩:=hrel;by_cases hltj:j<r.length
  ·obtain⟨ad,b,off,rfl,hadd,d0,d1,d2⟩:=(HR1.o.touch0 HM.o.t).at_ j hltj;have hsn:=au hltj;obtain⟨v,hve⟩:∃v,v=r[j]:=⟨_,rfl⟩;rw[<- hve] at d0 d1 d2 hsn;have Hsn:=lh hsn;have Hlen:=lh (show (r.take j).length=j by rw[aO];omega);clear hve hsn;go_wp2_with (at_builtin;refine ez ?_);refine go ?_;have tb:=((Touch.refl [] wr).alloc (.cells #[.int .i64 v.kind,.int .i64 v.num,.string v.text] 31)).alloc (.cells #[.int .i64 v.kind,.int .i64 v.num,.string v.text] 130);refine eb rfl (.tmp 21) (.tmp 29) 105 rfl 130 _ 3 32 gT cK rfl (by omega) eO f8 A' j c' (r.take j) Hlen.o rfl (HM.o.own.touch0 tb)
    (some ⟨wr.heap.size+1,0,none⟩) 1 1 [v] rfl rfl (by have:=d9.one (enc:=ff) (wr.alloc (.cells #[.int .i64 v.kind,.int .i64 v.num,.string v.text] 31)) 130 v #[.int .i64 v.kind,.int .i64 v.num,.string v.text] rfl;rwa[ao] at this) (by omega) (by omega) ?_
   intro A3 c3 w3 hown3 ht3 hf3;have HX:=lh ((HM.o.touch0 tb).step hown3 ht3 hf3);clear hown3 ht3 hf3 tb;go_wp2_with fail;go_roundw
   case rel=>exact⟨j+1,A3,c3,by omega,by go_num,rfl,lh (by rw[Hsn.o];exact HX.o)⟩
   case measure=>simp[intOf];omega
  obtain rfl:j=r.length:=by omega
  have HM2:Ga (Made 130 3 ff r A' c' _ wr):=lh (by have:=HM.o;rwa[aH] at this);clear HM;go_wp2_with (at_builtin;refine ez ?_);refine go ?_;have hB:=HO.o.lt;have hsz:=HM2.o.t.size;refine gF rfl (.tmp 32) (.tmp 34) 66 rfl 105 gh cl w.heap.size B k c2 (rows.take k) (by rw[aO];omega) rfl (HO.o.touch0 HM2.o.t) A' c' r HM2.o.own.rd
   (λb hb=>⟨λq=>by have:=hB b q;have:=HM2.o.f b hb;omega,HM2.o.own.lt b hb,by have:=HM2.o.f b hb;have:=HT.o.size;omega⟩) 1 rfl (by omega) rfl ?_
  intro B' c3 w' hown ht hf;have HX:=Gc hown ht hf;clear hown ht hf;go_wp2_with fail;go_roundw
  case rel =>
   obtain⟨hown,ht,hf⟩:=HX.o;refine⟨k+1,B',c3,by omega,by go_num,rfl,lh (by rw[Htk.o];exact hown),lh (((HT.o.trans0 HM2.o.t).alloc _).trans ht (λb hb=>.inr (HF.o b hb))),lh (λb hb=> ?_)⟩;rcases hf b hb with q|q
   ·exact HF.o b q
   have:=HT.o.size;omega
  case measure=>simp[intOf];omega
 obtain rfl:k=rows.length:=by omega
 have HO2:Ga (fl 105 w.heap.size wr B c2 rows):=lh (by have:=HO.o;rwa[aH] at this);clear HO;go_wp2;go_ret;exact⟨B,c2,rfl,HO2.o,HT.o,HF.o⟩
end
section
open Go.RowKit
theorem xp(t:List UInt8)(hs:t.length<=140737000000000)(w:World): Calls Tryz.prog 113 #[.string (S t)] w λe w'=>e=.returned (.bool (jE t))/\w=w':=by
 have hsz:=ji t;go_enter Tryz.func113,Tryz.ntmps113;go_wp2;go_loop [3] (λi=>∃k:Nat,k<=t.length/\i=.int .i64 k/\Ga ((t.take k).all km=true/\(0<k->∃x,t[0]?=some x/\kc x=true))) (λi=>t.length-(intOf i).toNat)
 case atStart=>exact⟨0,by omega,rfl,lh ⟨rfl,λh=>by omega⟩⟩
 case round =>
 obtain⟨k,hk,rfl,hall⟩:=hrel;by_cases hlt:k<t.length
 ·obtain⟨x,hx⟩:∃x,x=t[k]:=⟨_,rfl⟩;have hg:=rZ t k (by rw[hsz];exact hlt);rw[<- hx] at hg;have hxl:=x.toNat_lt;have hgood:km x=true->(k=0->kc x=true)->(t.take (k+1)).all km=true/\(0<k+1->∃x,t[0]?=some x/\kc x=true):=λh1 h2=>by
   refine⟨by rw[au hlt,List.all_append,hall.o.1,<- hx];simp[h1],λ_=> ?_⟩;rcases Nat.eq_zero_or_pos k with e|e
   ·subst e;exact⟨x,by rw[hx];exact aX hlt,h2 rfl⟩
   exact hall.o.2 e
  have hbad:km x=false->jE t=false:=λh=>uf hlt (by rw[<- hx];exact h);have hbad0:k=0->kc x=false->jE t=false:=λe h=>by
   subst e;cases t with
   |nil=>rfl
   |cons c r =>
    have e:x=c:=hx
    rw[kz,<- e,h,cL,dq]
  have Hg:=lh hgood;have Hb:=lh hbad;have Hb0:=lh hbad0;clear hgood hbad hbad0 hx;have hkk:(k:Int)<t.length:=by omega
  have Hlv:=lh (Cu x);have Hiv:=lh (CX x);by_cases hsm:97<=x.toNat/\x.toNat<=122
  ·obtain⟨hs1,hs2⟩:=hsm;have Hl:Ga (kc x=true):=lh (by simp[kc,hs1,hs2]);go_wp2;go_round
   case rel=>exact⟨k+1,by omega,by go_num,lh (Hg.o (by simp[km,Hl.o]) (λ_=>Hl.o))⟩
   case measure=>simp[intOf];omega
  have Hl:Ga (kc x=false):=lh (by simp[kc];omega);have hdd:122<x.toNat->decide ((x.toNat:Int)<=122)=false:=λh=>aC (by omega);have Hdd:=lh hdd;clear hdd;by_cases hk0:k=0
  ·subst hk0;have Hn:=lh (Hb0.o rfl Hl.o);rcases(show x.toNat<97\/(97<=x.toNat/\122<x.toNat) by omega) with hs1|⟨hs1,hs2⟩
   ·go_wp2;go_ret;exact⟨eo Hn.o.symm,rfl⟩
   have hd2:=Hdd.o hs2;go_wp2;go_ret;exact⟨eo Hn.o.symm,rfl⟩
  have hkz:((k:Int)==0)=false:=by rw[aw];omega
  by_cases hi:km x=true
  ·have Hi:=lh hi;clear hi;have hcase:x.toNat=95\/(x.toNat≠95/\48<=x.toNat/\x.toNat<=57):=by have h1:=Hi.o;rw[Hiv.o,Hl.o] at h1;simp at h1;omega
   rcases hcase with h95|⟨h95,h48,h57⟩
   ·have hq:((x.toNat:Int)==95)=true:=by rw[h95];rfl
    have hq':((x.toNat:Int) != 95)=false:=by rw[h95];rfl
    clear h95;rcases(show x.toNat<97\/(97<=x.toNat/\122<x.toNat) by omega) with hs1|⟨hs1,hs2⟩
    ·go_wp2;go_round
     case rel=>exact⟨k+1,by omega,by go_num,lh (Hg.o Hi.o (λe=>absurd e hk0))⟩
     case measure=>simp[intOf];omega
    have hd2:=Hdd.o hs2;go_wp2;go_round
    case rel=>exact⟨k+1,by omega,by go_num,lh (Hg.o Hi.o (λe=>absurd e hk0))⟩
    case measure=>simp[intOf];omega
   have hq:((x.toNat:Int)==95)=false:=by rw[aw];omega
   have hq':((x.toNat:Int) != 95)=true:=by rw[bne,hq];rfl
   rcases(show x.toNat<97\/(97<=x.toNat/\122<x.toNat) by omega) with hs1|⟨hs1,hs2⟩
   ·go_wp2;go_round
    case rel=>exact⟨k+1,by omega,by go_num,lh (Hg.o Hi.o (λe=>absurd e hk0))⟩
    case measure=>simp[intOf];omega
   omega
  have Hn:=lh (Hb.o (by simpa using hi));have Hi:=lh hi;clear hi;have h95:x.toNat≠95/\(x.toNat<48\/57<x.toNat):=by have h1:=Hi.o;rw[Hiv.o,Hl.o] at h1;simp at h1;omega
  have hq:((x.toNat:Int)==95)=false:=by rw[aw];omega
  have hq':((x.toNat:Int) != 95)=true:=by rw[bne,hq];rfl
  rcases h95 with ⟨_,h48|h57⟩
  ·go_wp2;all_goals go_ret;exact⟨eo Hn.o.symm,rfl⟩
  rcases(show x.toNat<97\/(97<=x.toNat/\122<x.toNat) by omega) with hs1 | ⟨hs1,hs2⟩
  ·go_wp2;go_ret;exact⟨eo Hn.o.symm,rfl⟩
  have hd2:=Hdd.o hs2;go_wp2;go_ret;exact⟨eo Hn.o.symm,rfl⟩
 obtain rfl:k=t.length:=by omega
 have hall2:=hall.o;rw[aH] at hall2;have hn:jE t=(decide (1<=(t.length:Int))&&decide ((t.length:Int)<=16)):=by
  cases t with
  |nil=>rfl
  |cons c r =>
   obtain⟨x,hx,hl⟩:=hall2.2 (by simp)
   obtain rfl:c=x:=by simpa using hx
   rw[kz,hall2.1,hl,cD];simp;omega
 have Hn:=lh hn;clear hn hall2 hall;go_wp2;all_goals go_ret;exact⟨eo (by rw[Hn.o,cD];simp;omega),rfl⟩
end
end Go.Proofs.YtafoklilkdnepaaGreatDoor
