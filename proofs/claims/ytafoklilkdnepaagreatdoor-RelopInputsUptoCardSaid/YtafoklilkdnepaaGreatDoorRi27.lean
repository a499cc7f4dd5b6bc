/- Part 27 of the texts of this proof, one behind the other. No condition beyond those that its theorems state. -/
import Derived.Test.YtafoklilkdnepaaGreatDoorRi26
set_option maxRecDepth 40000
set_option maxHeartbeats 25600000
namespace Go.Proofs.YtafoklilkdnepaaGreatDoor
section
open Go.RowKit
def ETypeS (w:World) (x:XC) (a:List CD) (r:Int × Int):Prop:=∀ w' A c,Touch [] w w'->ColsAt w' A a->Calls Tryz.prog 68 #[x.val,.slice A a.length c] w' fun e w''=>e=.returned (.tuple #[.int .i64 r.1,.int .i64 r.2])/\Touch [] w' w''
theorem ETypeS.touch0 {w w':World} {x:XC} {a:List CD} {r:Int × Int} (h:ETypeS w x a r) (t:Touch [] w w'):ETypeS w' x a r:=fun w'' A c t2 hc=>h w'' A c (t.trans0 t2) hc
theorem ETypeS.at_ {w:World} {x:XC} {a:List CD} {r:Int × Int} (h:ETypeS w x a r) {w':World} (t:Touch [] w w') {A:Option Addr} (hc:ColsAt w' A a) (c:Nat):ETypeC w' A c a.length x r:=fun w'' t2=>h w'' A c (t.trans0 t2) (hc.touch0 t2)
theorem schema_where (x:PC) (hk0:x.kind=2) (L:Option Addr) (lc:Nat) (s1:SL) (a:List CD) (h1:s1.n=a.length) (r:Int × Int) (w:World) (hL:RdK slE w L [s1]) (hE:ETypeC w s1.A s1.c s1.n x.cond r) :
  Calls Tryz.prog 64 #[x.val,.slice L 1 lc] w fun e w'=>e=.returned (.tuple #[.slice s1.A s1.n s1.c,.int .i64 r.2])/\Touch [] w w':=by
 obtain ⟨SA,sn,sc⟩:=s1
 dsimp only at *
 subst h1
 obtain ⟨k0,k1,⟨A2,n2,c2'⟩,⟨⟨ck,cn,⟨cvk,cvn,cvt⟩,cop⟩,CA,cnn,cc⟩,⟨NA,nn,nc⟩,⟨EA,en,ec⟩,⟨OA,ol,oc⟩,⟨GA,gn,gc⟩,⟨BA,bn,bc⟩,count⟩:=x
 dsimp only at hk0 hE
 subst hk0
 obtain ⟨ad,bl,bo,rfl,hadd0,hc0⟩:=RdK.cells hL 1 slE_length (by omega) 0 (by simp)
 have l0:=hc0 0 _ rfl
 simp only [Nat.zero_mul,Nat.add_zero] at hadd0 l0
 simp only [List.getElem_cons_zero] at l0
 have Het:=lh hE
 simp only [XC.val,ETypeC] at Het
 simp only [PC.val] at *
 obtain ⟨r1,r2⟩:=r
 dsimp only at Het ⊢
 obtain ⟨W,hW⟩:∃ W,W=w.alloc (.cells #[.int .i64 2,.string k1,.slice A2 n2 c2',.int .i64 ck,.string cn,.int .i64 cvk,.int .i64 cvn,.string cvt,.string cop,.slice CA cnn cc,.slice NA nn nc,.slice EA en ec,.slice OA ol oc,.slice GA gn gc,.slice BA bn bc,.int .i64 count] 49):=⟨_,rfl⟩
 have t0:Touch [] w W:=hW ▸ (Touch.refl [] w).alloc _
 have hb0:=hW ▸ heap_alloc_new w (.cells #[.int .i64 2,.string k1,.slice A2 n2 c2',.int .i64 ck,.string cn,.int .i64 cvk,.int .i64 cvn,.string cvt,.string cop,.slice CA cnn cc,.slice NA nn nc,.slice EA en ec,.slice OA ol oc,.slice GA gn gc,.slice BA bn bc,.int .i64 count] 49)
 have l0d:=t0.drew.cell l0 (by simp)
 obtain ⟨p0,p1,p2,p3,p4,p5,p6,p7,p8,p9,p10,p11,p12,p13,p14,p15⟩:=blk16 ((Touch.refl [] W).drew.blk hb0 (by simp))
 have HP:Hid (W.drew.cell? ⟨w.heap.size,0,none⟩=some (.int .i64 2)/\W.drew.cell? ⟨w.heap.size,1,none⟩=some (.string k1)/\W.drew.cell? ⟨w.heap.size,2,none⟩=some (.slice A2 n2 c2')/\W.drew.cell? ⟨w.heap.size,3,none⟩=some (.int .i64 ck)/\W.drew.cell? ⟨w.heap.size,4,none⟩=some (.string cn)/\W.drew.cell? ⟨w.heap.size,5,none⟩=some (.int .i64 cvk)/\W.drew.cell? ⟨w.heap.size,6,none⟩=some (.int .i64 cvn)/\W.drew.cell? ⟨w.heap.size,7,none⟩=some (.string cvt)/\W.drew.cell? ⟨w.heap.size,8,none⟩=some (.string cop)/\W.drew.cell? ⟨w.heap.size,9,none⟩=some (.slice CA cnn cc)/\W.drew.cell? ⟨w.heap.size,10,none⟩=some (.slice NA nn nc)/\W.drew.cell? ⟨w.heap.size,11,none⟩=some (.slice EA en ec)/\W.drew.cell? ⟨w.heap.size,12,none⟩=some (.slice OA ol oc)/\W.drew.cell? ⟨w.heap.size,13,none⟩=some (.slice GA gn gc)/\W.drew.cell? ⟨w.heap.size,14,none⟩=some (.slice BA bn bc)/\W.drew.cell? ⟨w.heap.size,15,none⟩=some (.int .i64 count)/\W.drew.cell? ⟨bl,bo,none⟩=some (.slice SA a.length sc)):=lh ⟨p0,p1,p2,p3,p4,p5,p6,p7,p8,p9,p10,p11,p12,p13,p14,p15,l0d⟩
 have HW:=lh hW
 have HT0:=lh t0.drew
 have HQ:=lh t0
 clear hE hL hc0 l0 hW t0 hb0 l0d p0 p1 p2 p3 p4 p5 p6 p7 p8 p9 p10 p11 p12 p13 p14 p15
 go_enter Tryz.func64,Tryz.ntmps64
 go_wp2_with fail
 rw [<- HW.out]
 go_region_held3 (fun w'=>w'.cell? ⟨w.heap.size,0,none⟩=some (.int .i64 2)/\w'.cell? ⟨w.heap.size,1,none⟩=some (.string k1)/\w'.cell? ⟨w.heap.size,2,none⟩=some (.slice A2 n2 c2')/\w'.cell? ⟨w.heap.size,3,none⟩=some (.int .i64 ck)/\w'.cell? ⟨w.heap.size,4,none⟩=some (.string cn)/\w'.cell? ⟨w.heap.size,5,none⟩=some (.int .i64 cvk)/\w'.cell? ⟨w.heap.size,6,none⟩=some (.int .i64 cvn)/\w'.cell? ⟨w.heap.size,7,none⟩=some (.string cvt)/\w'.cell? ⟨w.heap.size,8,none⟩=some (.string cop)/\w'.cell? ⟨w.heap.size,9,none⟩=some (.slice CA cnn cc)/\w'.cell? ⟨w.heap.size,10,none⟩=some (.slice NA nn nc)/\w'.cell? ⟨w.heap.size,11,none⟩=some (.slice EA en ec)/\w'.cell? ⟨w.heap.size,12,none⟩=some (.slice OA ol oc)/\w'.cell? ⟨w.heap.size,13,none⟩=some (.slice GA gn gc)/\w'.cell? ⟨w.heap.size,14,none⟩=some (.slice BA bn bc)/\w'.cell? ⟨w.heap.size,15,none⟩=some (.int .i64 count)/\w'.cell? ⟨bl,bo,none⟩=some (.slice SA a.length sc)) (first | exact HP.out | exact keep17 HT1.out HP.out) (first
  | (go_at_call 68;refine (Het.out _ HT0.out).mono ?_;rintro e w1 ⟨rfl,t1⟩;have HT1:=lh t1;clear t1))
 have z0:=(keep17 HT1.out HP.out).2.2.2.2.2.2.2.2.2.2.2.2.2.2.2.2
 go_wp2_with fail
 go_ret2
 exact ⟨rfl,HT0.out.trans0 HT1.out⟩
theorem schema_keep (x:PC) (hk0:x.kind=3) (names:List ByteArray) (xs:List XC) (ets:List (Int × Int)) (hnn:x.names.n=names.length) (hen:x.exprs.n=xs.length) (hle:ets.length=xs.length) (hln:names.length<=100000) (hlx:xs.length<=100000) (L:Option Addr) (lc:Nat) (s1:SL) (a:List CD) (h1:s1.n=a.length) (w:World)
  (hL:RdK slE w L [s1]) (hr:RdK btE w x.names.A names) (hx:RdK xcE w x.exprs.A xs) (hE:∀ i (h1:i < xs.length) (h2:i < ets.length),ETypeC w s1.A s1.c s1.n xs[i] ets[i]) :
  Calls Tryz.prog 64 #[x.val,.slice L 1 lc] w (SchPost (keepV names ets) w):=by
 obtain ⟨SA,sn,sc⟩:=s1
 dsimp only at *
 subst h1
 obtain ⟨k0,k1,⟨A2,n2,c2'⟩,⟨⟨ck,cn,⟨cvk,cvn,cvt⟩,cop⟩,CA,cnn,cc⟩,⟨NA,nn,nc⟩,⟨EA,en,ec⟩,⟨OA,ol,oc⟩,⟨GA,gn,gc⟩,⟨BA,bn,bc⟩,count⟩:=x
 dsimp only at hk0 hnn hen hr hx
 subst hk0
 obtain ⟨ad,bl,bo,rfl,hadd0,hc0⟩:=RdK.cells hL 1 slE_length (by omega) 0 (by simp)
 have l0:=hc0 0 _ rfl
 simp only [Nat.zero_mul,Nat.add_zero] at hadd0 l0
 simp only [List.getElem_cons_zero] at l0
 have Hgs:=lh fun w' (t:Touch [] w w')=>keepSchema_any ⟨3,k1,⟨A2,n2,c2'⟩,⟨⟨ck,cn,⟨cvk,cvn,cvt⟩,cop⟩,CA,cnn,cc⟩,⟨NA,nn,nc⟩,⟨EA,en,ec⟩,⟨OA,ol,oc⟩,⟨GA,gn,gc⟩,⟨BA,bn,bc⟩,count⟩ names xs ets hnn hen hle SA sc a.length hln hlx w' (RdK.touch0 hr t) (RdK.touch0 hx t) (fun i h1 h2 w'' t2=>hE i h1 h2 w'' (t.trans0 t2))
 simp only [PC.val] at *
 obtain ⟨V,hV⟩:∃ V,V=keepV names ets:=⟨_,rfl⟩
 rw [<- hV] at Hgs ⊢
 obtain ⟨W,hW⟩:∃ W,W=w.alloc (.cells #[.int .i64 3,.string k1,.slice A2 n2 c2',.int .i64 ck,.string cn,.int .i64 cvk,.int .i64 cvn,.string cvt,.string cop,.slice CA cnn cc,.slice NA nn nc,.slice EA en ec,.slice OA ol oc,.slice GA gn gc,.slice BA bn bc,.int .i64 count] 49):=⟨_,rfl⟩
 have t0:Touch [] w W:=hW ▸ (Touch.refl [] w).alloc _
 have hb0:=hW ▸ heap_alloc_new w (.cells #[.int .i64 3,.string k1,.slice A2 n2 c2',.int .i64 ck,.string cn,.int .i64 cvk,.int .i64 cvn,.string cvt,.string cop,.slice CA cnn cc,.slice NA nn nc,.slice EA en ec,.slice OA ol oc,.slice GA gn gc,.slice BA bn bc,.int .i64 count] 49)
 have l0d:=t0.drew.cell l0 (by simp)
 obtain ⟨p0,p1,p2,p3,p4,p5,p6,p7,p8,p9,p10,p11,p12,p13,p14,p15⟩:=blk16 ((Touch.refl [] W).drew.blk hb0 (by simp))
 have HP:Hid (W.drew.cell? ⟨w.heap.size,0,none⟩=some (.int .i64 3)/\W.drew.cell? ⟨w.heap.size,1,none⟩=some (.string k1)/\W.drew.cell? ⟨w.heap.size,2,none⟩=some (.slice A2 n2 c2')/\W.drew.cell? ⟨w.heap.size,3,none⟩=some (.int .i64 ck)/\W.drew.cell? ⟨w.heap.size,4,none⟩=some (.string cn)/\W.drew.cell? ⟨w.heap.size,5,none⟩=some (.int .i64 cvk)/\W.drew.cell? ⟨w.heap.size,6,none⟩=some (.int .i64 cvn)/\W.drew.cell? ⟨w.heap.size,7,none⟩=some (.string cvt)/\W.drew.cell? ⟨w.heap.size,8,none⟩=some (.string cop)/\W.drew.cell? ⟨w.heap.size,9,none⟩=some (.slice CA cnn cc)/\W.drew.cell? ⟨w.heap.size,10,none⟩=some (.slice NA nn nc)/\W.drew.cell? ⟨w.heap.size,11,none⟩=some (.slice EA en ec)/\W.drew.cell? ⟨w.heap.size,12,none⟩=some (.slice OA ol oc)/\W.drew.cell? ⟨w.heap.size,13,none⟩=some (.slice GA gn gc)/\W.drew.cell? ⟨w.heap.size,14,none⟩=some (.slice BA bn bc)/\W.drew.cell? ⟨w.heap.size,15,none⟩=some (.int .i64 count)/\W.drew.cell? ⟨bl,bo,none⟩=some (.slice SA a.length sc)):=lh ⟨p0,p1,p2,p3,p4,p5,p6,p7,p8,p9,p10,p11,p12,p13,p14,p15,l0d⟩
 have HW:=lh hW
 have HT0:=lh t0.drew
 have HQ:=lh t0
 clear hnn hen hle hr hx hE hL hc0 hV l0 hW t0 hb0 l0d p0 p1 p2 p3 p4 p5 p6 p7 p8 p9 p10 p11 p12 p13 p14 p15
 go_enter Tryz.func64,Tryz.ntmps64
 go_wp2_with fail
 rw [<- HW.out]
 go_region_held3 (fun w'=>w'.cell? ⟨w.heap.size,0,none⟩=some (.int .i64 3)/\w'.cell? ⟨w.heap.size,1,none⟩=some (.string k1)/\w'.cell? ⟨w.heap.size,2,none⟩=some (.slice A2 n2 c2')/\w'.cell? ⟨w.heap.size,3,none⟩=some (.int .i64 ck)/\w'.cell? ⟨w.heap.size,4,none⟩=some (.string cn)/\w'.cell? ⟨w.heap.size,5,none⟩=some (.int .i64 cvk)/\w'.cell? ⟨w.heap.size,6,none⟩=some (.int .i64 cvn)/\w'.cell? ⟨w.heap.size,7,none⟩=some (.string cvt)/\w'.cell? ⟨w.heap.size,8,none⟩=some (.string cop)/\w'.cell? ⟨w.heap.size,9,none⟩=some (.slice CA cnn cc)/\w'.cell? ⟨w.heap.size,10,none⟩=some (.slice NA nn nc)/\w'.cell? ⟨w.heap.size,11,none⟩=some (.slice EA en ec)/\w'.cell? ⟨w.heap.size,12,none⟩=some (.slice OA ol oc)/\w'.cell? ⟨w.heap.size,13,none⟩=some (.slice GA gn gc)/\w'.cell? ⟨w.heap.size,14,none⟩=some (.slice BA bn bc)/\w'.cell? ⟨w.heap.size,15,none⟩=some (.int .i64 count)/\w'.cell? ⟨bl,bo,none⟩=some (.slice SA a.length sc)) (first | exact HP.out | exact keep17 M1.out.t HP.out) (first
  | (go_at_call 89;refine (Hgs.out _ HT0.out).mono ?_;rintro e w1 ⟨A1,c1,rfl,m1⟩;have M1:=lh m1;clear m1))
 go_wp2_with fail
 go_ret2
 exact ⟨A1,c1,rfl,M1.out.own,HT0.out.trans0 M1.out.t,fun b hb=>Nat.le_trans HT0.out.size (M1.out.f b hb)⟩
theorem schema_union (x:PC) (hk0:x.kind=7) (L:Option Addr) (lc:Nat) (s1 s2:SL) (a b:List CD) (h1:s1.n=a.length) (h2:s2.n=b.length) (hl1:a.length<=1000000) (hl2:b.length<=1000000) (w:World)
  (hL:RdK slE w L [s1,s2]) (ha:ColsAt w s1.A a) (hb:ColsAt w s2.A b) :
  Calls Tryz.prog 64 #[x.val,.slice L 2 lc] w fun e w'=>e=.returned (if eqCs a b=true then .tuple #[.slice s1.A s1.n s1.c,.int .i64 0] else .tuple #[.slice none 0 0,.int .i64 12])/\Touch [] w w':=by
 obtain ⟨SA,sn,sc⟩:=s1
 obtain ⟨SB,tn,tc⟩:=s2
 dsimp only at *
 subst h1 h2
 obtain ⟨k0,k1,⟨A2,n2,c2'⟩,⟨⟨ck,cn,⟨cvk,cvn,cvt⟩,cop⟩,CA,cnn,cc⟩,⟨NA,nn,nc⟩,⟨EA,en,ec⟩,⟨OA,ol,oc⟩,⟨GA,gn,gc⟩,⟨BA,bn,bc⟩,count⟩:=x
 dsimp only at hk0
 subst hk0
 obtain ⟨ad,bl,bo,rfl,hadd0,hc0⟩:=RdK.cells hL 1 slE_length (by omega) 0 (by simp)
 obtain ⟨ad',bl',bo',e',hadd1,hc1⟩:=RdK.cells hL 1 slE_length (by omega) 1 (by simp)
 obtain rfl:ad=ad':=by injection e'
 have l0:=hc0 0 _ rfl
 have l1:=hc1 0 _ rfl
 simp only [Nat.zero_mul,Nat.one_mul,Nat.add_zero] at hadd0 hadd1 l0 l1
 simp only [List.getElem_cons_zero,List.getElem_cons_succ] at l0 l1
 have Heq:=lh fun w' (t:Touch [] w w')=>schEqual_any SA SB sc tc a.length b.length a b rfl rfl w' (ha.touch0 t) (hb.touch0 t) (by omega) (by omega)
 simp only [PC.val] at *
 obtain ⟨K,hK⟩:∃ K,K=eqCs a b:=⟨_,rfl⟩
 rw [<- hK] at Heq ⊢
 obtain ⟨W,hW⟩:∃ W,W=w.alloc (.cells #[.int .i64 7,.string k1,.slice A2 n2 c2',.int .i64 ck,.string cn,.int .i64 cvk,.int .i64 cvn,.string cvt,.string cop,.slice CA cnn cc,.slice NA nn nc,.slice EA en ec,.slice OA ol oc,.slice GA gn gc,.slice BA bn bc,.int .i64 count] 49):=⟨_,rfl⟩
 have t0:Touch [] w W:=hW ▸ (Touch.refl [] w).alloc _
 have hb0:=hW ▸ heap_alloc_new w (.cells #[.int .i64 7,.string k1,.slice A2 n2 c2',.int .i64 ck,.string cn,.int .i64 cvk,.int .i64 cvn,.string cvt,.string cop,.slice CA cnn cc,.slice NA nn nc,.slice EA en ec,.slice OA ol oc,.slice GA gn gc,.slice BA bn bc,.int .i64 count] 49)
 have l0d:=t0.drew.cell l0 (by simp)
 have l1d:=t0.drew.cell l1 (by simp)
 obtain ⟨p0,p1,p2,p3,p4,p5,p6,p7,p8,p9,p10,p11,p12,p13,p14,p15⟩:=blk16 ((Touch.refl [] W).drew.blk hb0 (by simp))
 have HP:Hid (W.drew.cell? ⟨w.heap.size,0,none⟩=some (.int .i64 7)/\W.drew.cell? ⟨w.heap.size,1,none⟩=some (.string k1)/\W.drew.cell? ⟨w.heap.size,2,none⟩=some (.slice A2 n2 c2')/\W.drew.cell? ⟨w.heap.size,3,none⟩=some (.int .i64 ck)/\W.drew.cell? ⟨w.heap.size,4,none⟩=some (.string cn)/\W.drew.cell? ⟨w.heap.size,5,none⟩=some (.int .i64 cvk)/\W.drew.cell? ⟨w.heap.size,6,none⟩=some (.int .i64 cvn)/\W.drew.cell? ⟨w.heap.size,7,none⟩=some (.string cvt)/\W.drew.cell? ⟨w.heap.size,8,none⟩=some (.string cop)/\W.drew.cell? ⟨w.heap.size,9,none⟩=some (.slice CA cnn cc)/\W.drew.cell? ⟨w.heap.size,10,none⟩=some (.slice NA nn nc)/\W.drew.cell? ⟨w.heap.size,11,none⟩=some (.slice EA en ec)/\W.drew.cell? ⟨w.heap.size,12,none⟩=some (.slice OA ol oc)/\W.drew.cell? ⟨w.heap.size,13,none⟩=some (.slice GA gn gc)/\W.drew.cell? ⟨w.heap.size,14,none⟩=some (.slice BA bn bc)/\W.drew.cell? ⟨w.heap.size,15,none⟩=some (.int .i64 count)/\W.drew.cell? ⟨bl,bo,none⟩=some (.slice SA a.length sc)/\W.drew.cell? ⟨bl',bo',none⟩=some (.slice SB b.length tc)):=lh ⟨p0,p1,p2,p3,p4,p5,p6,p7,p8,p9,p10,p11,p12,p13,p14,p15,l0d,l1d⟩
 have HW:=lh hW
 have HT0:=lh t0.drew
 have HQ:=lh t0
 clear ha hb hL hc0 hc1 hK l0 l1 e' hW t0 hb0 l0d l1d p0 p1 p2 p3 p4 p5 p6 p7 p8 p9 p10 p11 p12 p13 p14 p15
 cases K
 ·go_enter Tryz.func64,Tryz.ntmps64
  go_wp2_with fail
  rw [<- HW.out]
  go_region_held3 (fun w'=>w'.cell? ⟨w.heap.size,0,none⟩=some (.int .i64 7)/\w'.cell? ⟨w.heap.size,1,none⟩=some (.string k1)/\w'.cell? ⟨w.heap.size,2,none⟩=some (.slice A2 n2 c2')/\w'.cell? ⟨w.heap.size,3,none⟩=some (.int .i64 ck)/\w'.cell? ⟨w.heap.size,4,none⟩=some (.string cn)/\w'.cell? ⟨w.heap.size,5,none⟩=some (.int .i64 cvk)/\w'.cell? ⟨w.heap.size,6,none⟩=some (.int .i64 cvn)/\w'.cell? ⟨w.heap.size,7,none⟩=some (.string cvt)/\w'.cell? ⟨w.heap.size,8,none⟩=some (.string cop)/\w'.cell? ⟨w.heap.size,9,none⟩=some (.slice CA cnn cc)/\w'.cell? ⟨w.heap.size,10,none⟩=some (.slice NA nn nc)/\w'.cell? ⟨w.heap.size,11,none⟩=some (.slice EA en ec)/\w'.cell? ⟨w.heap.size,12,none⟩=some (.slice OA ol oc)/\w'.cell? ⟨w.heap.size,13,none⟩=some (.slice GA gn gc)/\w'.cell? ⟨w.heap.size,14,none⟩=some (.slice BA bn bc)/\w'.cell? ⟨w.heap.size,15,none⟩=some (.int .i64 count)/\w'.cell? ⟨bl,bo,none⟩=some (.slice SA a.length sc)/\w'.cell? ⟨bl',bo',none⟩=some (.slice SB b.length tc)) (first | exact HP.out | exact keep18 HT1.out HP.out) (first
   | (go_at_call 18;refine (Heq.out _ HT0.out).mono ?_;rintro e w1 ⟨rfl,t1⟩;have HT1:=lh t1;clear t1))
  have z0:=(keep18 HT1.out HP.out).2.2.2.2.2.2.2.2.2.2.2.2.2.2.2.2.1
  have z1:=(keep18 HT1.out HP.out).1
  go_wp2_with fail
  go_ret2
  exact ⟨rfl,HT0.out.trans0 HT1.out⟩
 ·go_enter Tryz.func64,Tryz.ntmps64
  go_wp2_with fail
  rw [<- HW.out]
  go_region_held3 (fun w'=>w'.cell? ⟨w.heap.size,0,none⟩=some (.int .i64 7)/\w'.cell? ⟨w.heap.size,1,none⟩=some (.string k1)/\w'.cell? ⟨w.heap.size,2,none⟩=some (.slice A2 n2 c2')/\w'.cell? ⟨w.heap.size,3,none⟩=some (.int .i64 ck)/\w'.cell? ⟨w.heap.size,4,none⟩=some (.string cn)/\w'.cell? ⟨w.heap.size,5,none⟩=some (.int .i64 cvk)/\w'.cell? ⟨w.heap.size,6,none⟩=some (.int .i64 cvn)/\w'.cell? ⟨w.heap.size,7,none⟩=some (.string cvt)/\w'.cell? ⟨w.heap.size,8,none⟩=some (.string cop)/\w'.cell? ⟨w.heap.size,9,none⟩=some (.slice CA cnn cc)/\w'.cell? ⟨w.heap.size,10,none⟩=some (.slice NA nn nc)/\w'.cell? ⟨w.heap.size,11,none⟩=some (.slice EA en ec)/\w'.cell? ⟨w.heap.size,12,none⟩=some (.slice OA ol oc)/\w'.cell? ⟨w.heap.size,13,none⟩=some (.slice GA gn gc)/\w'.cell? ⟨w.heap.size,14,none⟩=some (.slice BA bn bc)/\w'.cell? ⟨w.heap.size,15,none⟩=some (.int .i64 count)/\w'.cell? ⟨bl,bo,none⟩=some (.slice SA a.length sc)/\w'.cell? ⟨bl',bo',none⟩=some (.slice SB b.length tc)) (first | exact HP.out | exact keep18 HT1.out HP.out) (first
   | (go_at_call 18;refine (Heq.out _ HT0.out).mono ?_;rintro e w1 ⟨rfl,t1⟩;have HT1:=lh t1;clear t1))
  have z0:=(keep18 HT1.out HP.out).2.2.2.2.2.2.2.2.2.2.2.2.2.2.2.2.1
  have z1:=(keep18 HT1.out HP.out).1
  go_wp2_with fail
  go_ret2
  exact ⟨rfl,HT0.out.trans0 HT1.out⟩
theorem schema_distinct (x:PC) (hk0:x.kind=8) (L:Option Addr) (lc:Nat) (s1:SL) (w:World) (hL:RdK slE w L [s1]) :
  Calls Tryz.prog 64 #[x.val,.slice L 1 lc] w fun e w'=>e=.returned (.tuple #[.slice s1.A s1.n s1.c,.int .i64 0])/\Touch [] w w':=by
 obtain ⟨SA,sn,sc⟩:=s1
 obtain ⟨k0,k1,⟨A2,n2,c2'⟩,⟨⟨ck,cn,⟨cvk,cvn,cvt⟩,cop⟩,CA,cnn,cc⟩,⟨NA,nn,nc⟩,⟨EA,en,ec⟩,⟨OA,ol,oc⟩,⟨GA,gn,gc⟩,⟨BA,bn,bc⟩,count⟩:=x
 dsimp only at hk0
 subst hk0
 obtain ⟨ad,bl,bo,rfl,hadd0,hc0⟩:=RdK.cells hL 1 slE_length (by omega) 0 (by simp)
 have l0:=hc0 0 _ rfl
 simp only [Nat.zero_mul,Nat.add_zero] at hadd0 l0
 simp only [List.getElem_cons_zero] at l0
 simp only [PC.val] at *
 have t0:=(Touch.refl [] w).alloc (.cells #[.int .i64 8,.string k1,.slice A2 n2 c2',.int .i64 ck,.string cn,.int .i64 cvk,.int .i64 cvn,.string cvt,.string cop,.slice CA cnn cc,.slice NA nn nc,.slice EA en ec,.slice OA ol oc,.slice GA gn gc,.slice BA bn bc,.int .i64 count] 49)
 have l0d:=t0.cell l0 (by simp)
 have HT0:=lh t0
 clear hL hc0 l0 t0
 go_enter Tryz.func64,Tryz.ntmps64
 go_wp2
 go_ret2
 exact ⟨rfl,HT0.out⟩
theorem schema_first (x:PC) (hk0:x.kind=9) (l:List (ByteArray × Bool)) (hlb:x.by_.n=l.length) (hll:l.length<=1000000) (L:Option Addr) (lc:Nat) (s1:SL) (a:List CD) (h1:s1.n=a.length) (hl1:a.length<=1000000) (w:World)
  (hL:RdK slE w L [s1]) (hr:RdK odE w x.by_.A l) (ha:ColsAt w s1.A a) :
  Calls Tryz.prog 64 #[x.val,.slice L 1 lc] w fun e w'=>e=.returned (.tuple #[.slice s1.A s1.n s1.c,.int .i64 (byV a l x.count)])/\Touch [] w w':=by
 obtain ⟨SA,sn,sc⟩:=s1
 dsimp only at *
 subst h1
 obtain ⟨k0,k1,⟨A2,n2,c2'⟩,⟨⟨ck,cn,⟨cvk,cvn,cvt⟩,cop⟩,CA,cnn,cc⟩,⟨NA,nn,nc⟩,⟨EA,en,ec⟩,⟨OA,ol,oc⟩,⟨GA,gn,gc⟩,⟨BA,bn,bc⟩,count⟩:=x
 dsimp only at hk0 hlb hr ⊢
 subst hk0
 obtain ⟨ad,bl,bo,rfl,hadd0,hc0⟩:=RdK.cells hL 1 slE_length (by omega) 0 (by simp)
 have l0:=hc0 0 _ rfl
 simp only [Nat.zero_mul,Nat.add_zero] at hadd0 l0
 simp only [List.getElem_cons_zero] at l0
 have Hby:=lh fun w' (t:Touch [] w w')=>checkBy_any ⟨9,k1,⟨A2,n2,c2'⟩,⟨⟨ck,cn,⟨cvk,cvn,cvt⟩,cop⟩,CA,cnn,cc⟩,⟨NA,nn,nc⟩,⟨EA,en,ec⟩,⟨OA,ol,oc⟩,⟨GA,gn,gc⟩,⟨BA,bn,bc⟩,count⟩ l hlb SA sc a.length a rfl (by omega) hll w' (RdK.touch0 hr t) (ha.touch0 t)
 simp only [PC.val] at *
 obtain ⟨V,hV⟩:∃ V,V=byV a l count:=⟨_,rfl⟩
 rw [<- hV] at Hby ⊢
 obtain ⟨W,hW⟩:∃ W,W=w.alloc (.cells #[.int .i64 9,.string k1,.slice A2 n2 c2',.int .i64 ck,.string cn,.int .i64 cvk,.int .i64 cvn,.string cvt,.string cop,.slice CA cnn cc,.slice NA nn nc,.slice EA en ec,.slice OA ol oc,.slice GA gn gc,.slice BA bn bc,.int .i64 count] 49):=⟨_,rfl⟩
 have t0:Touch [] w W:=hW ▸ (Touch.refl [] w).alloc _
 have hb0:=hW ▸ heap_alloc_new w (.cells #[.int .i64 9,.string k1,.slice A2 n2 c2',.int .i64 ck,.string cn,.int .i64 cvk,.int .i64 cvn,.string cvt,.string cop,.slice CA cnn cc,.slice NA nn nc,.slice EA en ec,.slice OA ol oc,.slice GA gn gc,.slice BA bn bc,.int .i64 count] 49)
 have l0d:=t0.drew.cell l0 (by simp)
 obtain ⟨p0,p1,p2,p3,p4,p5,p6,p7,p8,p9,p10,p11,p12,p13,p14,p15⟩:=blk16 ((Touch.refl [] W).drew.blk hb0 (by simp))
 have HP:Hid (W.drew.cell? ⟨w.heap.size,0,none⟩=some (.int .i64 9)/\W.drew.cell? ⟨w.heap.size,1,none⟩=some (.string k1)/\W.drew.cell? ⟨w.heap.size,2,none⟩=some (.slice A2 n2 c2')/\W.drew.cell? ⟨w.heap.size,3,none⟩=some (.int .i64 ck)/\W.drew.cell? ⟨w.heap.size,4,none⟩=some (.string cn)/\W.drew.cell? ⟨w.heap.size,5,none⟩=some (.int .i64 cvk)/\W.drew.cell? ⟨w.heap.size,6,none⟩=some (.int .i64 cvn)/\W.drew.cell? ⟨w.heap.size,7,none⟩=some (.string cvt)/\W.drew.cell? ⟨w.heap.size,8,none⟩=some (.string cop)/\W.drew.cell? ⟨w.heap.size,9,none⟩=some (.slice CA cnn cc)/\W.drew.cell? ⟨w.heap.size,10,none⟩=some (.slice NA nn nc)/\W.drew.cell? ⟨w.heap.size,11,none⟩=some (.slice EA en ec)/\W.drew.cell? ⟨w.heap.size,12,none⟩=some (.slice OA ol oc)/\W.drew.cell? ⟨w.heap.size,13,none⟩=some (.slice GA gn gc)/\W.drew.cell? ⟨w.heap.size,14,none⟩=some (.slice BA bn bc)/\W.drew.cell? ⟨w.heap.size,15,none⟩=some (.int .i64 count)/\W.drew.cell? ⟨bl,bo,none⟩=some (.slice SA a.length sc)):=lh ⟨p0,p1,p2,p3,p4,p5,p6,p7,p8,p9,p10,p11,p12,p13,p14,p15,l0d⟩
 have HW:=lh hW
 have HT0:=lh t0.drew
 have HQ:=lh t0
 clear hlb hr ha hL hc0 hV l0 hW t0 hb0 l0d p0 p1 p2 p3 p4 p5 p6 p7 p8 p9 p10 p11 p12 p13 p14 p15
 go_enter Tryz.func64,Tryz.ntmps64
 go_wp2_with fail
 rw [<- HW.out]
 go_region_held3 (fun w'=>w'.cell? ⟨w.heap.size,0,none⟩=some (.int .i64 9)/\w'.cell? ⟨w.heap.size,1,none⟩=some (.string k1)/\w'.cell? ⟨w.heap.size,2,none⟩=some (.slice A2 n2 c2')/\w'.cell? ⟨w.heap.size,3,none⟩=some (.int .i64 ck)/\w'.cell? ⟨w.heap.size,4,none⟩=some (.string cn)/\w'.cell? ⟨w.heap.size,5,none⟩=some (.int .i64 cvk)/\w'.cell? ⟨w.heap.size,6,none⟩=some (.int .i64 cvn)/\w'.cell? ⟨w.heap.size,7,none⟩=some (.string cvt)/\w'.cell? ⟨w.heap.size,8,none⟩=some (.string cop)/\w'.cell? ⟨w.heap.size,9,none⟩=some (.slice CA cnn cc)/\w'.cell? ⟨w.heap.size,10,none⟩=some (.slice NA nn nc)/\w'.cell? ⟨w.heap.size,11,none⟩=some (.slice EA en ec)/\w'.cell? ⟨w.heap.size,12,none⟩=some (.slice OA ol oc)/\w'.cell? ⟨w.heap.size,13,none⟩=some (.slice GA gn gc)/\w'.cell? ⟨w.heap.size,14,none⟩=some (.slice BA bn bc)/\w'.cell? ⟨w.heap.size,15,none⟩=some (.int .i64 count)/\w'.cell? ⟨bl,bo,none⟩=some (.slice SA a.length sc)) (first | exact HP.out | exact keep17 HT1.out HP.out) (first
  | (go_at_call 93;refine (Hby.out _ HT0.out).mono ?_;rintro e w1 ⟨rfl,t1⟩;have HT1:=lh t1;clear t1))
 go_wp2_with fail
 go_ret2
 exact ⟨rfl,HT0.out.trans0 HT1.out⟩
end
section
open Go.RowKit
theorem schemaC_left (x:PC) (hk0:x.kind=5) (on:List (ByteArray × ByteArray)) (ho:x.on.n=on.length) (hlo:on.length<=1000000) (a b:List CD) (hl1:a.length<=1000) (hl2:b.length<=1000) (w:World) (hr:RdK prE w x.on.A on):SchemaC w x [a,b] (onV a b on,a++b):=by
 intro w' base L lc sl t hb hs hL
 obtain ⟨hs1,hs2⟩:=hs
 match sl,hs1 with
 | [s1,s2],_ =>
  have h1:=hs2 0 (by simp) (by simp)
  have h2:=hs2 1 (by simp) (by simp)
  refine (schema_left x hk0 on ho hlo L lc s1 s2 a b h1.1 h2.1 h1.2.1 h2.2.1 hl1 hl2 w' hL (RdK.touch0 hr t) h1.2.2.1 h2.2.2.1).mono ?_
  rintro e w'' ⟨A,c,rfl,hm⟩
  exact (TyPost.made hm).base hb
theorem TyPost.same {base:Nat} {w w':World} {s:SL} {a:List CD} {k:Int} (h1:s.n=a.length) (h2:s.n<=s.c) (h3:ColsAt w s.A a) (h4:∀ b∈fpo s.A,base<=b/\b < w.heap.size) (t:Touch [] w w'):TyPost base (k,a) w (.returned (.tuple #[.slice s.A s.n s.c,.int .i64 k])) w' :=
 ⟨s,rfl,h1,h2,h3.touch0 t,fun b hb=>⟨(h4 b hb).1,Nat.lt_of_lt_of_le (h4 b hb).2 t.size⟩,t⟩
theorem schemaC_where (x:PC) (hk0:x.kind=2) (a:List CD) (r:Int × Int) (w:World) (hE:ETypeS w x.cond a r):SchemaC w x [a] (r.2,a):=by
 intro w' base L lc sl t hb hs hL
 obtain ⟨hs1,hs2⟩:=hs
 match sl,hs1 with
 | [s1],_ =>
  have h1:=hs2 0 (by simp) (by simp)
  have hE2:=hE.at_ t h1.2.2.1 s1.c
  rw [show a.length=s1.n from h1.1.symm] at hE2
  refine (schema_where x hk0 L lc s1 a h1.1 r w' hL hE2).mono ?_
  rintro e w'' ⟨rfl,t2⟩
  exact TyPost.same h1.1 h1.2.1 h1.2.2.1 h1.2.2.2 t2
theorem schemaC_keep (x:PC) (hk0:x.kind=3) (names:List ByteArray) (xs:List XC) (ets:List (Int × Int)) (hnn:x.names.n=names.length) (hen:x.exprs.n=xs.length) (hle:ets.length=xs.length) (hln:names.length<=100000) (hlx:xs.length<=100000) (a:List CD) (w:World)
  (hr:RdK btE w x.names.A names) (hx:RdK xcE w x.exprs.A xs) (hE:∀ i (h1:i < xs.length) (h2:i < ets.length),ETypeS w xs[i] a ets[i]):SchemaC w x [a] (keepV names ets):=by
 intro w' base L lc sl t hb hs hL
 obtain ⟨hs1,hs2⟩:=hs
 match sl,hs1 with
 | [s1],_ =>
  have h1:=hs2 0 (by simp) (by simp)
  refine (schema_keep x hk0 names xs ets hnn hen hle hln hlx L lc s1 a h1.1 w' hL (RdK.touch0 hr t) (RdK.touch0 hx t) (fun i q1 q2 => ?_)).mono ?_
  ·have hE2:=(hE i q1 q2).at_ t h1.2.2.1 s1.c
   rw [show a.length=s1.n from h1.1.symm] at hE2
   exact hE2
  ·intro e w'' h
   exact (TyPost.of h).base hb
theorem schemaC_union (x:PC) (hk0:x.kind=7) (a b:List CD) (hl1:a.length<=1000000) (hl2:b.length<=1000000) (w:World):SchemaC w x [a,b] (if eqCs a b=true then (0,a) else (12,[])):=by
 intro w' base L lc sl t hb hs hL
 obtain ⟨hs1,hs2⟩:=hs
 match sl,hs1 with
 | [s1,s2],_ =>
  have h1:=hs2 0 (by simp) (by simp)
  have h2:=hs2 1 (by simp) (by simp)
  refine (schema_union x hk0 L lc s1 s2 a b h1.1 h2.1 hl1 hl2 w' hL h1.2.2.1 h2.2.2.1).mono ?_
  rintro e w'' ⟨rfl,t2⟩
  by_cases h:eqCs a b=true
  ·rw [if_pos h,if_pos h]
   exact TyPost.same h1.1 h1.2.1 h1.2.2.1 h1.2.2.2 t2
  ·rw [if_neg h,if_neg h]
   exact TyPost.err _ 12 t2
theorem schemaC_distinct (x:PC) (hk0:x.kind=8) (a:List CD) (w:World):SchemaC w x [a] (0,a):=by
 intro w' base L lc sl t hb hs hL
 obtain ⟨hs1,hs2⟩:=hs
 match sl,hs1 with
 | [s1],_ =>
  have h1:=hs2 0 (by simp) (by simp)
  refine (schema_distinct x hk0 L lc s1 w' hL).mono ?_
  rintro e w'' ⟨rfl,t2⟩
  exact TyPost.same h1.1 h1.2.1 h1.2.2.1 h1.2.2.2 t2
theorem schemaC_first (x:PC) (hk0:x.kind=9) (l:List (ByteArray × Bool)) (hlb:x.by_.n=l.length) (hll:l.length<=1000000) (a:List CD) (hl1:a.length<=1000000) (w:World) (hr:RdK odE w x.by_.A l):SchemaC w x [a] (byV a l x.count,a):=by
 intro w' base L lc sl t hb hs hL
 obtain ⟨hs1,hs2⟩:=hs
 match sl,hs1 with
 | [s1],_ =>
  have h1:=hs2 0 (by simp) (by simp)
  refine (schema_first x hk0 l hlb hll L lc s1 a h1.1 hl1 w' hL (RdK.touch0 hr t) h1.2.2.1).mono ?_
  rintro e w'' ⟨rfl,t2⟩
  exact TyPost.same h1.1 h1.2.1 h1.2.2.1 h1.2.2.2 t2
theorem typed_wrong (x:PC) (hk:x.kind < 1\/9 < x.kind) (d:Int) (hd:d<=16) (I:Option Addr) (ic n:Nat) (w:World) :
  Calls Tryz.prog 31 #[x.val,.slice I n ic,.int .i64 d] w (TyPost w.heap.size (20,[]) w):=by
 obtain ⟨k0,k1,⟨A2,n2,c2'⟩,⟨⟨ck,cn,⟨cvk,cvn,cvt⟩,cop⟩,CA,cnn,cc⟩,⟨NA,nn,nc⟩,⟨EA,en,ec⟩,⟨OA,ol,oc⟩,⟨GA,gn,gc⟩,⟨BA,bn,bc⟩,count⟩:=x
 dsimp only at hk ⊢
 simp only [PC.val]
 obtain ⟨W,hW⟩:∃ W,W=w.alloc (.cells #[.int .i64 k0,.string k1,.slice A2 n2 c2',.int .i64 ck,.string cn,.int .i64 cvk,.int .i64 cvn,.string cvt,.string cop,.slice CA cnn cc,.slice NA nn nc,.slice EA en ec,.slice OA ol oc,.slice GA gn gc,.slice BA bn bc,.int .i64 count] 49):=⟨_,rfl⟩
 have t0:Touch [] w W:=hW ▸ (Touch.refl [] w).alloc _
 have hb0:=hW ▸ heap_alloc_new w (.cells #[.int .i64 k0,.string k1,.slice A2 n2 c2',.int .i64 ck,.string cn,.int .i64 cvk,.int .i64 cvn,.string cvt,.string cop,.slice CA cnn cc,.slice NA nn nc,.slice EA en ec,.slice OA ol oc,.slice GA gn gc,.slice BA bn bc,.int .i64 count] 49)
 have q0:W.cell? ⟨w.heap.size,0,none⟩=some (.int .i64 k0):=cell_blk hb0 rfl
 have hd2:(16 < d)=False:=by simp;omega
 have HW:=lh hW
 have HT0:=lh t0
 clear hb0 hW t0
 rcases hk with hk | hk
 ·have hk1:(k0 < 1)=True:=eq_true hk
  go_enter Tryz.func31,Tryz.ntmps31
  go_wp2_with fail
  rw [<- HW.out]
  go_quiet (fail)
  go_wp2
  go_ret2
  exact TyPost.err _ 20 (HT0.out.drewN _)
 ·have hk1:(k0 < 1)=False:=eq_false (by omega)
  have hk2:(9 < k0)=True:=eq_true hk
  go_enter Tryz.func31,Tryz.ntmps31
  go_wp2_with fail
  rw [<- HW.out]
  go_quiet (fail)
  go_wp2
  go_ret2
  exact TyPost.err _ 20 (HT0.out.drewN _)
theorem typedC_wrong (x:PC) (hk:x.kind < 1\/9 < x.kind) (d:Int) (hd:d<=16) (I:Option Addr) (ic n:Nat) (w:World):TypedC w I ic n x d (20,[]):=fun w' _=>typed_wrong x hk d hd I ic n w'
end
section
open Go.RowKit
def smE (m:Nat) (e:TX m):Bool:=decide (sizeX m e<=60)
def smallPl {m:Nat} (d:PD m):Bool:=d.exprs.all (smE m)&&(decide (d.names.length<=20)&&(decide (d.exprs.length<=20)&&(decide (d.on.length<=20)&&(decide (d.aggs.length<=20)&&(decide (d.by_.length<=20)&&decide (sizeX m d.cond<=60))))))
structure PD.Small {m:Nat} (d:PD m):Prop where
 x:∀ e∈d.exprs,sizeX m e<=60
 n:d.names.length<=20
 e:d.exprs.length<=20
 o:d.on.length<=20
 a:d.aggs.length<=20
 b:d.by_.length<=20
 c:sizeX m d.cond<=60
theorem smallPl_true {m:Nat} {d:PD m} (h:smallPl d=true):d.Small:=by
 unfold smallPl at h
 simp only [Bool.and_eq_true,List.all_eq_true,decide_eq_true_eq] at h
 obtain ⟨h1,h2,h3,h4,h5,h6,h7⟩:=h
 exact ⟨fun e he=>by simpa [smE] using h1 e he,h2,h3,h4,h5,h6,h7⟩
structure PD.Ok {m:Nat} (d:PD m):Prop where
 x:∀ e∈d.exprs,sizeX m e<=2000000
 n:d.names.length<=2000000
 e:d.exprs.length<=2000000
 o:d.on.length<=2000000
 a:d.aggs.length<=2000000
 b:d.by_.length<=2000000
 c:sizeX m d.cond<=2000000
theorem smallPlan_any (m:Nat) (x:PC) (d:PD m) (hd:d.Ok) (w:World) (h:PlanAt w x d) :
  Calls Tryz.prog 14 #[x.val] w fun e w'=>e=.returned (.bool (smallPl d))/\Touch [] w w':=by
 obtain ⟨-, -,hcd,hnn, -,hen,hex,hon, -,han, -,hbn, -, -⟩:=h
 obtain ⟨o1,o2,o3,o4,o5,o6,o7⟩:=hd
 have Ho1:=lh o1
 have HX:=lh hex
 have Hcs:=lh fun w' (t:Touch [] w w')=>sizeX_any m d.cond x.cond w' (hcd.touch0 t) o7
 obtain ⟨V,hV⟩:∃ V,V=smallPl d:=⟨_,rfl⟩
 have HV:=lh hV
 rw [<- hV]
 obtain ⟨k0,k1,⟨A2,n2,c2'⟩,⟨⟨ck,cn,⟨cvk,cvn,cvt⟩,cop⟩,CA,cnn,cc⟩,⟨NA,nn,nc⟩,⟨EA,en,ec⟩,⟨OA,ol,oc⟩,⟨GA,gn,gc⟩,⟨BA,bn,bc⟩,count⟩:=x
 dsimp only at hnn hen hon han hbn HX
 subst hnn hen hon han hbn
 simp only [PC.val,XC.val] at Hcs ⊢
 obtain ⟨sz,hsz⟩:∃ sz,sz=sizeX m d.cond:=⟨_,rfl⟩
 rw [<- hsz] at Hcs o7
 have Hsz:=lh hsz
 clear hsz o1 hcd hex hV
 have hb0:=heap_alloc_new w (.cells #[.int .i64 k0,.string k1,.slice A2 n2 c2',.int .i64 ck,.string cn,.int .i64 cvk,.int .i64 cvn,.string cvt,.string cop,.slice CA cnn cc,.slice NA d.names.length nc,.slice EA d.exprs.length ec,.slice OA d.on.length oc,.slice GA d.aggs.length gc,.slice BA d.by_.length bc,.int .i64 count] 49)
 have t0:=(Touch.refl [] w).alloc (.cells #[.int .i64 k0,.string k1,.slice A2 n2 c2',.int .i64 ck,.string cn,.int .i64 cvk,.int .i64 cvn,.string cvt,.string cop,.slice CA cnn cc,.slice NA d.names.length nc,.slice EA d.exprs.length ec,.slice OA d.on.length oc,.slice GA d.aggs.length gc,.slice BA d.by_.length bc,.int .i64 count] 49)
 obtain ⟨W,hW⟩:∃ W,W=w.alloc (.cells #[.int .i64 k0,.string k1,.slice A2 n2 c2',.int .i64 ck,.string cn,.int .i64 cvk,.int .i64 cvn,.string cvt,.string cop,.slice CA cnn cc,.slice NA d.names.length nc,.slice EA d.exprs.length ec,.slice OA d.on.length oc,.slice GA d.aggs.length gc,.slice BA d.by_.length bc,.int .i64 count] 49):=⟨_,rfl⟩
 rw [<- hW] at hb0 t0
 have HW:=lh hW
 have HB:=lh hb0
 have HT0:=lh t0
 clear hb0 t0 hW
 go_enter Tryz.func14,Tryz.ntmps14
 go_wp2_with fail
 rw [<- HW.out]
 go_loopw [8] (fun i wr=>∃ k:Nat,k<=d.exprs.length/\i=.int .i64 k/\Hid ((d.exprs.take k).all (smE m)=true)/\Hid (Touch [] W wr)) (fun i _=>d.exprs.length-(intOf i).toNat)
 case atStart=>exact ⟨0,by omega,rfl,lh rfl,lh (Touch.refl _ _)⟩
 case round =>
  obtain ⟨k,hk,rfl,Hall,HT⟩:=hrel
  by_cases hlt:k < d.exprs.length
  ·obtain ⟨ad,b,off,y,rfl,hadd,hy,hcell⟩:=(HX.out.touch0 (HT0.out.trans0 HT.out)).at_ xcE_length k hlt
   have hsy:=Ho1.out _ (List.getElem_mem hlt)
   have hno:=all_no (p:=smE m) hlt
   have hyes:=all_snoc (p:=smE m) hlt Hall.out
   obtain ⟨e,he⟩:∃ e,e=d.exprs[k]:=⟨_,rfl⟩
   rw [<- he] at hy hsy hno hyes
   have c0:=hcell 0 _ rfl;have c1:=hcell 1 _ rfl;have c2:=hcell 2 _ rfl;have c3:=hcell 3 _ rfl;have c4:=hcell 4 _ rfl;have c5:=hcell 5 _ rfl;have c6:=hcell 6 _ rfl
   rw [Nat.add_zero] at c0
   have ta:=(Touch.refl [] wr).alloc (.cells #[.int .i64 y.nd.kind,.string y.nd.name,.int .i64 y.nd.v.kind,.int .i64 y.nd.v.num,.string y.nd.v.text,.string y.nd.op,.slice y.A y.n y.c] 44)
   have hc:=lh (sizeX_any m e y _ (hy.touch0 ta) hsy)
   obtain ⟨q,hq⟩:∃ q,q=sizeX m e:=⟨_,rfl⟩
   rw [<- hq] at hc hsy
   have Hno:=lh fun h0:60 < q=>hno (by unfold smE;rw [<- hq];simp;omega)
   have Hyes:=lh fun h0:q<=60=>hyes (by unfold smE;rw [<- hq];simp;omega)
   have HTa:=lh ta
   clear hno hyes he hcell hq ta hy Hall
   obtain ⟨⟨k2,nm2,⟨vk2,vn2,vt2⟩,op2⟩,A3,m2,c3'⟩:=y
   simp only [XC.val] at hc c0 c1 c2 c3 c4 c5 c6
   have hkn:(k:Int) < (d.exprs.length:Int):=by omega
   by_cases h60:60 < q
   ·have Hs:=lh (show V=false by rw [HV.out];unfold smallPl;rw [Hno.out h60];rfl)
    have hq6:(60 < (q:Int))=True:=eq_true (by omega)
    go_wp2_with fail
    refine hc.out.mono ?_
    rintro e w1 ⟨rfl,t1⟩
    go_wp2
    go_ret
    exact ⟨ret_bool (by rw [Hs.out]),(HT0.out.trans0 HT.out).trans0 (HTa.out.trans0 t1)⟩
   ·have hq6:(60 < (q:Int))=False:=eq_false (by omega)
    go_wp2_with fail
    refine hc.out.mono ?_
    rintro e w1 ⟨rfl,t1⟩
    have HT1:=lh (HT.out.trans0 (HTa.out.trans0 t1))
    clear t1
    go_wp2_with fail
    go_roundw
    case rel=>exact ⟨k+1,by omega,by go_num,lh (Hyes.out (by omega)),HT1⟩
    case measure=>simp [intOf];omega
  ·obtain rfl:k=d.exprs.length:=by omega
   have hall:=Hall.out
   rw [List.take_length] at hall
   have HA:=lh (show V=(decide (d.names.length<=20)&&(decide (d.exprs.length<=20)&&(decide (d.on.length<=20)&&(decide (d.aggs.length<=20)&&(decide (d.by_.length<=20)&&decide (sz<=60)))))) by rw [HV.out,Hsz.out];unfold smallPl;rw [hall,Bool.true_and])
   obtain ⟨p0,p1,p2,p3,p4,p5,p6,p7,p8,p9,p10,p11,p12,p13,p14,p15⟩:=blk16 (HT.out.blk HB.out (by simp))
   have Hc:=lh (Hcs.out _ (HT0.out.trans0 HT.out))
   clear hall Hall Hcs HV
   by_cases g0:d.names.length<=20
   rotate_left
   ·have Hs:=lh (show V=false by rw [HA.out,decide_eq_false g0];simp)
    have q0:((d.names.length:Int)<=20)=False:=eq_false (by omega)
    go_wp2
    go_ret
    exact ⟨ret_bool (by rw [Hs.out]),HT0.out.trans0 HT.out⟩
   by_cases g1:d.exprs.length<=20
   rotate_left
   ·have Hs:=lh (show V=false by rw [HA.out,decide_eq_true g0,decide_eq_false g1];simp)
    have q1:((d.exprs.length:Int)<=20)=False:=eq_false (by omega)
    have q0:((d.names.length:Int)<=20)=True:=eq_true (by omega)
    go_wp2
    go_ret
    exact ⟨ret_bool (by rw [Hs.out]),HT0.out.trans0 HT.out⟩
   by_cases g2:d.on.length<=20
   rotate_left
   ·have Hs:=lh (show V=false by rw [HA.out,decide_eq_true g0,decide_eq_true g1,decide_eq_false g2];simp)
    have q2:((d.on.length:Int)<=20)=False:=eq_false (by omega)
    have q0:((d.names.length:Int)<=20)=True:=eq_true (by omega)
    have q1:((d.exprs.length:Int)<=20)=True:=eq_true (by omega)
    go_wp2
    go_ret
    exact ⟨ret_bool (by rw [Hs.out]),HT0.out.trans0 HT.out⟩
   by_cases g3:d.aggs.length<=20
   rotate_left
   ·have Hs:=lh (show V=false by rw [HA.out,decide_eq_true g0,decide_eq_true g1,decide_eq_true g2,decide_eq_false g3];simp)
    have q3:((d.aggs.length:Int)<=20)=False:=eq_false (by omega)
    have q0:((d.names.length:Int)<=20)=True:=eq_true (by omega)
    have q1:((d.exprs.length:Int)<=20)=True:=eq_true (by omega)
    have q2:((d.on.length:Int)<=20)=True:=eq_true (by omega)
    go_wp2
    go_ret
    exact ⟨ret_bool (by rw [Hs.out]),HT0.out.trans0 HT.out⟩
   by_cases g4:d.by_.length<=20
   rotate_left
   ·have Hs:=lh (show V=false by rw [HA.out,decide_eq_true g0,decide_eq_true g1,decide_eq_true g2,decide_eq_true g3,decide_eq_false g4];simp)
    have q4:((d.by_.length:Int)<=20)=False:=eq_false (by omega)
    have q0:((d.names.length:Int)<=20)=True:=eq_true (by omega)
    have q1:((d.exprs.length:Int)<=20)=True:=eq_true (by omega)
    have q2:((d.on.length:Int)<=20)=True:=eq_true (by omega)
    have q3:((d.aggs.length:Int)<=20)=True:=eq_true (by omega)
    go_wp2
    go_ret
    exact ⟨ret_bool (by rw [Hs.out]),HT0.out.trans0 HT.out⟩
   have Hs:=lh (show V=decide (sz<=60) by rw [HA.out,decide_eq_true g0,decide_eq_true g1,decide_eq_true g2,decide_eq_true g3,decide_eq_true g4];simp)
   have q0:((d.names.length:Int)<=20)=True:=eq_true (by omega)
   have q1:((d.exprs.length:Int)<=20)=True:=eq_true (by omega)
   have q2:((d.on.length:Int)<=20)=True:=eq_true (by omega)
   have q3:((d.aggs.length:Int)<=20)=True:=eq_true (by omega)
   have q4:((d.by_.length:Int)<=20)=True:=eq_true (by omega)
   go_wp2_with fail
   refine Hc.out.mono ?_
   rintro e w1 ⟨rfl,t1⟩
   go_wp2
   go_ret
   exact ⟨ret_bool (by rw [Hs.out,Bool.eq_iff_iff,decide_eq_true_eq,decide_eq_true_eq];omega),(HT0.out.trans0 HT.out).trans0 t1⟩
end
section
open Go.RowKit
theorem bytes_step {a b:List UInt8} {k:Nat} (h1:k < a.length) (h2:k < b.length):Lib.compareBytes (a.drop k) (b.drop k)=if a[k] < b[k] then -1 else if b[k] < a[k] then 1 else Lib.compareBytes (a.drop (k+1)) (b.drop (k+1)):=by
 rw [List.drop_eq_getElem_cons h1,List.drop_eq_getElem_cons h2];rfl
theorem bytes_end (a b:List UInt8) (h:a=[]\/b=[]):Lib.compareBytes a b=if a.length < b.length then -1 else if b.length < a.length then 1 else 0:=by
 rcases h with rfl | rfl
 ·cases b <;> rfl
 ·cases a <;> rfl
theorem refBytes_any (a b:List UInt8) (ha:a.length<=9223372036854775807) (hb:b.length<=9223372036854775807) (w:World) :
  Calls Tryz.prog 29 #[.string (S a),.string (S b)] w fun e w'=>e=.returned (.int .i64 (Lib.compareBytes a b))/\Touch [] w w':=by
 have hsa:=S_size a
 have hsb:=S_size b
 go_enter Tryz.func29,Tryz.ntmps29
 go_wp2
 go_loopw [5] (fun i wr=>∃ k:Nat,k<=a.length/\k<=b.length/\i=.int .i64 k/\Hid (Lib.compareBytes a b=Lib.compareBytes (a.drop k) (b.drop k))/\Touch [] w wr) (fun i _=>a.length-(intOf i).toNat)
 case atStart=>exact ⟨0,by omega,by omega,rfl,lh rfl,Touch.refl _ _⟩
 case round =>
  obtain ⟨k,hka,hkb,rfl,Ho,ht⟩:=hrel
  by_cases hlt:k < a.length/\k < b.length
  ·obtain ⟨h1,h2⟩:=hlt
   have hst:=bytes_step h1 h2
   obtain ⟨x,hx⟩:∃ x,x=a[k]:=⟨_,rfl⟩
   obtain ⟨y,hy⟩:∃ y,y=b[k]:=⟨_,rfl⟩
   have hg:=S_get a k (by rw [hsa];exact h1)
   have hg2:=S_get b k (by rw [hsb];exact h2)
   rw [<- hx] at hst hg
   rw [<- hy] at hst hg2
   simp only [UInt8.lt_iff_toNat_lt] at hst
   have hxl:=x.toNat_lt
   have hyl:=y.toNat_lt
   have Hst:=lh hst
   have h1I:(k:Int) < (a.length:Int):=by omega
   have h2I:(k:Int) < (b.length:Int):=by omega
   have h0I:(0:Int)<=(k:Int):=by omega
   clear hst hx hy
   rcases Nat.lt_trichotomy x.toNat y.toNat with hq | hq | hq
   ·have Hq:=lh (show Lib.compareBytes a b = -1 by rw [Ho.out,Hst.out,if_pos hq])
    go_wp2
    go_quiet (fail)
    go_wp2
    go_ret
    exact ⟨ret_int Hq.out.symm,ht.drewN _⟩
   ·have Hq:=lh (show Lib.compareBytes a b=Lib.compareBytes (a.drop (k+1)) (b.drop (k+1)) by rw [Ho.out,Hst.out,if_neg (by omega),if_neg (by omega)])
    obtain rfl:x=y:=UInt8.toNat_inj.1 hq
    clear hq
    go_wp2
    go_quiet (fail)
    go_wp2
    go_quiet (fail)
    go_wp2
    go_roundw
    case rel=>exact ⟨k+1,by omega,by omega,by go_num,Hq,ht.drewN _⟩
    case measure=>simp [intOf];omega
   ·have Hq:=lh (show Lib.compareBytes a b=1 by rw [Ho.out,Hst.out,if_neg (by omega),if_pos hq])
    have hq2:¬ x.toNat < y.toNat:=by omega
    go_wp2
    go_quiet (fail)
    go_wp2
    go_quiet (fail)
    go_wp2
    go_ret
    exact ⟨ret_int Hq.out.symm,(ht.drewN _).drewN _⟩
  ·have hend:a.drop k=[]\/b.drop k=[]:=by
    rcases (show k=a.length\/k=b.length by omega) with e | e
    ·left;rw [e];exact List.drop_length
    ·right;rw [e];exact List.drop_length
   have hE:=bytes_end _ _ hend
   rw [List.length_drop,List.length_drop] at hE
   have HE:=lh hE
   clear hE hend
   rcases Nat.lt_trichotomy a.length b.length with hq | hq | hq
   ·have Hq:=lh (show Lib.compareBytes a b = -1 by rw [Ho.out,HE.out,if_pos (by omega)])
    obtain rfl:k=a.length:=by omega
    have hqI:(a.length:Int) < (b.length:Int):=by omega
    clear HE Ho hlt
    go_wp2
    go_ret
    exact ⟨ret_int Hq.out.symm,ht⟩
   ·have Hq:=lh (show Lib.compareBytes a b=0 by rw [Ho.out,HE.out,if_neg (by omega),if_neg (by omega)])
    obtain rfl:k=a.length:=by omega
    clear HE Ho hlt
    go_wp2
    go_ret
    exact ⟨ret_int Hq.out.symm,ht⟩
   ·have Hq:=lh (show Lib.compareBytes a b=1 by rw [Ho.out,HE.out,if_neg (by omega),if_pos (by omega)])
    obtain rfl:k=b.length:=by omega
    have hqI:(b.length:Int) < (a.length:Int):=by omega
    clear HE Ho hlt
    go_wp2
    go_ret
    exact ⟨ret_int Hq.out.symm,ht⟩
theorem refBytes_anyB (a b:ByteArray) (ha:a.size<=9223372036854775807) (hb:b.size<=9223372036854775807) (w:World) :
  Calls Tryz.prog 29 #[.string a,.string b] w fun e w'=>e=.returned (.int .i64 (Lib.compareBytes a.data.toList b.data.toList))/\Touch [] w w':=by
 have:=refBytes_any a.data.toList b.data.toList (by rw [<- S_size,S_of];exact ha) (by rw [<- S_size,S_of];exact hb) w
 rwa [S_of,S_of] at this
end
section
open Go.RowKit
def LawPost (v:Int × List CD) (w:World) (e:Ending) (w':World):Prop:=∃ s:SL,e=.returned (.tuple #[.slice s.A s.n s.c,.int .i64 v.1])/\s.n=v.2.length/\ColsAt w' s.A v.2/\Touch [] w w'
theorem LawPost.of {v:Int × List CD} {w:World} {e:Ending} {w':World} (h:SchPost v w e w'):LawPost v w e w':=by
 obtain ⟨A,c,rfl,hm⟩:=h
 exact ⟨⟨A,v.2.length,c⟩,rfl,rfl,hm.own.rd,hm.t⟩
theorem LawPost.err {w w':World} (k:Int) (ht:Touch [] w w'):LawPost (k,[]) w (.returned (.tuple #[.slice none 0 0,.int .i64 k])) w':=⟨⟨none,0,0⟩,rfl,rfl,RdK.nil _ _ _,ht⟩
theorem LawPost.same {w w':World} {A:Option Addr} {c:Nat} {a:List CD} {k:Int} (h:ColsAt w A a) (t:Touch [] w w'):LawPost (k,a) w (.returned (.tuple #[.slice A a.length c,.int .i64 k])) w':=⟨⟨A,a.length,c⟩,rfl,rfl,h.touch0 t,t⟩
theorem LawPost.pre {v:Int × List CD} {w w0:World} {e:Ending} {w':World} (h:LawPost v w e w') (t:Touch [] w0 w):LawPost v w0 e w':=by
 obtain ⟨s,h1,h2,h3,h4⟩:=h
 exact ⟨s,h1,h2,h3,t.trans0 h4⟩
end
section
open Go.RowKit
def needI (k:Int):Int:=if k=2\/k=3\/k=6\/k=8\/k=9 then 1 else if k=4\/k=5\/k=7 then 2 else 0
theorem need5_any (k:Int) (w:World):Calls Tryz.prog 23 #[.int .i64 k] w fun e w'=>e=.returned (.int .i64 (needI k))/\Touch [] w w':=by
 by_cases h:k=2\/k=3\/k=4\/k=5\/k=6\/k=7\/k=8\/k=9
 ·rcases h with rfl | rfl | rfl | rfl | rfl | rfl | rfl | rfl
  all_goals
   go_enter Tryz.func23,Tryz.ntmps23
   go_wp2
   go_ret
   exact ⟨rfl,Touch.refl _ _⟩
 ·have hN:=lh (show needI k=0 by unfold needI;rw [if_neg (by omega),if_neg (by omega)])
  have h2:(k==2)=false:=by rw [beq_eq_false_iff_ne];omega
  have h3:(k==3)=false:=by rw [beq_eq_false_iff_ne];omega
  have h4:(k==4)=false:=by rw [beq_eq_false_iff_ne];omega
  have h5:(k==5)=false:=by rw [beq_eq_false_iff_ne];omega
  have h6:(k==6)=false:=by rw [beq_eq_false_iff_ne];omega
  have h7:(k==7)=false:=by rw [beq_eq_false_iff_ne];omega
  have h8:(k==8)=false:=by rw [beq_eq_false_iff_ne];omega
  have h9:(k==9)=false:=by rw [beq_eq_false_iff_ne];omega
  clear h
  go_enter Tryz.func23,Tryz.ntmps23
  go_wp2
  go_ret
  exact ⟨ret_int hN.out.symm,Touch.refl _ _⟩
end
end Go.Proofs.YtafoklilkdnepaaGreatDoor
