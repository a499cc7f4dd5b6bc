/- Part 13 of the texts of this proof, one behind the other. No condition beyond those that its theorems state. -/
import Derived.Test.YtafoklilkdnepaaGreatDoorRi12
import Derived.BigQuiet
import Derived.IntWalk
import Derived.Shelf.Small.Bits
import Derived.Shelf.Small.Strs
import Derived.Shelf.Small.Wraps
import Derived.Shelf.Strconv.Itoa0
import Derived.Shelf.Strconv.Itoa1
import Derived.Shelf.LaysM
import Derived.Shelf.Strconv.Itoa2
import Derived.Shelf.Strconv.Itoa3
import Derived.Shelf.Strings.Search1
import Derived.Shelf.Sort.Plain
import Derived.Shelf.Slices.Turned
import Derived.Shelf.Slices.Equal
import Derived.Shelf.Slices.CompactS
import Derived.Ground.Names2Prog
import Derived.Shelf.Slices.SearchI
import Derived.Shelf.Slices.Cells
import Derived.Shelf.Slices.In.SortNone
import Derived.Shelf.Slices.Empties2
import Derived.Test.YtafoklilkdnepaaGreatDoorProg
set_option maxRecDepth 40000
set_option maxHeartbeats 25600000
namespace Go.Proofs.YtafoklilkdnepaaGreatDoor
section
open Go.RowKit
theorem rows_where (x:PC) (hk0:x.kind=2) (rv:Int × List (List VD)) (L:Option Addr) (lc:Nat) (ta:SL × SL) (w:World) (hL:RdK tbE w L [ta])
  (H:∀ w',Touch [] w w'->Calls Tryz.prog 94 #[x.val,.agg #[.slice ta.1.A ta.1.n ta.1.c,.slice ta.2.A ta.2.n ta.2.c]] w' (RowsPost rv w')) :
  Calls Tryz.prog 65 #[x.val,.slice L 1 lc] w (RowsPost rv w):=by
 obtain ⟨⟨SA,sn,sc⟩,⟨RA,rn,rc⟩⟩:=ta
 obtain ⟨k0,k1,⟨A2,n2,c2'⟩,⟨⟨ck,cn,⟨cvk,cvn,cvt⟩,cop⟩,CA,cnn,cc⟩,⟨NA,nn,nc⟩,⟨EA,en,ec⟩,⟨OA,ol,oc⟩,⟨GA,gn,gc⟩,⟨BA,bn,bc⟩,count⟩:=x
 dsimp only at hk0 H
 subst hk0
 obtain ⟨ad,bl,bo,rfl,hadd0,hc0⟩:=RdK.cells hL 2 tbE_length (by omega) 0 (by simp)
 have l0:=hc0 0 _ rfl
 have l1:=hc0 1 _ rfl
 simp only [Nat.zero_mul,Nat.add_zero] at hadd0 l0 l1
 simp only [List.getElem_cons_zero] at l0 l1
 have Hj:=lh H
 simp only [PC.val] at *
 obtain ⟨W,hW⟩:∃ W,W=w.alloc (.cells #[.int .i64 2,.string k1,.slice A2 n2 c2',.int .i64 ck,.string cn,.int .i64 cvk,.int .i64 cvn,.string cvt,.string cop,.slice CA cnn cc,.slice NA nn nc,.slice EA en ec,.slice OA ol oc,.slice GA gn gc,.slice BA bn bc,.int .i64 count] 49):=⟨_,rfl⟩
 have t0:Touch [] w W:=hW ▸ (Touch.refl [] w).alloc _
 have hb0:=hW ▸ heap_alloc_new w (.cells #[.int .i64 2,.string k1,.slice A2 n2 c2',.int .i64 ck,.string cn,.int .i64 cvk,.int .i64 cvn,.string cvt,.string cop,.slice CA cnn cc,.slice NA nn nc,.slice EA en ec,.slice OA ol oc,.slice GA gn gc,.slice BA bn bc,.int .i64 count] 49)
 have l0d:=t0.drew.cell l0 (by simp)
 have l1d:=t0.drew.cell l1 (by simp)
 obtain ⟨p0,p1,p2,p3,p4,p5,p6,p7,p8,p9,p10,p11,p12,p13,p14,p15⟩:=blk16 ((Touch.refl [] W).drew.blk hb0 (by simp))
 have HP:Hid (W.drew.cell? ⟨w.heap.size,0,none⟩=some (.int .i64 2)/\W.drew.cell? ⟨w.heap.size,1,none⟩=some (.string k1)/\W.drew.cell? ⟨w.heap.size,2,none⟩=some (.slice A2 n2 c2')/\W.drew.cell? ⟨w.heap.size,3,none⟩=some (.int .i64 ck)/\W.drew.cell? ⟨w.heap.size,4,none⟩=some (.string cn)/\W.drew.cell? ⟨w.heap.size,5,none⟩=some (.int .i64 cvk)/\W.drew.cell? ⟨w.heap.size,6,none⟩=some (.int .i64 cvn)/\W.drew.cell? ⟨w.heap.size,7,none⟩=some (.string cvt)/\W.drew.cell? ⟨w.heap.size,8,none⟩=some (.string cop)/\W.drew.cell? ⟨w.heap.size,9,none⟩=some (.slice CA cnn cc)/\W.drew.cell? ⟨w.heap.size,10,none⟩=some (.slice NA nn nc)/\W.drew.cell? ⟨w.heap.size,11,none⟩=some (.slice EA en ec)/\W.drew.cell? ⟨w.heap.size,12,none⟩=some (.slice OA ol oc)/\W.drew.cell? ⟨w.heap.size,13,none⟩=some (.slice GA gn gc)/\W.drew.cell? ⟨w.heap.size,14,none⟩=some (.slice BA bn bc)/\W.drew.cell? ⟨w.heap.size,15,none⟩=some (.int .i64 count)/\W.drew.cell? ⟨bl,bo,none⟩=some (.slice SA sn sc)/\W.drew.cell? ⟨bl,bo+1,none⟩=some (.slice RA rn rc)):=lh ⟨p0,p1,p2,p3,p4,p5,p6,p7,p8,p9,p10,p11,p12,p13,p14,p15,l0d,l1d⟩
 have HW:=lh hW
 have HT0:=lh t0.drew
 clear H hL hc0 hW t0 l0 l1 hb0 l0d l1d p0 p1 p2 p3 p4 p5 p6 p7 p8 p9 p10 p11 p12 p13 p14 p15
 go_enter Tryz.func65,Tryz.ntmps65
 go_wp2_with fail
 rw [<- HW.out]
 go_region_held3 (fun w'=>w'.cell? ⟨w.heap.size,0,none⟩=some (.int .i64 2)/\w'.cell? ⟨w.heap.size,1,none⟩=some (.string k1)/\w'.cell? ⟨w.heap.size,2,none⟩=some (.slice A2 n2 c2')/\w'.cell? ⟨w.heap.size,3,none⟩=some (.int .i64 ck)/\w'.cell? ⟨w.heap.size,4,none⟩=some (.string cn)/\w'.cell? ⟨w.heap.size,5,none⟩=some (.int .i64 cvk)/\w'.cell? ⟨w.heap.size,6,none⟩=some (.int .i64 cvn)/\w'.cell? ⟨w.heap.size,7,none⟩=some (.string cvt)/\w'.cell? ⟨w.heap.size,8,none⟩=some (.string cop)/\w'.cell? ⟨w.heap.size,9,none⟩=some (.slice CA cnn cc)/\w'.cell? ⟨w.heap.size,10,none⟩=some (.slice NA nn nc)/\w'.cell? ⟨w.heap.size,11,none⟩=some (.slice EA en ec)/\w'.cell? ⟨w.heap.size,12,none⟩=some (.slice OA ol oc)/\w'.cell? ⟨w.heap.size,13,none⟩=some (.slice GA gn gc)/\w'.cell? ⟨w.heap.size,14,none⟩=some (.slice BA bn bc)/\w'.cell? ⟨w.heap.size,15,none⟩=some (.int .i64 count)/\w'.cell? ⟨bl,bo,none⟩=some (.slice SA sn sc)/\w'.cell? ⟨bl,bo+1,none⟩=some (.slice RA rn rc)) (first | exact HP.out | exact keep18 M1.out.2.2 HP.out) (first
  | (go_at_call 94;refine (Hj.out _ HT0.out).mono ?_;rintro e w1 ⟨⟨A1,n1,c1⟩,rfl,m1⟩;have M1:=lh m1;clear m1))
 go_wp2_with fail
 go_ret2
 exact ⟨⟨A1,n1,c1⟩,rfl,M1.out.1,M1.out.2.1,HT0.out.trans0 M1.out.2.2⟩
theorem rows_keep (x:PC) (hk0:x.kind=3) (rv:Int × List (List VD)) (L:Option Addr) (lc:Nat) (ta:SL × SL) (w:World) (hL:RdK tbE w L [ta])
  (H:∀ w',Touch [] w w'->Calls Tryz.prog 95 #[x.val,.agg #[.slice ta.1.A ta.1.n ta.1.c,.slice ta.2.A ta.2.n ta.2.c]] w' (RowsPost rv w')) :
  Calls Tryz.prog 65 #[x.val,.slice L 1 lc] w (RowsPost rv w):=by
 obtain ⟨⟨SA,sn,sc⟩,⟨RA,rn,rc⟩⟩:=ta
 obtain ⟨k0,k1,⟨A2,n2,c2'⟩,⟨⟨ck,cn,⟨cvk,cvn,cvt⟩,cop⟩,CA,cnn,cc⟩,⟨NA,nn,nc⟩,⟨EA,en,ec⟩,⟨OA,ol,oc⟩,⟨GA,gn,gc⟩,⟨BA,bn,bc⟩,count⟩:=x
 dsimp only at hk0 H
 subst hk0
 obtain ⟨ad,bl,bo,rfl,hadd0,hc0⟩:=RdK.cells hL 2 tbE_length (by omega) 0 (by simp)
 have l0:=hc0 0 _ rfl
 have l1:=hc0 1 _ rfl
 simp only [Nat.zero_mul,Nat.add_zero] at hadd0 l0 l1
 simp only [List.getElem_cons_zero] at l0 l1
 have Hj:=lh H
 simp only [PC.val] at *
 obtain ⟨W,hW⟩:∃ W,W=w.alloc (.cells #[.int .i64 3,.string k1,.slice A2 n2 c2',.int .i64 ck,.string cn,.int .i64 cvk,.int .i64 cvn,.string cvt,.string cop,.slice CA cnn cc,.slice NA nn nc,.slice EA en ec,.slice OA ol oc,.slice GA gn gc,.slice BA bn bc,.int .i64 count] 49):=⟨_,rfl⟩
 have t0:Touch [] w W:=hW ▸ (Touch.refl [] w).alloc _
 have hb0:=hW ▸ heap_alloc_new w (.cells #[.int .i64 3,.string k1,.slice A2 n2 c2',.int .i64 ck,.string cn,.int .i64 cvk,.int .i64 cvn,.string cvt,.string cop,.slice CA cnn cc,.slice NA nn nc,.slice EA en ec,.slice OA ol oc,.slice GA gn gc,.slice BA bn bc,.int .i64 count] 49)
 have l0d:=t0.drew.cell l0 (by simp)
 have l1d:=t0.drew.cell l1 (by simp)
 obtain ⟨p0,p1,p2,p3,p4,p5,p6,p7,p8,p9,p10,p11,p12,p13,p14,p15⟩:=blk16 ((Touch.refl [] W).drew.blk hb0 (by simp))
 have HP:Hid (W.drew.cell? ⟨w.heap.size,0,none⟩=some (.int .i64 3)/\W.drew.cell? ⟨w.heap.size,1,none⟩=some (.string k1)/\W.drew.cell? ⟨w.heap.size,2,none⟩=some (.slice A2 n2 c2')/\W.drew.cell? ⟨w.heap.size,3,none⟩=some (.int .i64 ck)/\W.drew.cell? ⟨w.heap.size,4,none⟩=some (.string cn)/\W.drew.cell? ⟨w.heap.size,5,none⟩=some (.int .i64 cvk)/\W.drew.cell? ⟨w.heap.size,6,none⟩=some (.int .i64 cvn)/\W.drew.cell? ⟨w.heap.size,7,none⟩=some (.string cvt)/\W.drew.cell? ⟨w.heap.size,8,none⟩=some (.string cop)/\W.drew.cell? ⟨w.heap.size,9,none⟩=some (.slice CA cnn cc)/\W.drew.cell? ⟨w.heap.size,10,none⟩=some (.slice NA nn nc)/\W.drew.cell? ⟨w.heap.size,11,none⟩=some (.slice EA en ec)/\W.drew.cell? ⟨w.heap.size,12,none⟩=some (.slice OA ol oc)/\W.drew.cell? ⟨w.heap.size,13,none⟩=some (.slice GA gn gc)/\W.drew.cell? ⟨w.heap.size,14,none⟩=some (.slice BA bn bc)/\W.drew.cell? ⟨w.heap.size,15,none⟩=some (.int .i64 count)/\W.drew.cell? ⟨bl,bo,none⟩=some (.slice SA sn sc)/\W.drew.cell? ⟨bl,bo+1,none⟩=some (.slice RA rn rc)):=lh ⟨p0,p1,p2,p3,p4,p5,p6,p7,p8,p9,p10,p11,p12,p13,p14,p15,l0d,l1d⟩
 have HW:=lh hW
 have HT0:=lh t0.drew
 clear H hL hc0 hW t0 l0 l1 hb0 l0d l1d p0 p1 p2 p3 p4 p5 p6 p7 p8 p9 p10 p11 p12 p13 p14 p15
 go_enter Tryz.func65,Tryz.ntmps65
 go_wp2_with fail
 rw [<- HW.out]
 go_region_held3 (fun w'=>w'.cell? ⟨w.heap.size,0,none⟩=some (.int .i64 3)/\w'.cell? ⟨w.heap.size,1,none⟩=some (.string k1)/\w'.cell? ⟨w.heap.size,2,none⟩=some (.slice A2 n2 c2')/\w'.cell? ⟨w.heap.size,3,none⟩=some (.int .i64 ck)/\w'.cell? ⟨w.heap.size,4,none⟩=some (.string cn)/\w'.cell? ⟨w.heap.size,5,none⟩=some (.int .i64 cvk)/\w'.cell? ⟨w.heap.size,6,none⟩=some (.int .i64 cvn)/\w'.cell? ⟨w.heap.size,7,none⟩=some (.string cvt)/\w'.cell? ⟨w.heap.size,8,none⟩=some (.string cop)/\w'.cell? ⟨w.heap.size,9,none⟩=some (.slice CA cnn cc)/\w'.cell? ⟨w.heap.size,10,none⟩=some (.slice NA nn nc)/\w'.cell? ⟨w.heap.size,11,none⟩=some (.slice EA en ec)/\w'.cell? ⟨w.heap.size,12,none⟩=some (.slice OA ol oc)/\w'.cell? ⟨w.heap.size,13,none⟩=some (.slice GA gn gc)/\w'.cell? ⟨w.heap.size,14,none⟩=some (.slice BA bn bc)/\w'.cell? ⟨w.heap.size,15,none⟩=some (.int .i64 count)/\w'.cell? ⟨bl,bo,none⟩=some (.slice SA sn sc)/\w'.cell? ⟨bl,bo+1,none⟩=some (.slice RA rn rc)) (first | exact HP.out | exact keep18 M1.out.2.2 HP.out) (first
  | (go_at_call 95;refine (Hj.out _ HT0.out).mono ?_;rintro e w1 ⟨⟨A1,n1,c1⟩,rfl,m1⟩;have M1:=lh m1;clear m1))
 go_wp2_with fail
 go_ret2
 exact ⟨⟨A1,n1,c1⟩,rfl,M1.out.1,M1.out.2.1,HT0.out.trans0 M1.out.2.2⟩
theorem rows_group (x:PC) (hk0:x.kind=6) (rv:Int × List (List VD)) (L:Option Addr) (lc:Nat) (ta:SL × SL) (w:World) (hL:RdK tbE w L [ta])
  (H:∀ w',Touch [] w w'->Calls Tryz.prog 97 #[x.val,.agg #[.slice ta.1.A ta.1.n ta.1.c,.slice ta.2.A ta.2.n ta.2.c]] w' (RowsPost rv w')) :
  Calls Tryz.prog 65 #[x.val,.slice L 1 lc] w (RowsPost rv w):=by
 obtain ⟨⟨SA,sn,sc⟩,⟨RA,rn,rc⟩⟩:=ta
 obtain ⟨k0,k1,⟨A2,n2,c2'⟩,⟨⟨ck,cn,⟨cvk,cvn,cvt⟩,cop⟩,CA,cnn,cc⟩,⟨NA,nn,nc⟩,⟨EA,en,ec⟩,⟨OA,ol,oc⟩,⟨GA,gn,gc⟩,⟨BA,bn,bc⟩,count⟩:=x
 dsimp only at hk0 H
 subst hk0
 obtain ⟨ad,bl,bo,rfl,hadd0,hc0⟩:=RdK.cells hL 2 tbE_length (by omega) 0 (by simp)
 have l0:=hc0 0 _ rfl
 have l1:=hc0 1 _ rfl
 simp only [Nat.zero_mul,Nat.add_zero] at hadd0 l0 l1
 simp only [List.getElem_cons_zero] at l0 l1
 have Hj:=lh H
 simp only [PC.val] at *
 obtain ⟨W,hW⟩:∃ W,W=w.alloc (.cells #[.int .i64 6,.string k1,.slice A2 n2 c2',.int .i64 ck,.string cn,.int .i64 cvk,.int .i64 cvn,.string cvt,.string cop,.slice CA cnn cc,.slice NA nn nc,.slice EA en ec,.slice OA ol oc,.slice GA gn gc,.slice BA bn bc,.int .i64 count] 49):=⟨_,rfl⟩
 have t0:Touch [] w W:=hW ▸ (Touch.refl [] w).alloc _
 have hb0:=hW ▸ heap_alloc_new w (.cells #[.int .i64 6,.string k1,.slice A2 n2 c2',.int .i64 ck,.string cn,.int .i64 cvk,.int .i64 cvn,.string cvt,.string cop,.slice CA cnn cc,.slice NA nn nc,.slice EA en ec,.slice OA ol oc,.slice GA gn gc,.slice BA bn bc,.int .i64 count] 49)
 have l0d:=t0.drew.cell l0 (by simp)
 have l1d:=t0.drew.cell l1 (by simp)
 obtain ⟨p0,p1,p2,p3,p4,p5,p6,p7,p8,p9,p10,p11,p12,p13,p14,p15⟩:=blk16 ((Touch.refl [] W).drew.blk hb0 (by simp))
 have HP:Hid (W.drew.cell? ⟨w.heap.size,0,none⟩=some (.int .i64 6)/\W.drew.cell? ⟨w.heap.size,1,none⟩=some (.string k1)/\W.drew.cell? ⟨w.heap.size,2,none⟩=some (.slice A2 n2 c2')/\W.drew.cell? ⟨w.heap.size,3,none⟩=some (.int .i64 ck)/\W.drew.cell? ⟨w.heap.size,4,none⟩=some (.string cn)/\W.drew.cell? ⟨w.heap.size,5,none⟩=some (.int .i64 cvk)/\W.drew.cell? ⟨w.heap.size,6,none⟩=some (.int .i64 cvn)/\W.drew.cell? ⟨w.heap.size,7,none⟩=some (.string cvt)/\W.drew.cell? ⟨w.heap.size,8,none⟩=some (.string cop)/\W.drew.cell? ⟨w.heap.size,9,none⟩=some (.slice CA cnn cc)/\W.drew.cell? ⟨w.heap.size,10,none⟩=some (.slice NA nn nc)/\W.drew.cell? ⟨w.heap.size,11,none⟩=some (.slice EA en ec)/\W.drew.cell? ⟨w.heap.size,12,none⟩=some (.slice OA ol oc)/\W.drew.cell? ⟨w.heap.size,13,none⟩=some (.slice GA gn gc)/\W.drew.cell? ⟨w.heap.size,14,none⟩=some (.slice BA bn bc)/\W.drew.cell? ⟨w.heap.size,15,none⟩=some (.int .i64 count)/\W.drew.cell? ⟨bl,bo,none⟩=some (.slice SA sn sc)/\W.drew.cell? ⟨bl,bo+1,none⟩=some (.slice RA rn rc)):=lh ⟨p0,p1,p2,p3,p4,p5,p6,p7,p8,p9,p10,p11,p12,p13,p14,p15,l0d,l1d⟩
 have HW:=lh hW
 have HT0:=lh t0.drew
 clear H hL hc0 hW t0 l0 l1 hb0 l0d l1d p0 p1 p2 p3 p4 p5 p6 p7 p8 p9 p10 p11 p12 p13 p14 p15
 go_enter Tryz.func65,Tryz.ntmps65
 go_wp2_with fail
 rw [<- HW.out]
 go_region_held3 (fun w'=>w'.cell? ⟨w.heap.size,0,none⟩=some (.int .i64 6)/\w'.cell? ⟨w.heap.size,1,none⟩=some (.string k1)/\w'.cell? ⟨w.heap.size,2,none⟩=some (.slice A2 n2 c2')/\w'.cell? ⟨w.heap.size,3,none⟩=some (.int .i64 ck)/\w'.cell? ⟨w.heap.size,4,none⟩=some (.string cn)/\w'.cell? ⟨w.heap.size,5,none⟩=some (.int .i64 cvk)/\w'.cell? ⟨w.heap.size,6,none⟩=some (.int .i64 cvn)/\w'.cell? ⟨w.heap.size,7,none⟩=some (.string cvt)/\w'.cell? ⟨w.heap.size,8,none⟩=some (.string cop)/\w'.cell? ⟨w.heap.size,9,none⟩=some (.slice CA cnn cc)/\w'.cell? ⟨w.heap.size,10,none⟩=some (.slice NA nn nc)/\w'.cell? ⟨w.heap.size,11,none⟩=some (.slice EA en ec)/\w'.cell? ⟨w.heap.size,12,none⟩=some (.slice OA ol oc)/\w'.cell? ⟨w.heap.size,13,none⟩=some (.slice GA gn gc)/\w'.cell? ⟨w.heap.size,14,none⟩=some (.slice BA bn bc)/\w'.cell? ⟨w.heap.size,15,none⟩=some (.int .i64 count)/\w'.cell? ⟨bl,bo,none⟩=some (.slice SA sn sc)/\w'.cell? ⟨bl,bo+1,none⟩=some (.slice RA rn rc)) (first | exact HP.out | exact keep18 M1.out.2.2 HP.out) (first
  | (go_at_call 97;refine (Hj.out _ HT0.out).mono ?_;rintro e w1 ⟨⟨A1,n1,c1⟩,rfl,m1⟩;have M1:=lh m1;clear m1))
 go_wp2_with fail
 go_ret2
 exact ⟨⟨A1,n1,c1⟩,rfl,M1.out.1,M1.out.2.1,HT0.out.trans0 M1.out.2.2⟩
end
section
open Go.RowKit
def by1 (cs:List CD) (o:ByteArray × Bool) (a b:List VD):Int:=let c:=cmpVV (a.getD ((placeV cs o.1).getD 0) ⟨0,0,ByteArray.empty⟩) (b.getD ((placeV cs o.1).getD 0) ⟨0,0,ByteArray.empty⟩);if o.2 then -c else c
def cmpBy (cs:List CD):List (ByteArray × Bool)->List VD->List VD->Int
 | [],_,_=>0
 | o :: os,a,b=>if by1 cs o a b=0 then cmpBy cs os a b else by1 cs o a b
theorem cmpBy_step {cs:List CD} {os:List (ByteArray × Bool)} {a b:List VD} {k:Nat} (h:k < os.length):cmpBy cs (os.drop k) a b=if by1 cs os[k] a b=0 then cmpBy cs (os.drop (k+1)) a b else by1 cs os[k] a b:=by
 rw [List.drop_eq_getElem_cons h];rfl
theorem first1_any (PB TB:Nat) (A B sA BA:Option Addr) (c1 c2 n m sc bn bc:Nat) (cs:List CD) (os:List (ByteArray × Bool)) (l r:List VD) (hn:l.length=n) (hm:r.length=m) (hbn:os.length=bn) (w:World) (hp:w.cell? ⟨PB,14,none⟩=some (.slice BA bn bc)) (ht':w.cell? ⟨TB,0,none⟩=some (.slice sA cs.length sc))
  (hby:RdK odE w BA os) (hcol:ColsAt w sA cs) (h:ValsAt w A l) (h2:ValsAt w B r) (hl:n<=140737000000000) (hl2:m<=140737000000000) (hl3:cs.length<=140737000000000) (hl4:os.length<=140737000000000) (hin:∀ o∈os,(placeV cs o.1).getD 0 < l.length/\(placeV cs o.1).getD 0 < r.length) :
  Calls Tryz.prog 142 #[.slice A n c1,.slice B m c2,.pointer (some ⟨PB,0,none⟩),.pointer (some ⟨TB,0,none⟩)] w fun e w'=>e=.returned (.int .i64 (cmpBy cs os l r))/\Touch [] w w':=by
 subst hn hm hbn
 have Hp:=lh hp
 have Ht:=lh ht'
 have Hin:=lh hin
 clear hin
 go_enter Tryz.func142,Tryz.ntmps142
 go_wp2
 go_loopw [15] (fun i wr=>∃ k:Nat,k<=os.length/\i=.int .i64 k/\Hid (cmpBy cs os l r=cmpBy cs (os.drop k) l r)/\Touch [] w wr) (fun i _=>os.length-(intOf i).toNat)
 case atStart=>exact ⟨0,by omega,rfl,lh rfl,Touch.refl _ _⟩
 case round =>
  obtain ⟨k,hka,rfl,Ho,ht⟩:=hrel
  have Hp2:wr.cell? ⟨PB,14,none⟩=some (.slice BA os.length bc):=ht.cell Hp.out (by simp)
  have Ht2:wr.cell? ⟨TB,0,none⟩=some (.slice sA cs.length sc):=ht.cell Ht.out (by simp)
  by_cases h1:k < os.length
  ·obtain ⟨ad,b,off,rfl,hadd,hcell⟩:=RdK.cells (hby.touch0 ht) 2 odE_length (by omega) k h1
   have hst:=cmpBy_step (cs:=cs) (a:=l) (b:=r) h1
   have hin:=Hin.out os[k] (List.getElem_mem h1)
   have e0:=hcell 0 _ rfl
   have e1:=hcell 1 _ rfl
   obtain ⟨o,ho⟩:∃ o,o=os[k]:=⟨_,rfl⟩
   rw [<- ho] at hst hin e0 e1
   obtain ⟨nm,dn⟩:=o
   dsimp only at hin e0 e1
   rw [Nat.add_zero] at e0
   have hkI:(k:Int) < (os.length:Int):=by omega
   obtain ⟨W,hW⟩:∃ W,W=wr.alloc (.cells #[.string nm,.bool dn] 94):=⟨_,rfl⟩
   have ta:Touch [] wr W:=hW ▸ (Touch.refl [] wr).alloc _
   have Ht3:W.cell? ⟨TB,0,none⟩=some (.slice sA cs.length sc):=ta.cell Ht2 (by simp)
   have hbn':W.heap[wr.heap.size]?=some (.cells #[.string nm,.bool dn] 94 (0,0)):=hW ▸ heap_alloc_new wr (.cells #[.string nm,.bool dn] 94)
   have z0:W.cell? ⟨wr.heap.size,0,none⟩=some (.string nm):=cell_blk hbn' rfl
   have z1:W.cell? ⟨wr.heap.size,1,none⟩=some (.bool dn):=cell_blk hbn' rfl
   have hf:=findC_any sA sc cs.length cs rfl nm W (hcol.touch0 (ht.trans0 ta)) hl3
   have Hf:=lh hf
   have T0:=lh (ht.trans0 ta)
   have HB:=lh hbn'
   clear hf hbn' ta
   subst hW
   go_wp2_with (go_at_call 130;refine Hf.out.mono ?_;rintro e w1 ⟨rfl,t1⟩)
   have t2:=T0.out.trans0 t1
   have hb2:=t1.blk HB.out (by simp)
   have z2:w1.cell? ⟨wr.heap.size,1,none⟩=some (.bool dn):=cell_blk hb2 rfl
   unfold by1 at hst
   dsimp only at hst
   obtain ⟨i,hi⟩:∃ i,i=(placeV cs nm).getD 0:=⟨_,rfl⟩
   rw [<- hi] at hin hst ⊢
   obtain ⟨adl,bl,offl,rfl,haddl,c0,c1,c2⟩:=(h.touch0 t2).at_ i hin.1
   obtain ⟨adr,br,offr,rfl,haddr,d0,d1,d2⟩:=(h2.touch0 t2).at_ i hin.2
   rw [show l.getD i ⟨0,0,ByteArray.empty⟩=l[i]'hin.1 by simp [hin.1],show r.getD i ⟨0,0,ByteArray.empty⟩=r[i]'hin.2 by simp [hin.2]] at hst
   obtain ⟨x,hx⟩:∃ x,x=l[i]'hin.1:=⟨_,rfl⟩
   obtain ⟨y,hy⟩:∃ y,y=r[i]'hin.2:=⟨_,rfl⟩
   rw [<- hx,<- hy] at hst
   rw [<- hx] at c0 c1 c2
   rw [<- hy] at d0 d1 d2
   obtain ⟨k1,n1,s1⟩:=x
   obtain ⟨k2,n2,s2⟩:=y
   simp only at c0 c1 c2 d0 d1 d2
   have hcv:=fun w'=>cmpVal_any ⟨k1,n1,s1⟩ ⟨k2,n2,s2⟩ w'
   simp only [VD.val] at hcv
   obtain ⟨q,hq⟩:∃ q,q=cmpVV ⟨k1,n1,s1⟩ ⟨k2,n2,s2⟩:=⟨_,rfl⟩
   have hqb:=cmpVV_b ⟨k1,n1,s1⟩ ⟨k2,n2,s2⟩
   rw [<- hq] at hst hcv hqb
   obtain ⟨hqb1,hqb2⟩:=hqb
   have Hcv:=lh hcv
   have Hst:=lh hst
   have HB2:=lh hb2
   have hiL:(i:Int) < (l.length:Int):=by omega
   have hiR:(i:Int) < (r.length:Int):=by omega
   have hi0:(0:Int)<=(i:Int):=by omega
   have T2:=lh t2
   clear hst hcv hx hy hq hi hin t1 t2 hb2
   have c0:=TW.cell c0
   have c1:=TW.cell c1
   have c2:=TW.cell c2
   have d0:=TW.cell d0
   have d1:=TW.cell d1
   have d2:=TW.cell d2
   clear hp ht' Hp2 Ht2 e0 e1 Ht3 z0 z1 hby hcol h h2 ht T0 HB
   go_wp2_with fail
   refine wp_region_tw w1 (Touch.refl _ _) (by kernel_rfl) (by kernel_rfl) ?_
   repeat (go_big_quiet_step ((go_at_call 112;exact Calls.tw _ (Hcv.out _))))
   refine wpQuiet_nil ?_
   rintro _ ⟨x9,rfl⟩
   have z9:x9.w.cell? ⟨wr.heap.size,1,none⟩=some (.bool dn):=x9.t.cell z2 (by simp)
   have T9:=lh (T2.out.trans0 x9.t)
   clear z2 c0 c1 c2 d0 d1 d2
   cases dn with
   | true =>
    have Hst2:=lh (show cmpBy cs (os.drop k) l r=if -q=0 then cmpBy cs (os.drop (k+1)) l r else -q from Hst.out)
    by_cases h0:q=0
    ·subst h0
     have Hq:=lh (show cmpBy cs os l r=cmpBy cs (os.drop (k+1)) l r by rw [Ho.out,Hst2.out];rfl)
     go_wp2_with fail
     go_roundw
     case rel=>exact ⟨k+1,by omega,by go_num,Hq,T9.out⟩
     case measure=>simp [intOf];omega
    ·have Hq:=lh (show cmpBy cs os l r = -q by rw [Ho.out,Hst2.out,if_neg (by omega)])
     have h0':¬ (-q=0):=by omega
     go_wp2_with fail
     go_ret
     exact ⟨by rw [Hq.out];go_num,T9.out⟩
   | false =>
    have Hst2:=lh (show cmpBy cs (os.drop k) l r=if q=0 then cmpBy cs (os.drop (k+1)) l r else q from Hst.out)
    by_cases h0:q=0
    ·subst h0
     have Hq:=lh (show cmpBy cs os l r=cmpBy cs (os.drop (k+1)) l r by rw [Ho.out,Hst2.out];rfl)
     go_wp2_with fail
     go_roundw
     case rel=>exact ⟨k+1,by omega,by go_num,Hq,T9.out⟩
     case measure=>simp [intOf];omega
    ·have Hq:=lh (show cmpBy cs os l r=q by rw [Ho.out,Hst2.out,if_neg h0])
     go_wp2_with fail
     go_ret
     exact ⟨by rw [Hq.out];rfl,T9.out⟩
  ·have hkI:¬ (k:Int) < (os.length:Int):=by omega
   obtain rfl:k=os.length:=by omega
   go_wp2
   go_ret
   exact ⟨by rw [Ho.out,List.drop_length];rfl,ht⟩
end
section
open Go.RowKit
theorem by1_neg (cs:List CD) (o:ByteArray × Bool) (a b:List VD):by1 cs o b a = -by1 cs o a b:=by
 unfold by1
 dsimp only
 rw [cmpVV_neg (a.getD ((placeV cs o.1).getD 0) ⟨0,0,ByteArray.empty⟩) (b.getD ((placeV cs o.1).getD 0) ⟨0,0,ByteArray.empty⟩)]
 split <;> omega
theorem tr_by1 (cs:List CD) (o:ByteArray × Bool) (a b c:List VD):Tr (by1 cs o a b) (by1 cs o b c) (by1 cs o a c):=by
 unfold by1
 dsimp only
 obtain ⟨x,hx⟩:∃ x,x=a.getD ((placeV cs o.1).getD 0) ⟨0,0,ByteArray.empty⟩:=⟨_,rfl⟩
 obtain ⟨y,hy⟩:∃ y,y=b.getD ((placeV cs o.1).getD 0) ⟨0,0,ByteArray.empty⟩:=⟨_,rfl⟩
 obtain ⟨z,hz⟩:∃ z,z=c.getD ((placeV cs o.1).getD 0) ⟨0,0,ByteArray.empty⟩:=⟨_,rfl⟩
 rw [<- hx,<- hy,<- hz]
 cases o.2
 ·exact tr_val x y z
 ·have h:=tr_val z y x
  rw [cmpVV_neg x y,cmpVV_neg y z,cmpVV_neg x z] at h
  intro h1 h2
  have:=h h2 h1
  exact ⟨this.1,this.2.trans And.comm⟩
theorem cmpBy_neg (cs:List CD):∀ (os:List (ByteArray × Bool)) (a b:List VD),cmpBy cs os b a = -cmpBy cs os a b
 | [],_,_=>by simp [cmpBy]
 | o :: os,a,b=>by
  rw [cmpBy,cmpBy,cmpBy_neg cs os a b,by1_neg cs o a b]
  by_cases h:by1 cs o a b=0
  ·rw [if_pos (by omega),if_pos h]
  ·rw [if_neg (by omega),if_neg h]
theorem tr_cmpBy (cs:List CD):∀ (os:List (ByteArray × Bool)) (a b c:List VD),Tr (cmpBy cs os a b) (cmpBy cs os b c) (cmpBy cs os a c)
 | [],_,_,_=>fun _ _=>by simp [cmpBy]
 | o :: os,a,b,c=>by
  rw [cmpBy,cmpBy,cmpBy]
  exact (tr_by1 cs o a b c).lex (tr_cmpBy cs os a b c)
def byR (cs:List CD) (os:List (ByteArray × Bool)) (rows:List (List VD)) (x y:Nat):Int:=cmpBy cs os (rows.getD x []) (rows.getD y [])
def byD (cs:List CD) (os:List (ByteArray × Bool)) (rows:List (List VD)) (x:Nat):Nat:=rankN (byR cs os rows) (rows.length+1) x
theorem byD_iff (cs:List CD) (os:List (ByteArray × Bool)) (rows:List (List VD)) (x y:Nat):byR cs os rows x y < 0 ↔ byD cs os rows x < byD cs os rows y:=by
 refine rank_iff (R:=byR cs os rows) (fun x y=>cmpBy_neg cs os _ _) (fun x y z=>tr_cmpBy cs os _ _ _) (fun x => ?_) x y
 by_cases h:x < rows.length
 ·exact ⟨x,by omega,fun _=>rfl⟩
 ·refine ⟨rows.length,by omega,fun y => ?_⟩
  unfold byR
  rw [List.getD_eq_getElem?_getD,List.getElem?_eq_none (Nat.le_refl _),List.getD_eq_getElem?_getD (l:=rows) (i:=x),List.getElem?_eq_none (by omega)]
structure ByAt (PB TB:Nat) (cs:List CD) (os:List (ByteArray × Bool)) (w:World):Prop where
 by_:∃ BA bc,w.cell? ⟨PB,14,none⟩=some (.slice BA os.length bc)/\RdK odE w BA os
 cols:∃ sA sc,w.cell? ⟨TB,0,none⟩=some (.slice sA cs.length sc)/\ColsAt w sA cs
def pickL {α:Type} (z:α) (l:List α) (g:Nat->Nat):List α:=(List.range l.length).map fun k=>l.getD (g k) z
theorem pickL_length {α:Type} (z:α) (l:List α) (g:Nat->Nat):(pickL z l g).length=l.length:=by simp [pickL]
theorem enter_first1 (args:Array Value) (wk:World):(callFunc 142 args).run Tryz.prog wk=.ok (.enter 142 args) wk:=by kernel_rfl
theorem sortBy_any (PB TB:Nat) (cs:List CD) (os:List (ByteArray × Bool)) (B:Option Addr) (c n:Nat) (sl:List SL) (rows:List (List VD)) (hn:rows.length=n) (hl:n<=100000) (hin:∀ r∈rows,r.length<=140737000000000/\∀ o∈os,(placeV cs o.1).getD 0 < r.length) (hl3:cs.length<=140737000000000) (hl4:os.length<=140737000000000)
  (w:World) (h1:sl.length=rows.length) (h2:OwnK 33 1 slE w B c sl) (hk:∀ wr,Touch (fpo B) w wr->SlsAt wr sl rows/\ByAt PB TB cs os wr) :
  Calls Tryz.prog 102 #[.slice B n c,.func (.func 142) #[] #[.pointer (some ⟨PB,0,none⟩),.pointer (some ⟨TB,0,none⟩)]] w fun e w' =>
   e=.returned (.tuple #[])/\∃ g,Good (byD cs os rows) g 0 rows.length/\OwnK 33 1 slE w' B c (pickL ⟨none,0,0⟩ sl g)/\SlsAt w' (pickL ⟨none,0,0⟩ sl g) (pickL [] rows g)/\Touch (fpo B) w w':=by
 subst hn
 by_cases h0:rows.length=0
 ·obtain rfl:rows=[]:=List.eq_nil_of_length_eq_zero h0
  obtain rfl:sl=[]:=List.eq_nil_of_length_eq_zero h1
  refine (sortR_nil B c _ w).mono ?_
  rintro e w1 ⟨rfl,rfl⟩
  exact ⟨rfl,fun k=>k,⟨fun i j h1 h2 h3=>absurd (show j < 0 from h3) (by omega),fun k=>⟨fun ⟨i,_,h,_⟩=>absurd (show i < 0 from h) (by omega),fun h=>absurd (show k < 0 from h.2) (by omega)⟩⟩,h2,(hk _ (Touch.refl _ _)).1,Touch.refl _ _⟩
 ·rcases h2.head with ⟨q1,q2,q3⟩ | ⟨G,rfl⟩
  ·exact absurd (by rw [<- h1,q2];rfl) h0
  ·have hget:∀ x (hx:x < sl.length),sl.getD x ⟨none,0,0⟩=sl[x]:=fun x hx=>by simp [hx]
   have hgr:∀ x (hx:x < rows.length),rows.getD x []=rows[x]:=fun x hx=>by simp [hx]
   have hat:∀ wr,Touch [G] w wr->∀ x (hx:x < rows.length),(sl.getD x ⟨none,0,0⟩).n=(rows.getD x []).length/\ValsAt wr (sl.getD x ⟨none,0,0⟩).A (rows.getD x []):=fun wr ht x hx=>by
    have hx1:x < sl.length:=by omega
    rw [hget x hx1,hgr x hx]
    exact (hk wr ht).1.2 x hx1 hx
   have hC:CmpOkG 142 [.pointer (some ⟨PB,0,none⟩),.pointer (some ⟨TB,0,none⟩)] (fun x=>sl.getD x ⟨none,0,0⟩) (byR cs os rows) G rows.length w:=by
    intro wr ht x y hx hy
    obtain ⟨a1,a2⟩:=hat wr ht x hx
    obtain ⟨b1,b2⟩:=hat wr ht y hy
    have k1:=hin _ (List.getElem_mem hx)
    have k2:=hin _ (List.getElem_mem hy)
    rw [<- hgr x hx] at k1
    rw [<- hgr y hy] at k2
    obtain ⟨⟨BA,bc,p1,p2⟩,⟨sA,sc,p3,p4⟩⟩:=(hk wr ht).2
    exact first1_any PB TB _ _ sA BA _ _ _ _ sc _ bc cs os _ _ a1.symm b1.symm rfl wr p1 p3 p2 p4 a2 b2 (by rw [a1];exact k1.1) (by rw [b1];exact k2.1) hl3 hl4 (fun o ho=>⟨k1.2 o ho,k2.2 o ho⟩)
   have hR:RowV (fun x=>sl.getD x ⟨none,0,0⟩) w G c rows.length (fun k=>k):=by
    unfold RowV
    rw [range_getD sl _ _ h1]
    exact h2
   refine (sortStableg_any 142 _ enter_first1 G c rows.length (by omega) hl _ _ _ (byD_iff cs os rows) w hC w hR (Touch.refl _ _)).mono ?_
   rintro e w1 ⟨rfl,g,hr,hg,ht⟩
   have hgn:∀ i,i < rows.length->g i < rows.length:=fun i hi=>((hg.2 (g i)).1 ⟨i,Nat.zero_le _,hi,rfl⟩).2
   refine ⟨rfl,g,hg,by unfold pickL;rw [h1];exact hr,⟨by rw [pickL_length,pickL_length,h1],fun i a b => ?_⟩,ht⟩
   have hi:i < rows.length:=by rw [pickL_length] at b;exact b
   have:=hat w1 ht (g i) (hgn i hi)
   simpa [pickL] using this
end
section
open Go.RowKit
def errF {α:Type} (g:α->Int):List α->Int
 | []=>0
 | a :: r=>if g a=0 then errF g r else g a
theorem errF_zero {α:Type} {g:α->Int}:∀ {l:List α},(∀ v∈l,g v=0)->errF g l=0
 | [],_=>rfl
 | v :: l,h=>by rw [errF,if_pos (h v List.mem_cons_self)];exact errF_zero fun x hx=>h x (List.mem_cons_of_mem _ hx)
theorem errF_at {α:Type} {g:α->Int}:∀ {l:List α} {j:Nat} (hj:j < l.length),(∀ i (hi:i < j),g l[i]=0)->g l[j]≠0->errF g l=g l[j]
 | v :: l,0,_,_,h=>by
  have h:g v≠0:=h
  rw [errF,if_neg h];rfl
 | v :: l,j+1,hj,h0,h=>by
  have hz:g v=0:=h0 0 (by omega)
  rw [errF,if_pos hz]
  exact errF_at (by simpa using hj) (fun i hi=>by have:=h0 (i+1) (by omega);simpa using this) (by simpa using h)
end
section
open Go.RowKit
structure RU where
 name:ByteArray
 args:List Int
 out:Int
def rulesV (kind:Int):List RU :=
 if kind=3 then [⟨S [45],[1],1⟩,⟨S [110,111,116],[0],1⟩]
 else if kind=4 then [⟨S [43],[1,1],1⟩,⟨S [45],[1,1],1⟩,⟨S [42],[1,1],1⟩,⟨S [47],[1,1],1⟩,⟨S [37],[1,1],1⟩,
  ⟨S [61],[-1, -1],1⟩,⟨S [33,61],[-1, -1],1⟩,⟨S [60],[-1, -1],1⟩,⟨S [60,61],[-1, -1],1⟩,⟨S [62],[-1, -1],1⟩,⟨S [62,61],[-1, -1],1⟩,
  ⟨S [97,110,100],[0,0],1⟩,⟨S [111,114],[0,0],1⟩]
 else if kind=5 then [⟨S [108,101,110],[2],1⟩,⟨S [97,98,115],[1],1⟩,⟨S [105,115,110,117,108,108],[0],1⟩,⟨S [99,97,116],[2,2],2⟩,
  ⟨S [101,105,116,104,101,114],[-1, -1], -1⟩,⟨S [105,102],[0, -1, -1], -1⟩]
 else []
def keyN (d:ND):ByteArray:=if d.kind=5 then d.name else d.op
def ruleI (d:ND):Option Nat:=(rulesV d.kind).findIdx? fun r=>decide (r.name=keyN d)
def ruleV (d:ND):Option RU:=match ruleI d with | some k=>(rulesV d.kind)[k]? | none=>none
def idxI (o:Option Nat):Int:=match o with | some k=>(k:Int) | none => -1
def isNull (v:VD):Bool:=decide (v.kind=0)&&(decide (v.num=0)&&decide (v.text=S []))
def formV (d:ND) (n:Nat):Bool :=
 if d.kind=1 then decide (d.op=S [])&&(decide (n=0)&&isNull d.v)
 else if d.kind=2 then decide (d.name=S [])&&(decide (d.op=S [])&&(decide (n=0)&&d.v.right))
 else (match ruleV d with | some r=>decide (n=r.args.length) | none=>false)&&(isNull d.v&&(if d.kind=5 then decide (d.op=S []) else decide (d.name=S [])))
def fitL:List Int->List Int->Int->Int × Bool
 | w :: ws,t :: ts,both =>
  if t=0\/w=0 then fitL ws ts both
  else if w ≠ -1/\w≠t\/w = -1/\both≠0/\both≠t then (0,false)
  else if w = -1 then fitL ws ts t else fitL ws ts both
 | _,_,both=>(both,true)
def colT (cs:List CD) (s:ByteArray):Option Int:=match placeV cs s with | some k=>cs[k]?.map CD.typ | none=>none
def typedX (cs:List CD):(n:Nat)->Nat->TX n->Int × Int
 | 0,_,_=>(0,0)
 | n+1,d,e =>
  if 32 < d then (0,52)
  else if formV e.1 e.2.length=false then (0,20)
  else if e.1.kind=2 then (e.1.v.kind,0)
  else if e.1.kind=1 then (match colT cs e.1.name with | some t=>(t,0) | none=>(0,13))
  else match e.2.find? fun a=>decide ((typedX cs n (d+1) a).2≠0) with
   | some a=>(0,(typedX cs n (d+1) a).2)
   | none=>match ruleV e.1 with
    | none=>(0,20)
    | some r=>match fitL r.args (e.2.map fun a=>(typedX cs n (d+1) a).1) 0 with
     | (both,true)=>if r.out = -1 then (both,0) else (r.out,0)
     | (_,false)=>(0,12)
def typeX (cs:List CD) (n:Nat) (e:TX n):Int × Int :=
 if checkV cs=0 then (if 256 < sizeX n e then (0,31) else typedX cs n 1 e) else (0,checkV cs)
def zeroV:VD:=⟨0,0,S []⟩
def ofV (n:Int):VD:=⟨1,n,S []⟩
def bitV (b:Bool):VD:=if b=true then ofV 1 else ofV 0
def VD.tru (v:VD):Bool:=decide (v.kind=1)&&decide (v.num≠0)
end
section
open Go.RowKit
theorem out3 {X:World} {R:Nat} {t:TypeId} {a0 a1 a2:Value} (h:X.heap[R]?=some (.cells #[a0,a1,a2] t (0,0))) (v0 v1 v2:Value) :
  (((X.setCell ⟨R,0,none⟩ v0).setCell ⟨R,1,none⟩ v1).setCell ⟨R,2,none⟩ v2).heap[R]?=some (.cells #[v0,v1,v2] t (0,0))/\Touch [R] X (((X.setCell ⟨R,0,none⟩ v0).setCell ⟨R,1,none⟩ v1).setCell ⟨R,2,none⟩ v2) :=
 ⟨set_blk (set_blk (set_blk h 0 v0) 1 v1) 2 v2,(((Touch.refl [R] X).setCell (p:=⟨R,0,none⟩) (.inl (by simp)) v0).setCell (p:=⟨R,1,none⟩) (.inl (by simp)) v1).setCell (p:=⟨R,2,none⟩) (.inl (by simp)) v2⟩
theorem blk3x {w:World} {R:Nat} {a b c:Value} {t:TypeId} (h:w.heap[R]?=some (.cells #[a,b,c] t (0,0))):w.cell? ⟨R,0,none⟩=some a/\w.cell? ⟨R,1,none⟩=some b/\w.cell? ⟨R,2,none⟩=some c /\
  w.frozen? ⟨R,0,none⟩=false/\w.frozen? ⟨R,1,none⟩=false/\w.frozen? ⟨R,2,none⟩=false :=
 ⟨cell_blk h rfl,cell_blk h rfl,cell_blk h rfl,by simp [World.frozen?,h],by simp [World.frozen?,h],by simp [World.frozen?,h]⟩
theorem of_any (n:Int) (w:World):Calls Tryz.prog 11 #[.int .i64 n] w fun e w'=>e=.returned (ofV n).val/\Touch [] w w':=by
 dsimp only [VD.val,ofV]
 go_enter Tryz.func11,Tryz.ntmps11
 go_wp2_with fail
 exact bodyPost_ret (results_cell_row rfl _ _ w.heap.size _ _ _ _ rfl (heap_alloc_new w _) Tryz.underlying31 rfl rfl) rfl ⟨rfl,(Touch.refl _ _).alloc _⟩
theorem vnull_any (w:World):Calls Tryz.prog 173 #[] w fun e w'=>e=.returned zeroV.val/\Touch [] w w':=by
 dsimp only [VD.val,zeroV]
 go_enter Tryz.func173,Tryz.ntmps173
 go_wp2_with fail
 exact bodyPost_ret (results_cell_row rfl _ _ w.heap.size _ _ _ _ rfl (heap_alloc_new w _) Tryz.underlying31 rfl rfl) rfl ⟨rfl,(Touch.refl _ _).alloc _⟩
theorem text_any (s:ByteArray) (w:World):Calls Tryz.prog 185 #[.string s] w fun e w'=>e=.returned (VD.val ⟨2,0,s⟩)/\Touch [] w w':=by
 dsimp only [VD.val]
 go_enter Tryz.func185,Tryz.ntmps185
 go_wp2_with fail
 exact bodyPost_ret (results_cell_row rfl _ _ w.heap.size _ _ _ _ rfl (heap_alloc_new w _) Tryz.underlying31 rfl rfl) rfl ⟨rfl,(Touch.refl _ _).alloc _⟩
theorem true_any (v:VD) (w:World):Calls Tryz.prog 132 #[v.val] w fun e w'=>e=.returned (.bool v.tru)/\Touch [] w w':=by
 obtain ⟨k,n,s⟩:=v
 dsimp only [VD.val]
 have t0:=(Touch.refl [] w).alloc (.cells #[.int .i64 k,.int .i64 n,.string s] 31)
 by_cases h1:k=1
 ·have hk:(k==1)=true:=by simpa using h1
  by_cases h0:n=0
  ·have hn:(n != 0)=false:=by simpa using h0
   have Hf:=lh (show VD.tru ⟨k,n,s⟩=false by simp [VD.tru,h0])
   clear h0 h1
   go_enter Tryz.func132,Tryz.ntmps132
   go_wp2_with fail
   go_ret
   exact ⟨by rw [Hf.out];rfl,t0⟩
  ·have hn:(n != 0)=true:=by simpa using h0
   have Hf:=lh (show VD.tru ⟨k,n,s⟩=true by simp [VD.tru,h0,h1])
   clear h0 h1
   go_enter Tryz.func132,Tryz.ntmps132
   go_wp2_with fail
   go_ret
   exact ⟨by rw [Hf.out];rfl,t0⟩
 ·have hk:(k==1)=false:=by simpa using h1
  have Hf:=lh (show VD.tru ⟨k,n,s⟩=false by simp [VD.tru,h1])
  clear h1
  go_enter Tryz.func132,Tryz.ntmps132
  go_wp2_with fail
  go_ret
  exact ⟨by rw [Hf.out];rfl,t0⟩
theorem bit_any (b:Bool) (w:World):Calls Tryz.prog 183 #[.bool b] w fun e w'=>e=.returned (bitV b).val/\Touch [] w w':=by
 have h1:=lh fun w'=>of_any 1 w'
 have h0:=lh fun w'=>of_any 0 w'
 simp only [VD.val,ofV] at h1 h0
 have t0:=(Touch.refl [] w).alloc (.cells #[.int .i64 0,.int .i64 0,.string ⟨#[]⟩] 31)
 have hb:=heap_alloc_new w (.cells #[.int .i64 0,.int .i64 0,.string ⟨#[]⟩] 31)
 have Hb:=lh hb
 clear hb
 cases b
 ·simp only [bitV,VD.val,ofV]
  go_enter Tryz.func183,Tryz.ntmps183
  go_wp2_with fail
  refine (h0.out _).mono ?_
  rintro e w1 ⟨rfl,t1⟩
  have hb1:=t1.blk Hb.out (by simp)
  obtain ⟨c0,c1,c2,f0,f1,f2⟩:=blk3x hb1
  go_wp2_with fail
  obtain ⟨q1,q2⟩:=out3 hb1 (.int .i64 1) (.int .i64 0) (.string (S []))
  exact bodyPost_ret (results_cell_row rfl _ _ w.heap.size _ _ _ _ rfl q1 Tryz.underlying31 rfl rfl) rfl ⟨rfl,(t0.trans0 t1).trans q2 (fun b hb=>.inr (by simp at hb;omega))⟩
 ·simp only [bitV,VD.val,ofV]
  go_enter Tryz.func183,Tryz.ntmps183
  go_wp2_with fail
  refine (h1.out _).mono ?_
  rintro e w1 ⟨rfl,t1⟩
  have hb1:=t1.blk Hb.out (by simp)
  obtain ⟨c0,c1,c2,f0,f1,f2⟩:=blk3x hb1
  go_wp2_with fail
  obtain ⟨q1,q2⟩:=out3 hb1 (.int .i64 1) (.int .i64 1) (.string (S []))
  exact bodyPost_ret (results_cell_row rfl _ _ w.heap.size _ _ _ _ rfl q1 Tryz.underlying31 rfl rfl) rfl ⟨rfl,(t0.trans0 t1).trans q2 (fun b hb=>.inr (by simp at hb;omega))⟩
end
end Go.Proofs.YtafoklilkdnepaaGreatDoor
namespace Go.Proofs
open Go.Shelf
def Tryz.lays137_ren:Go.Shelf.Ren:=⟨fun | 137=>187 | 217=>204 | 266=>212 | n=>n,fun | 9=>9 | 5=>5 | 3=>3 | n=>n,fun | n=>n⟩
theorem Tryz.lays137:Go.Proofs.Lays.n137 Tryz.prog Tryz.lays137_ren:={
 mixed:=by kernel_rfl
 f137:=Tryz.func187.trans (congrArg some (by kernel_rfl))
 f217:=Tryz.func204.trans (congrArg some (by kernel_rfl))
 f266:=Tryz.func212.trans (congrArg some (by kernel_rfl))
 t3:=Tryz.underlying3
 a3:=Tryz.isAgg3
 z3:=Tryz.sizeOf3
 v3:=Tryz.zeroValue3
 t5:=Tryz.underlying5
 a5:=Tryz.isAgg5
 z5:=Tryz.sizeOf5
 v5:=Tryz.zeroValue5
 t9:=Tryz.underlying9
 a9:=Tryz.isAgg9
 z9:=Tryz.sizeOf9
 v9:=Tryz.zeroValue9 }
open Go.RowKit in
theorem Tryz.strings_IndexByte (s:ByteArray) (c:Int) (w:World) :
  Calls Tryz.prog 187 #[.string s,.int .u8 c] w fun e w'=>e=.returned (.int .i64 (Lib.indexByte s.data.toList c.toNat.toUInt8))/\w'=w:=Any.strings_IndexByte Tryz.lays137 s c w
def Tryz.lays109_ren:Go.Shelf.Ren:=⟨fun | 109=>184 | n=>n,fun | 31=>45 | 9=>9 | 3=>3 | 0=>0 | 4=>4 | n=>n,fun | n=>n⟩
theorem Tryz.lays109:Go.Proofs.Lays.n109 Tryz.prog Tryz.lays109_ren:={
 mixed:=by kernel_rfl
 f109:=Tryz.func184.trans (congrArg some (by kernel_rfl))
 t0:=Tryz.underlying0
 a0:=Tryz.isAgg0
 z0:=Tryz.sizeOf0
 v0:=Tryz.zeroValue0
 t3:=Tryz.underlying3
 a3:=Tryz.isAgg3
 z3:=Tryz.sizeOf3
 v3:=Tryz.zeroValue3
 t4:=Tryz.underlying4
 a4:=Tryz.isAgg4
 z4:=Tryz.sizeOf4
 v4:=Tryz.zeroValue4
 t9:=Tryz.underlying9
 a9:=Tryz.isAgg9
 z9:=Tryz.sizeOf9
 v9:=Tryz.zeroValue9
 t31:=Tryz.underlying45
 a31:=Tryz.isAgg45
 z31:=Tryz.sizeOf45
 v31:=Tryz.zeroValue45 }
open Go.Lib in
theorem Tryz.slices_Index_string (b off n c:Nat) (zs:List ByteArray) (x:ByteArray) (w:World) (hz:n<=zs.length) (hbig:n<=9223372036854775807) (hc:∀ j,j < zs.length->w.cell? ⟨b,off+j,none⟩=some (.string (zs.getD j ByteArray.empty))) :
  Calls Tryz.prog 184 #[.slice (some ⟨b,off,none⟩) n c,.string x] w fun e w'=>e=.returned (.int .i64 (Lib.idxOfS (zs.take n) x))/\w'=w:=Any.slices_Index_string Tryz.lays109 b off n c zs x w hz hbig hc
end Go.Proofs
namespace Go.Proofs.YtafoklilkdnepaaGreatDoor
end Go.Proofs.YtafoklilkdnepaaGreatDoor
