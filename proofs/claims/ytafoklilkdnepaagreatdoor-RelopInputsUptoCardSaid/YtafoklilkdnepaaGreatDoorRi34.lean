/- Part 34 of the texts of this proof, one behind the other. No condition beyond those that its theorems state. -/
import Derived.Test.YtafoklilkdnepaaGreatDoorRi33
set_option maxRecDepth 40000
set_option maxHeartbeats 25600000
namespace Go.Proofs.YtafoklilkdnepaaGreatDoor
section
open Go.RowKit
theorem inp_a1 {m:Nat} (x:PC) (d:PD m) (sx rx sy ry:SL) (a b:List CD) (ra rb:List (List VD)) (QA:Option Addr) (qc:Nat) (names:List ByteArray) (w:World) (hP:PlanAt w x d) (hX:TabAt w sx rx a ra) (hY:TabAt w sy ry b rb) (hN:RdK btE w QA names) (hnb:∀ s∈names,s.size<=1048576) (hnl:names.length<=2000000) (hd:d.In) (hta:TbIn a ra) (htb:TbIn b rb) (hG:NeedsAt w) (hPw:PowAt w) (h1:smallT a ra=false) :
  Calls Tryz.prog 8 #[stVal x sx rx sy ry,.slice QA names.length qc] w fun e w'=>e=.returned (.bool true)/\Touch [] w w':=by
 have Hst:=lh fun w' (t:Touch [] w w')=>small_at (hX.touch0 t) hta
 have Hsu:=lh fun w' (t:Touch [] w w')=>small_at (hY.touch0 t) htb
 have Hsp:=lh fun w' (t:Touch [] w w')=>smallPlan_any m x d hd.ok w' (hP.touch0 t)
 have Haw:=lh fun w' (t:Touch [] w w')=>awake5_any w' (hG.touch0 t)
 have Hsc:=lh fun w'=>scansO_any x sx rx sy ry w'
 have HP:=lh hP
 have HX:=lh hX
 have HY:=lh hY
 have HD:=lh hd
 have HTA:=lh hta
 have HTB:=lh htb
 have HG:=lh hG
 have HPW:=lh hPw
 have HNM:=lh (And.intro hN (And.intro hnb hnl))
 have Hkd:=lh hP.kind
 clear hP hX hY hd hta htb hG hPw hN hnb hnl
 obtain ⟨k0,k1,⟨A2,n2,c2'⟩,⟨⟨ck,cn,⟨cvk,cvn,cvt⟩,cop⟩,CA,cnn,cc⟩,⟨NA,nn,nc⟩,⟨EA,en,ec⟩,⟨OA,ol,oc⟩,⟨GA,gn,gc⟩,⟨BA,bn,bc⟩,count⟩:=x
 obtain ⟨sxA,sxn,sxc⟩:=sx
 obtain ⟨rxA,rxn,rxc⟩:=rx
 obtain ⟨syA,syn,syc⟩:=sy
 obtain ⟨ryA,ryn,ryc⟩:=ry
 simp only [stVal,PC.val] at *
 rw [h1] at Hst
 clear h1
 obtain ⟨W,hW⟩:∃ W,W=w.alloc (.cells #[.int .i64 k0,.string k1,.slice A2 n2 c2',.int .i64 ck,.string cn,.int .i64 cvk,.int .i64 cvn,.string cvt,.string cop,.slice CA cnn cc,.slice NA nn nc,.slice EA en ec,.slice OA ol oc,.slice GA gn gc,.slice BA bn bc,.int .i64 count,.slice sxA sxn sxc,.slice rxA rxn rxc,.slice syA syn syc,.slice ryA ryn ryc] 55):=⟨_,rfl⟩
 have HT:=lh (show Touch [] w W from hW ▸ (Touch.refl [] w).alloc _)
 have HB:=lh (show W.heap[w.heap.size]?=some (.cells #[.int .i64 k0,.string k1,.slice A2 n2 c2',.int .i64 ck,.string cn,.int .i64 cvk,.int .i64 cvn,.string cvt,.string cop,.slice CA cnn cc,.slice NA nn nc,.slice EA en ec,.slice OA ol oc,.slice GA gn gc,.slice BA bn bc,.int .i64 count,.slice sxA sxn sxc,.slice rxA rxn rxc,.slice syA syn syc,.slice ryA ryn ryc] 55 (0,0)) from hW ▸ heap_alloc_new w _)
 have HWS:=lh (show W.heap.size=w.heap.size+1 by rw [hW];simp)
 have HW:=lh hW
 clear hW
 go_enter Tryz.func8,Tryz.ntmps8
 go_wp2_with fail
 rw [<- HW.out]
 refine (Hst.out _ HT.out).mono ?_
 rintro e w1 ⟨rfl,t1⟩
 have T1:=lh ((Touch.refl [] W).trans0 t1)
 have B1:=lh (T1.out.blk HB.out (by simp))
 clear t1
 go_wp2_with fail
 refine (Haw.out _ (HT.out.trans0 T1.out)).mono ?_
 rintro e w9 ⟨rfl,t9⟩
 have HT9:=lh ((HT.out.trans0 T1.out).trans0 t9)
 clear t9
 go_wp2_with fail
 go_ret
 exact ⟨rfl,HT9.out⟩
theorem inp_a2 {m:Nat} (x:PC) (d:PD m) (sx rx sy ry:SL) (a b:List CD) (ra rb:List (List VD)) (QA:Option Addr) (qc:Nat) (names:List ByteArray) (w:World) (hP:PlanAt w x d) (hX:TabAt w sx rx a ra) (hY:TabAt w sy ry b rb) (hN:RdK btE w QA names) (hnb:∀ s∈names,s.size<=1048576) (hnl:names.length<=2000000) (hd:d.In) (hta:TbIn a ra) (htb:TbIn b rb) (hG:NeedsAt w) (hPw:PowAt w) (h1:smallT a ra=true) (h2:smallT b rb=false) :
  Calls Tryz.prog 8 #[stVal x sx rx sy ry,.slice QA names.length qc] w fun e w'=>e=.returned (.bool true)/\Touch [] w w':=by
 have Hst:=lh fun w' (t:Touch [] w w')=>small_at (hX.touch0 t) hta
 have Hsu:=lh fun w' (t:Touch [] w w')=>small_at (hY.touch0 t) htb
 have Hsp:=lh fun w' (t:Touch [] w w')=>smallPlan_any m x d hd.ok w' (hP.touch0 t)
 have Haw:=lh fun w' (t:Touch [] w w')=>awake5_any w' (hG.touch0 t)
 have Hsc:=lh fun w'=>scansO_any x sx rx sy ry w'
 have HP:=lh hP
 have HX:=lh hX
 have HY:=lh hY
 have HD:=lh hd
 have HTA:=lh hta
 have HTB:=lh htb
 have HG:=lh hG
 have HPW:=lh hPw
 have HNM:=lh (And.intro hN (And.intro hnb hnl))
 have Hkd:=lh hP.kind
 clear hP hX hY hd hta htb hG hPw hN hnb hnl
 obtain ⟨k0,k1,⟨A2,n2,c2'⟩,⟨⟨ck,cn,⟨cvk,cvn,cvt⟩,cop⟩,CA,cnn,cc⟩,⟨NA,nn,nc⟩,⟨EA,en,ec⟩,⟨OA,ol,oc⟩,⟨GA,gn,gc⟩,⟨BA,bn,bc⟩,count⟩:=x
 obtain ⟨sxA,sxn,sxc⟩:=sx
 obtain ⟨rxA,rxn,rxc⟩:=rx
 obtain ⟨syA,syn,syc⟩:=sy
 obtain ⟨ryA,ryn,ryc⟩:=ry
 simp only [stVal,PC.val] at *
 rw [h1] at Hst
 rw [h2] at Hsu
 clear h1 h2
 obtain ⟨W,hW⟩:∃ W,W=w.alloc (.cells #[.int .i64 k0,.string k1,.slice A2 n2 c2',.int .i64 ck,.string cn,.int .i64 cvk,.int .i64 cvn,.string cvt,.string cop,.slice CA cnn cc,.slice NA nn nc,.slice EA en ec,.slice OA ol oc,.slice GA gn gc,.slice BA bn bc,.int .i64 count,.slice sxA sxn sxc,.slice rxA rxn rxc,.slice syA syn syc,.slice ryA ryn ryc] 55):=⟨_,rfl⟩
 have HT:=lh (show Touch [] w W from hW ▸ (Touch.refl [] w).alloc _)
 have HB:=lh (show W.heap[w.heap.size]?=some (.cells #[.int .i64 k0,.string k1,.slice A2 n2 c2',.int .i64 ck,.string cn,.int .i64 cvk,.int .i64 cvn,.string cvt,.string cop,.slice CA cnn cc,.slice NA nn nc,.slice EA en ec,.slice OA ol oc,.slice GA gn gc,.slice BA bn bc,.int .i64 count,.slice sxA sxn sxc,.slice rxA rxn rxc,.slice syA syn syc,.slice ryA ryn ryc] 55 (0,0)) from hW ▸ heap_alloc_new w _)
 have HWS:=lh (show W.heap.size=w.heap.size+1 by rw [hW];simp)
 have HW:=lh hW
 clear hW
 go_enter Tryz.func8,Tryz.ntmps8
 go_wp2_with fail
 rw [<- HW.out]
 refine (Hst.out _ HT.out).mono ?_
 rintro e w1 ⟨rfl,t1⟩
 have T1:=lh ((Touch.refl [] W).trans0 t1)
 have B1:=lh (T1.out.blk HB.out (by simp))
 clear t1
 have c1_18:w1.cell? ⟨w.heap.size,18,none⟩=some (.slice syA syn syc):=cell_blk B1.out rfl
 have c1_19:w1.cell? ⟨w.heap.size,19,none⟩=some (.slice ryA ryn ryc):=cell_blk B1.out rfl
 go_wp2_with fail
 refine (Hsu.out _ (HT.out.trans0 T1.out)).mono ?_
 rintro e w2 ⟨rfl,t2⟩
 have T2:=lh (T1.out.trans0 t2)
 have B2:=lh (T2.out.blk HB.out (by simp))
 clear t2
 go_wp2_with fail
 refine (Haw.out _ (HT.out.trans0 T2.out)).mono ?_
 rintro e w9 ⟨rfl,t9⟩
 have HT9:=lh ((HT.out.trans0 T2.out).trans0 t9)
 clear t9
 go_wp2_with fail
 go_ret
 exact ⟨rfl,HT9.out⟩
theorem inp_a3 {m:Nat} (x:PC) (d:PD m) (sx rx sy ry:SL) (a b:List CD) (ra rb:List (List VD)) (QA:Option Addr) (qc:Nat) (names:List ByteArray) (w:World) (hP:PlanAt w x d) (hX:TabAt w sx rx a ra) (hY:TabAt w sy ry b rb) (hN:RdK btE w QA names) (hnb:∀ s∈names,s.size<=1048576) (hnl:names.length<=2000000) (hd:d.In) (hta:TbIn a ra) (htb:TbIn b rb) (hG:NeedsAt w) (hPw:PowAt w) (h1:smallT a ra=true) (h2:smallT b rb=true) (h3:smallPl d=false) :
  Calls Tryz.prog 8 #[stVal x sx rx sy ry,.slice QA names.length qc] w fun e w'=>e=.returned (.bool true)/\Touch [] w w':=by
 have Hst:=lh fun w' (t:Touch [] w w')=>small_at (hX.touch0 t) hta
 have Hsu:=lh fun w' (t:Touch [] w w')=>small_at (hY.touch0 t) htb
 have Hsp:=lh fun w' (t:Touch [] w w')=>smallPlan_any m x d hd.ok w' (hP.touch0 t)
 have Haw:=lh fun w' (t:Touch [] w w')=>awake5_any w' (hG.touch0 t)
 have Hsc:=lh fun w'=>scansO_any x sx rx sy ry w'
 have HP:=lh hP
 have HX:=lh hX
 have HY:=lh hY
 have HD:=lh hd
 have HTA:=lh hta
 have HTB:=lh htb
 have HG:=lh hG
 have HPW:=lh hPw
 have HNM:=lh (And.intro hN (And.intro hnb hnl))
 have Hkd:=lh hP.kind
 clear hP hX hY hd hta htb hG hPw hN hnb hnl
 obtain ⟨k0,k1,⟨A2,n2,c2'⟩,⟨⟨ck,cn,⟨cvk,cvn,cvt⟩,cop⟩,CA,cnn,cc⟩,⟨NA,nn,nc⟩,⟨EA,en,ec⟩,⟨OA,ol,oc⟩,⟨GA,gn,gc⟩,⟨BA,bn,bc⟩,count⟩:=x
 obtain ⟨sxA,sxn,sxc⟩:=sx
 obtain ⟨rxA,rxn,rxc⟩:=rx
 obtain ⟨syA,syn,syc⟩:=sy
 obtain ⟨ryA,ryn,ryc⟩:=ry
 simp only [stVal,PC.val] at *
 rw [h1] at Hst
 rw [h2] at Hsu
 rw [h3] at Hsp
 clear h1 h2 h3
 obtain ⟨W,hW⟩:∃ W,W=w.alloc (.cells #[.int .i64 k0,.string k1,.slice A2 n2 c2',.int .i64 ck,.string cn,.int .i64 cvk,.int .i64 cvn,.string cvt,.string cop,.slice CA cnn cc,.slice NA nn nc,.slice EA en ec,.slice OA ol oc,.slice GA gn gc,.slice BA bn bc,.int .i64 count,.slice sxA sxn sxc,.slice rxA rxn rxc,.slice syA syn syc,.slice ryA ryn ryc] 55):=⟨_,rfl⟩
 have HT:=lh (show Touch [] w W from hW ▸ (Touch.refl [] w).alloc _)
 have HB:=lh (show W.heap[w.heap.size]?=some (.cells #[.int .i64 k0,.string k1,.slice A2 n2 c2',.int .i64 ck,.string cn,.int .i64 cvk,.int .i64 cvn,.string cvt,.string cop,.slice CA cnn cc,.slice NA nn nc,.slice EA en ec,.slice OA ol oc,.slice GA gn gc,.slice BA bn bc,.int .i64 count,.slice sxA sxn sxc,.slice rxA rxn rxc,.slice syA syn syc,.slice ryA ryn ryc] 55 (0,0)) from hW ▸ heap_alloc_new w _)
 have HWS:=lh (show W.heap.size=w.heap.size+1 by rw [hW];simp)
 have HW:=lh hW
 clear hW
 go_enter Tryz.func8,Tryz.ntmps8
 go_wp2_with fail
 rw [<- HW.out]
 refine (Hst.out _ HT.out).mono ?_
 rintro e w1 ⟨rfl,t1⟩
 have T1:=lh ((Touch.refl [] W).trans0 t1)
 have B1:=lh (T1.out.blk HB.out (by simp))
 clear t1
 have c1_18:w1.cell? ⟨w.heap.size,18,none⟩=some (.slice syA syn syc):=cell_blk B1.out rfl
 have c1_19:w1.cell? ⟨w.heap.size,19,none⟩=some (.slice ryA ryn ryc):=cell_blk B1.out rfl
 go_wp2_with fail
 refine (Hsu.out _ (HT.out.trans0 T1.out)).mono ?_
 rintro e w2 ⟨rfl,t2⟩
 have T2:=lh (T1.out.trans0 t2)
 have B2:=lh (T2.out.blk HB.out (by simp))
 clear t2
 clear c1_18 c1_19
 obtain ⟨c2_0,c2_1,c2_2,c2_3,c2_4,c2_5,c2_6,c2_7,c2_8,c2_9,c2_10,c2_11,c2_12,c2_13,c2_14,c2_15, -⟩:=blkz20 B2.out
 go_wp2_with fail
 refine (Hsp.out _ (HT.out.trans0 T2.out)).mono ?_
 rintro e w3 ⟨rfl,t3⟩
 have T3:=lh (T2.out.trans0 t3)
 have B3:=lh (T3.out.blk HB.out (by simp))
 clear t3
 clear c2_0 c2_1 c2_2 c2_3 c2_4 c2_5 c2_6 c2_7 c2_8 c2_9 c2_10 c2_11 c2_12 c2_13 c2_14 c2_15
 go_wp2_with fail
 refine (Haw.out _ (HT.out.trans0 T3.out)).mono ?_
 rintro e w9 ⟨rfl,t9⟩
 have HT9:=lh ((HT.out.trans0 T3.out).trans0 t9)
 clear t9
 go_wp2_with fail
 go_ret
 exact ⟨rfl,HT9.out⟩
theorem inp_a4 {m:Nat} (x:PC) (d:PD m) (sx rx sy ry:SL) (a b:List CD) (ra rb:List (List VD)) (QA:Option Addr) (qc:Nat) (names:List ByteArray) (w:World) (hP:PlanAt w x d) (hX:TabAt w sx rx a ra) (hY:TabAt w sy ry b rb) (hN:RdK btE w QA names) (hnb:∀ s∈names,s.size<=1048576) (hnl:names.length<=2000000) (hd:d.In) (hta:TbIn a ra) (htb:TbIn b rb) (hG:NeedsAt w) (hPw:PowAt w) (h1:smallT a ra=true) (h2:smallT b rb=true) (h3:smallPl d=true) (h4:¬ names.length<=20) :
  Calls Tryz.prog 8 #[stVal x sx rx sy ry,.slice QA names.length qc] w fun e w'=>e=.returned (.bool true)/\Touch [] w w':=by
 have Hst:=lh fun w' (t:Touch [] w w')=>small_at (hX.touch0 t) hta
 have Hsu:=lh fun w' (t:Touch [] w w')=>small_at (hY.touch0 t) htb
 have Hsp:=lh fun w' (t:Touch [] w w')=>smallPlan_any m x d hd.ok w' (hP.touch0 t)
 have Haw:=lh fun w' (t:Touch [] w w')=>awake5_any w' (hG.touch0 t)
 have Hsc:=lh fun w'=>scansO_any x sx rx sy ry w'
 have HP:=lh hP
 have HX:=lh hX
 have HY:=lh hY
 have HD:=lh hd
 have HTA:=lh hta
 have HTB:=lh htb
 have HG:=lh hG
 have HPW:=lh hPw
 have HNM:=lh (And.intro hN (And.intro hnb hnl))
 have Hkd:=lh hP.kind
 clear hP hX hY hd hta htb hG hPw hN hnb hnl
 obtain ⟨k0,k1,⟨A2,n2,c2'⟩,⟨⟨ck,cn,⟨cvk,cvn,cvt⟩,cop⟩,CA,cnn,cc⟩,⟨NA,nn,nc⟩,⟨EA,en,ec⟩,⟨OA,ol,oc⟩,⟨GA,gn,gc⟩,⟨BA,bn,bc⟩,count⟩:=x
 obtain ⟨sxA,sxn,sxc⟩:=sx
 obtain ⟨rxA,rxn,rxc⟩:=rx
 obtain ⟨syA,syn,syc⟩:=sy
 obtain ⟨ryA,ryn,ryc⟩:=ry
 simp only [stVal,PC.val] at *
 have h4':(20 < (names.length:Int))=True:=eq_true (by omega)
 clear h4
 rw [h1] at Hst
 rw [h2] at Hsu
 rw [h3] at Hsp
 clear h1 h2 h3
 obtain ⟨W,hW⟩:∃ W,W=w.alloc (.cells #[.int .i64 k0,.string k1,.slice A2 n2 c2',.int .i64 ck,.string cn,.int .i64 cvk,.int .i64 cvn,.string cvt,.string cop,.slice CA cnn cc,.slice NA nn nc,.slice EA en ec,.slice OA ol oc,.slice GA gn gc,.slice BA bn bc,.int .i64 count,.slice sxA sxn sxc,.slice rxA rxn rxc,.slice syA syn syc,.slice ryA ryn ryc] 55):=⟨_,rfl⟩
 have HT:=lh (show Touch [] w W from hW ▸ (Touch.refl [] w).alloc _)
 have HB:=lh (show W.heap[w.heap.size]?=some (.cells #[.int .i64 k0,.string k1,.slice A2 n2 c2',.int .i64 ck,.string cn,.int .i64 cvk,.int .i64 cvn,.string cvt,.string cop,.slice CA cnn cc,.slice NA nn nc,.slice EA en ec,.slice OA ol oc,.slice GA gn gc,.slice BA bn bc,.int .i64 count,.slice sxA sxn sxc,.slice rxA rxn rxc,.slice syA syn syc,.slice ryA ryn ryc] 55 (0,0)) from hW ▸ heap_alloc_new w _)
 have HWS:=lh (show W.heap.size=w.heap.size+1 by rw [hW];simp)
 have HW:=lh hW
 clear hW
 go_enter Tryz.func8,Tryz.ntmps8
 go_wp2_with fail
 rw [<- HW.out]
 refine (Hst.out _ HT.out).mono ?_
 rintro e w1 ⟨rfl,t1⟩
 have T1:=lh ((Touch.refl [] W).trans0 t1)
 have B1:=lh (T1.out.blk HB.out (by simp))
 clear t1
 have c1_18:w1.cell? ⟨w.heap.size,18,none⟩=some (.slice syA syn syc):=cell_blk B1.out rfl
 have c1_19:w1.cell? ⟨w.heap.size,19,none⟩=some (.slice ryA ryn ryc):=cell_blk B1.out rfl
 go_wp2_with fail
 refine (Hsu.out _ (HT.out.trans0 T1.out)).mono ?_
 rintro e w2 ⟨rfl,t2⟩
 have T2:=lh (T1.out.trans0 t2)
 have B2:=lh (T2.out.blk HB.out (by simp))
 clear t2
 clear c1_18 c1_19
 obtain ⟨c2_0,c2_1,c2_2,c2_3,c2_4,c2_5,c2_6,c2_7,c2_8,c2_9,c2_10,c2_11,c2_12,c2_13,c2_14,c2_15, -⟩:=blkz20 B2.out
 go_wp2_with fail
 refine (Hsp.out _ (HT.out.trans0 T2.out)).mono ?_
 rintro e w3 ⟨rfl,t3⟩
 have T3:=lh (T2.out.trans0 t3)
 have B3:=lh (T3.out.blk HB.out (by simp))
 clear t3
 clear c2_0 c2_1 c2_2 c2_3 c2_4 c2_5 c2_6 c2_7 c2_8 c2_9 c2_10 c2_11 c2_12 c2_13 c2_14 c2_15
 go_wp2_with fail
 refine (Haw.out _ (HT.out.trans0 T3.out)).mono ?_
 rintro e w9 ⟨rfl,t9⟩
 have HT9:=lh ((HT.out.trans0 T3.out).trans0 t9)
 clear t9
 go_wp2_with fail
 go_ret
 exact ⟨rfl,HT9.out⟩
end
section
open Go.RowKit
def inB (J:List ByteArray) (s:ByteArray):Bool:=J.any fun x=>decide (x=s)
theorem inB_yes {J:List ByteArray} {s:ByteArray} (h:s∈J):inB J s=true:=List.any_eq_true.2 ⟨s,h,decide_eq_true rfl⟩
theorem inB_no {J:List ByteArray} {s:ByteArray} (h:s∉J):¬ inB J s=true:=fun q=>by
 obtain ⟨x,hx,e⟩:=List.any_eq_true.1 q
 exact h (of_decide_eq_true e ▸ hx)
theorem srE_one (x:SrcC):∀ u∈srE x,u.oneCell'=true:=by
 intro u hu
 simp only [srE,List.mem_cons,List.not_mem_nil,or_false] at hu
 rcases hu with rfl | rfl | rfl <;> rfl
theorem info_src:(Tryz.prog.info? 36).map (fun i=>(i.zero,i.size,i.bytes))=some (some (.agg #[.string ⟨#[]⟩,.slice none 0 0,.slice none 0 0]),3,64):=by kernel_rfl
theorem srcs_filter {w:World} (p:ByteArray->Bool):∀ (xs:List SrcC) (l:List SrcD),xs.length=l.length->(∀ i (h1:i < xs.length) (h2:i < l.length),SrcAt w xs[i] l[i])->∀ (ys:List SrcC) (m:List SrcD),ys=(xs.filter fun x=>p x.name)->m=(l.filter fun d=>p d.name) ->
  ys.length=m.length/\∀ i (h1:i < ys.length) (h2:i < m.length),SrcAt w ys[i] m[i]
 | [],[],_,_,ys,m,hy,hm=>by
  rw [List.filter_nil] at hy hm
  subst hy hm
  exact ⟨rfl,fun i h=>absurd h (by simp)⟩
 | x :: xs,d :: l,hl,h,ys,m,hy,hm=>by
  have ih:=srcs_filter p xs l (by simpa using hl) (fun i h1 h2=>h (i+1) (by simpa using h1) (by simpa using h2)) _ _ rfl rfl
  have h0:SrcAt w x d:=h 0 (by simp) (by simp)
  have hn:x.name=d.name:=h0.1
  by_cases hp:p d.name=true
  ·rw [List.filter_cons_of_pos (p:=fun x:SrcC=>p x.name) (by rw [hn];exact hp)] at hy
   rw [List.filter_cons_of_pos (p:=fun d:SrcD=>p d.name) hp] at hm
   subst hy hm
   refine ⟨by rw [List.length_cons,List.length_cons,ih.1],fun i h1 h2 => ?_⟩
   cases i with
   | zero=>exact h0
   | succ i=>exact ih.2 i (by simpa using h1) (by simpa using h2)
  ·rw [List.filter_cons_of_neg (p:=fun x:SrcC=>p x.name) (by rw [hn];exact hp)] at hy
   rw [List.filter_cons_of_neg (p:=fun d:SrcD=>p d.name) hp] at hm
   subst hy hm
   exact ih
section
variable {m:Nat} {W:World} {d:PD m} {x:PC} {I:Option Addr} {l:List SrcD} {ns:List ByteArray}
theorem InAt.same (h:InAt W d x I l ns) (p:ByteArray->Bool) (h1:d.kind=1->p d.name=true) (h2:∀ s∈ns,p s=true):topV (typF d (srcV (l.filter fun q=>p q.name)) ns) (evF d (srcV (l.filter fun q=>p q.name)) ns)=topV (typF d (srcV l) ns) (evF d (srcV l) ns):=by
 obtain ⟨e1,e2⟩:=typF_congr (d:=d) (f:=srcV (l.filter fun q=>p q.name)) (g:=srcV l) (ns:=ns) h.hn (fun q=>srcV_filter l p _ (h1 q)) (fun s hs=>srcV_filter l p s (h2 s hs))
 rw [e1]
 by_cases hk:1<=d.kind/\d.kind<=9
 ·rw [e2 hk.1 hk.2]
 ·have hw:d.kind < 1\/9 < d.kind:=by omega
  have:typF d (srcV l) ns=(20,[]):=by unfold typF;rw [if_pos hw]
  rw [this]
  rfl
theorem InAt.evLe (h:InAt W d x I l ns):(topV (typF d (srcV l) ns) (evF d (srcV l) ns)).2.1.length<=140737000000000/\(topV (typF d (srcV l) ns) (evF d (srcV l) ns)).2.2.length<=140737000000000/\∀ r∈(topV (typF d (srcV l) ns) (evF d (srcV l) ns)).2.2,r.length<=140737000000000:=by
 have gl:∀ E:Int × List CD × List (List VD),GdT E.2.1 E.2.2->E.2.1.length<=140737000000000/\E.2.2.length<=140737000000000/\∀ r∈E.2.2,r.length<=140737000000000:=fun E q=>⟨by have:=q.n;omega,by have:=q.m;omega,fun r hr=>by have:=q.len r hr;have:=q.n;omega⟩
 have en:∀ E:Int × List CD × List (List VD),E.2=([],[])->E.2.1.length<=140737000000000/\E.2.2.length<=140737000000000/\∀ r∈E.2.2,r.length<=140737000000000:=fun E q=>by rw [q];simp
 by_cases ht:(typF d (srcV l) ns).1=0
 case neg=>exact en _ (by unfold topV;rw [if_neg ht])
 have e:topV (typF d (srcV l) ns) (evF d (srcV l) ns)=evF d (srcV l) ns:=if_pos ht
 rw [e]
 by_cases h0:(evF d (srcV l) ns).1=0
 case neg =>
  refine en _ ?_
  unfold evF at h0 ⊢
  split
  ·rename_i q;rw [if_pos q] at h0;exact absurd rfl h0
  ·rename_i q;rw [if_neg q] at h0
   split
   ·rename_i q2;rw [if_pos q2] at h0;exact nodeE_no h0
   ·rename_i q2;rw [if_neg q2] at h0;exact nodeE_no h0
 refine gl _ ?_
 unfold typF at ht
 unfold evF at h0 ⊢
 by_cases hw:d.kind < 1\/9 < d.kind
 ·rw [if_pos hw] at ht;exact absurd ht (by decide)
 ·rw [if_neg hw] at ht
  by_cases h1:d.kind=1
  ·rw [if_pos h1] at ht ⊢
   exact (h.scE d.name 0 ht).2.1
  ·rw [if_neg h1] at ht h0 ⊢
   by_cases h2:needI d.kind=2
   ·rw [if_pos h2] at ht h0 ⊢
    obtain ⟨e1, -, -⟩:=nodeV_zero ht
    obtain ⟨i1,i2⟩:=errL2 e1
    obtain ⟨-,r2, -⟩:=h.scE _ 0 i1
    obtain ⟨-,p2, -⟩:=h.scE _ 0 i2
    exact (nodeE_gd (fineK h.fd r2.n p2.n r2.c p2.c).1 (rows_bd d h.fd _ _ _ _ r2 (fun _=>p2)) h0).1
   ·rw [if_neg h2] at ht h0 ⊢
    obtain ⟨e1, -, -⟩:=nodeV_zero ht
    obtain ⟨-,r2, -⟩:=h.scE _ 0 (errL1 e1)
    exact (nodeE_gd (fineK h.fd (b:=[]) r2.n (by simp) r2.c (by simp)).1 (rows_bd d h.fd _ _ [] [] r2 (fun z=>absurd z h2)) h0).1
end
end
end Go.Proofs.YtafoklilkdnepaaGreatDoor
